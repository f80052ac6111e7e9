import Derived.IntWalk
import Derived.MapKept
import Derived.Tactics
import Derived.RangeFuncSeq
import Derived.Test.YteindpciaceeeaaGreatZSh1toSh7b
set_option linter.all false
set_option maxHeartbeats 8000000
namespace Go.Sh
open Go
variable [Con] {A:Type} {I:Itp A}
section
variable {P:Program} {V:Val}
theorem iS{st xt ty e e2:TypeId}{base2:Option Addr}{sLen sCap m cap2 sz:Nat}{w:World}{ws:List Value}(h1:P.underlying st=some (.slice e))(h2:P.underlying xt=some (.slice e2))(h3:bW P e=some sz)
 (h4:(Builtin.firstCells sz m (.slice base2 m cap2)).run P w=.ok ws.toArray w) (h5:sLen+m<=sCap):
 (Builtin.append_ #[st,xt] ty #[.slice none sLen sCap,.slice base2 m cap2]).run P w=.ok (.slice none (sLen+m) sCap) w:=by
 simp [Builtin.append_,underlying,h1,h2,aV h3,Builtin.lenOf,h4,h5]
theorem jT{st xt ty e e2:TypeId}{a:Addr}{base2:Option Addr}{sLen sCap m cap2 sz:Nat}{w w':World}{ws:List Value}(h1:P.underlying st=some (.slice e))(h2:P.underlying xt=some (.slice e2))(h3:bW P e=some sz)
 (h4:(Builtin.firstCells sz m (.slice base2 m cap2)).run P w=.ok ws.toArray w) (h5:sLen+m<=sCap) (h6:(storeCells (a.add (sLen*sz)) ws).run P w=.ok () w'):
 (Builtin.append_ #[st,xt] ty #[.slice (some a) sLen sCap,.slice base2 m cap2]).run P w=.ok (.slice (some a) (sLen+m) sCap) w':=by
 simp [Builtin.append_,underlying,h1,h2,aV h3,Builtin.lenOf,h4,h5,h6]
theorem kJ{st xt ty e e2:TypeId}{i:TypeInfo}{z:Value}{base base2:Option Addr}{sLen sCap m cap2:Nat}{w:World}{ws row:List Value}(h1:P.underlying st=some (.slice e))(h2:P.underlying xt=some (.slice e2))(h3:P.info? e=some i)(hz:i.zero=some z)
 (h4:(Builtin.firstCells i.size m (.slice base2 m cap2)).run P {w with drawn:=w.drawn+1} =.ok ws.toArray {w with drawn:=w.drawn+1}) (h5:sCap<sLen+m) (hb:i.bytes<=4096) (hm:sLen+m<=4294967296)
 (h6:(Builtin.firstCells i.size sLen (.slice base sLen sCap)).run P {w with drawn:=w.drawn+1} =.ok row.toArray {w with drawn:=w.drawn+1}):
 ∃cap rest,sLen+m<=cap/\rest.length=(cap - (sLen+m))*z.cells.size/\
  (Builtin.append_ #[st,xt] ty #[.slice base sLen sCap,.slice base2 m cap2]).run P w=
    .ok (.slice (some ⟨w.heap.size,0,none⟩) (sLen+m) cap) {w with drawn:=w.drawn+1,heap:=w.heap.push (.cells (row++ws++rest).toArray e) } :=by
 have hsz:bW P e=some i.size:=by simp [bW,h3]
 have hn: ¬(sLen+m<=sCap):=by omega
 have hmx:IntKind.i64.max=9223372036854775807:=by decide
 have hn2: ¬((((sLen+m:Nat):Int)>IntKind.i64.max)/\(false=true\/i.bytes=0)):=by rw [hmx];omega
 have hcap:=nextslicecap_le h5
 have hn3: ¬(Builtin.nextslicecap (sLen+m) sCap*i.bytes>2^48):=by
  have:Builtin.nextslicecap (sLen+m) sCap*i.bytes<=(2*4294967296)*4096:=Nat.mul_le_mul (by omega) hb
  omega
 let q:=Question.appendCap (sLen+m) sCap e
 refine⟨q.cut (w.tape w.drawn q),(Builtin.zeroCells z.cells (q.cut (w.tape w.drawn q) - (sLen+m))).toList,?_,?_,?_⟩
 ·show sLen+m<=sLen+m+_;omega
 ·simp [Builtin.zeroCells]
 ·have hf:Question.forced (.appendCap (sLen+m) sCap e)=false:=rfl;have hti:(typeInfo e).run P w=.ok i w:=by simp [typeInfo,h3]
  have hti2:(typeInfo e).run P {w with drawn:=w.drawn+1} =.ok i {w with drawn:=w.drawn+1} :=by simp [typeInfo,h3]
  have hzr:(zeroValue e).run P {w with drawn:=w.drawn+1} =.ok z {w with drawn:=w.drawn+1} :=by simp [zeroValue,typeInfo,h3,hz]
  unfold Builtin.append_;simp only [List.getElem?_toArray,List.getElem?_cons_zero,List.getElem?_cons_succ,Sem.run_bind,underlying,run_program,Result.andThen_ok,h1,h2,Sem.run_pure,aV hsz,Builtin.lenOf,Bool.false_eq_true,if_false,hn,Sem.run_ite];simp only [hti,Result.andThen_ok,hn3,if_false,run_choose,hf,Bool.false_eq_true,Sem.run_bind,run_askRoom,h6,h4,hzr,Bool.not_false,if_true,Sem.run_pure,newRow,run_newObj,hti2,false_or];have hn4: ¬((((sLen+m:Nat):Int)>IntKind.i64.max)/\i.bytes=0):=by rw [hmx];omega
  rw [if_neg hn4];congr 3;apply congrArg (fun c=>Obj.cells c e);apply Array.ext';simp [q]
theorem dV{s:Sem Value}{v:Value}{w w':World}(h:s.run P w=.ok v w'):(do Pure.pure (.value (<-s)):Sem Next).run P w=.ok (.value v) w':=by
 simp only [Sem.run_bind,h,Result.andThen_ok,Sem.run_pure]
theorem rV: ∀(ws row tail:List Value),ws.length<=tail.length->dN (row++tail) row.length ws=(row++ws)++tail.drop ws.length
 | [],row,tail,_=>by simp [dN]
 | x::ws,row,[],h=>by simp at h
 | x::ws,row,y::tail,h=>by
   simp only [dN,List.length_cons,List.drop_succ_cons]
   have e1:(row++y::tail).set row.length x=(row++ [x])++tail:=by
    rw [List.set_append_right _ _ (Nat.le_refl _),Nat.sub_self];simp
   have e2:row.length+1=(row++ [x]).length :=by simp
   rw [e1,e2,rV ws (row++ [x]) tail (by simp at h;omega)]
   simp
theorem aK0{P:Program}{V:Val}{n:Nat}{hR:PHeap}{w:World}{v u:AVal}{h:bH A}{k:Nat}{s:Sem Next}(hc: ∀V' x,Rep V' v x->Rep V' u x)(ho:dG I P V n hR w v h k s):dG I P V n hR w u h k s:=by
 obtain⟨nx,w',V',v',h1,h2,h3,h4,h5,h6,h7⟩:=ho;exact⟨nx,w',V',v',h1,h2,h3,h4,hc _ _ h5,h6,h7⟩
theorem kT{V:Val}{l n sz:Nat}{x:Value}(h:Rep V (.slice l 0 n sz) x):Rep V (.tslice l 0 n sz) x:=by
 obtain⟨base,cap,e,hc,hb⟩:=h;refine⟨base,cap,e,hc,?_⟩;rw [Nat.zero_mul];exact hb
theorem EA{st xt ty:TypeId}{s x:AVal}{h:aC A}{r:ORes A}{hR:PHeap}{w:World}{s' x':Value}{sem:Sem Next}(hr:yD P st xt s x h=some r)(ho:r.obl)(hi:Inv I V (toF h) hR w)
 (hn: ∀l,h.length<=l->l<h.length+r.new.length->V l=none) (hs:Rep V s s') (hx:Rep V x x') (hsem:sem=(do Pure.pure (.value (<-Builtin.append_ #[st,xt] ty #[s',x'])))):
 dG I P V h.length hR w r.v (toF (r.apply h)) r.new.length sem:=by
 subst hsem;unfold yD at hr;split at hr
 case h_2=>cases hr
 rename_i e e2 h1 h2;cases hti:P.info? e with
 | none=>rw [hti]at hr;cases hr
 | some i=>
   rw [hti]at hr;simp only at hr;split at hr
   case isFalse=>cases hr
   rename_i hcond;obtain⟨hpos,hbytes,hzero⟩:=hcond;have hsz:bW P e=some i.size:=by simp [bW,hti]
   obtain⟨z,hz,hzl⟩: ∃z,i.zero=some z/\(fW z).cells.length =i.size:=by
    cases hz:i.zero with
    | none=>rw [hz]at hzero;cases hzero
    | some z=>rw [hz]at hzero;exact⟨z,rfl,by simpa using hzero⟩
   have hzs:z.cells.size=i.size:=by
    have:=aI.length (cY V z);rw [Array.length_toList]at this;rw [this,hzl]
   cases hsrc:kK x i.size h with
   | none=>rw [hsrc]at hr;cases hr
   | some q=>
     obtain⟨ey,m,lx,p⟩:=q;rw [hsrc]at hr;simp only at hr
     have src: ∀n,onp p-> ∃ws base2 cap2,x'=.slice base2 m cap2/\(Builtin.firstCells i.size m x').run P {w with drawn:=n} =.ok ws.toArray {w with drawn:=n} /\ws.length=m*i.size/\cN V ey ws/\ ∀v∈ws,v.oneCell'=true:=
      fun n hp=>by
       obtain⟨ws,base2,cap2,e1,e2,e3,e4,e5⟩:=kL hsrc hp (hi.drew n) hx;refine⟨ws,base2,cap2,e1,?_,e3,e4,e5⟩;have:=e2 m (Nat.le_refl _)
       rwa [<-e3,List.take_length]at this
     have main: ∀(l n:Nat) (en e':aG A) (base:Option Addr) (cap:Nat),aL h l=some en->s'=.slice base n cap->n<=cap->mS en ey=some e'->onp p->n+m<=4294967296->
      ((∃c xs,en=.ints c xs/\n=xs.length/\i.size=1)\/(∃vs,en=.cells vs/\n*i.size=vs.length)\/(∃ks rows,en=.tab ks rows/\n=rows.length/\i.size=ks.length))->
      ((∃b k,V l=some (b,k)/\base=some ⟨b,0,none⟩/\0+cap*i.size<=k)\/(n=0/\cap=0))->V h.length=none->
      dG I P V h.length hR w (.slice h.length 0 (n+m) i.size) (toF (hupd h [(l,none)]++ [e'].map some)) 1 (do Pure.pure (.value (<-Builtin.append_ #[st,xt] ty #[s',x']))):=by
      intro l n en e' base cap hl hs' hcap hj hp hbig hrow hb hV
      have hwd:en.wide=true:=by
       rcases hrow with⟨c,xs,rfl,_⟩ | ⟨vs,rfl,_⟩ | ⟨ks,rows,rfl,_,hk⟩
       ·rfl
       ·rfl
       ·show Nat.blt 0 ks.length=true;exact Nat.ble_eq_true_of_le (by omega)
      subst hs';have hlt:=cB hl
      have hF:toF (hupd h [(l,none)]++ [e'].map some)=((toF h).put l none).put h.length (some e'):=by
       have h1:hupd h [(l,none)]=h.set l none:=rfl;rw [h1];have h2:(h.set l none).length =h.length:=by simp
       have:=fK (h.set l none) e';rw [h2,fP none hlt]at this;exact this
      rw [hF];have hne:h.length≠l:=by omega
      obtain⟨ws,base2,cap2,rfl,hw1,hw2,hw3,hw4⟩:=src w.drawn hp;obtain⟨ws',base2',cap2',he',hw1',hw2',hw3',hw4'⟩:=src (w.drawn+1) hp;cases he'
      have grow: ∀row:List Value,cN V en row->row.length=n*i.size->cap<n+m->(∀d,(Builtin.firstCells i.size n (.slice base n cap)).run P {w with drawn:=d} =.ok row.toArray {w with drawn:=d})->
       dG I P V h.length hR w (.slice h.length 0 (n+m) i.size) (((toF h).put l none).put h.length (some e')) 1 (do Pure.pure (.value (<-Builtin.append_ #[st,xt] ty #[.slice base n cap,.slice base2 m cap2]))):=by
       intro row r1 r2 hlt2 r3;obtain⟨ncap,rest,g1,g2,g3⟩:=kJ (ty:=ty) h1 h2 hti hz hw1' hlt2 hbytes hbig (r3 _);have hrow':cN V e' (row++ws'):=wX hj r1 hw3'
       have hsize:(row++ws'++rest).toArray.size =ncap*i.size:=by
        simp only [List.size_toArray,List.length_append,r2,hw2',g2,hzs];rw [<-Nat.add_mul,<-Nat.add_mul];congr 1;omega
       have hinv:=Inv.push (e:=e') (k:=ncap*i.size) (o:=.cells (row++ws'++rest).toArray e) ((hi.drew (w.drawn+1)).kill l) hV (by simp [bH.put,hne];exact cA (Nat.le_refl _))
        (kA (aKa _ _ _) (cN.mono (aKh hV) hrow') (by simp;rfl) hsize)
       have hrun:(do Pure.pure (.value (<-Builtin.append_ #[st,xt] ty #[.slice base n cap,.slice base2 m cap2])):Sem Next).run P w=.ok (.value (.slice (some ⟨w.heap.size,0,none⟩) (n+m) ncap)) {w with drawn:=w.drawn+1,heap:=w.heap.push (.cells (row++ws'++rest).toArray e) } :=by
        simp only [Sem.run_bind,g3,Result.andThen_ok,Sem.run_pure]
       refine⟨_,_,V.add h.length (w.heap.size,ncap*i.size),_,hrun,.inl rfl,aKh hV,i6,?_,hinv,⟨rfl,rfl,by simp,fun _ _=>dP _ _ _ _⟩⟩
       exact⟨_,_,rfl,g1,.inl ⟨_,_,aKa _ _ _,rfl,by omega⟩⟩
      have hVx: ∃V':Val,V.le V'/\(∀x,V l=some x->V' h.length=some x)/\(∀l,V l=none->V' l≠none->h.length<=l/\l<h.length+1):=by
       cases hvl:V l with
       | none=>exact⟨V,V.le_refl,fun x e=>(by cases e),fun l e f=>(f e).elim⟩
       | some x=>exact⟨V.add h.length x,aKh hV,fun y e=>by cases e;exact aKa _ _ _,i6⟩
      obtain⟨V',v1,v2,v3⟩:=hVx;obtain⟨row,r1,r2,r3⟩:=aEI hi hl hpos hrow hb;rcases r3 with⟨b,k,cs,T,tail,t1,t2,t3,t4,t5,t6,t7⟩ | ⟨t1,t2⟩
      ·subst t2
       have hfirst: ∀d,(Builtin.firstCells i.size n (.slice (some ⟨b,0,none⟩) n cap)).run P {w with drawn:=d} =.ok row.toArray {w with drawn:=d} :=by
        intro d;refine dX (w:= {w with drawn:=d}) t3 row r2 ?_
        intro j v hj;rw [<-Array.getElem?_toList,t5,Nat.zero_add,List.getElem?_append_left]
        ·exact hj
        ·cases Nat.lt_or_ge j row.length with
         | inl g=>exact g
         | inr g=>rw [List.getElem?_eq_none g]at hj;cases hj
       by_cases hfit:n+m<=cap
       ·have hsp:n*i.size+ws.length<=cs.size:=by
         rw [hw2,<-Nat.add_mul];exact Nat.le_trans (Nat.mul_le_mul_right _ hfit) (by omega)
        obtain⟨w',cs',q1,q2,q3,q4,q5⟩:=d4 (P:=P) ws 0 w b (n*i.size) cs T t3 hw4 (by omega)
        have hrun:=jT (ty:=ty) (a:=⟨b,0,none⟩) h1 h2 hsz hw1 hfit (w':=w') (by rw [Addr.add_lit,Nat.zero_add];exact q1)
        have hrow':cN V e' (row++ws):=wX hj r1 hw3
        have hcs':cs'.toList=(row++ws)++tail.drop ws.length:=by
         rw [q3,t5,Nat.add_zero,<-r2];exact rV ws row tail (by rw [<-Array.length_toList,t5,<-r2]at hsp;simp at hsp;omega)
        have hk':cs'.size=k:=by
         rw [<-Array.length_toList,q3,eB,Array.length_toList];exact t4
        have hrep:=hi.replace (e:=en) (e':=e') hl (b:=b) (o':=.cells cs' T) t7 (kA t1 hrow' hcs' hk') q2 q4;have hmv:=hrep.move (m:=h.length) hne (e:=e') (e':=e') (by simp [bH.put]) (by simp [bH.put,hne];exact cA (Nat.le_refl _)) v1 (fun g hg=>qL v1 v2 hg)
        have hput:(((toF h).put l (some e')).put l none).put h.length (some e')=((toF h).put l none).put h.length (some e'):=by
         funext x;by_cases hx1:x=h.length
         ·simp [bH.put,hx1]
         ·by_cases hx2:x=l<;>simp [bH.put,hx1,hx2]
        rw [hput]at hmv;refine⟨_,w',V',_,dV hrun,.inl rfl,v1,v3,?_,hmv,q5⟩;exact⟨_,cap,rfl,hfit,.inl ⟨b,k,v2 _ t1,rfl,by omega⟩⟩
       ·exact grow row r1 r2 (by omega) hfirst
      ·subst t1 t2;have hrow0:row=[]:=List.length_eq_zero_iff.1 (by simpa using r2)
       subst hrow0
       by_cases hm:m=0
       ·subst hm;have hws:ws=[]:=List.length_eq_zero_iff.1 (by simpa using hw2)
        subst hws
        have hrun:(Builtin.append_ #[st,xt] ty #[.slice base 0 0,.slice base2 0 cap2]).run P w=.ok (.slice base 0 0) w:=by
         cases base with
         | none=>exact iS h1 h2 hsz hw1 (Nat.le_refl _)
         | some a=>exact jT h1 h2 hsz hw1 (Nat.le_refl _) (by simp [storeCells])
        refine⟨_,w,V',_,dV hrun,.inl rfl,v1,v3,?_,?_,aKp w⟩
        ·exact⟨base,0,rfl,Nat.le_refl _,.inr ⟨rfl,rfl⟩⟩
        ·exact hi.move hne hl (cA (Nat.le_refl _)) v1 (fun g hg=>JQ hwd hj r1 hw3 v1 v2 hg)
       ·exact grow [] r1 r2 (by omega) (fun d=>cC)
     have nil0: ∀(base:Option Addr),s'=.slice base 0 0->onp p->m=0->Rep V (r.v) (.slice base 0 0)->dG I P V h.length hR w r.v (toF h) 0 (do Pure.pure (.value (<-Builtin.append_ #[st,xt] ty #[s',x']))):=by
      intro base hs' hp hm hrep;subst hs' hm;obtain⟨ws,base2,cap2,rfl,hw1,hw2,hw3,hw4⟩:=src w.drawn hp;have hws:ws=[]:=List.length_eq_zero_iff.1 (by simpa using hw2)
      subst hws
      have hrun:(Builtin.append_ #[st,xt] ty #[.slice base 0 0,.slice base2 0 cap2]).run P w=.ok (.slice base 0 0) w:=by
       cases base with
       | none=>exact iS h1 h2 hsz hw1 (Nat.le_refl _)
       | some a=>exact jT h1 h2 hsz hw1 (Nat.le_refl _) (by simp [storeCells])
      exact dG.pure hi hrep (dV hrun)
     have nil1: ∀(base:Option Addr),s'=.slice base 0 0->onp p->m<=4294967296->(ey=.cells []->False)->V h.length=none->(cN V ey []-> ∀V':Val,(∃b,V' h.length=some (b,0))->ey.interp I V' h.length .emp)->
      dG I P V h.length hR w (.slice h.length 0 m i.size) (toF (h++ [some ey])) 1 (do Pure.pure (.value (<-Builtin.append_ #[st,xt] ty #[s',x']))):=by
      intro base hs' o1 o2 hne hV hemp;subst hs';obtain⟨ws,base2,cap2,rfl,hw1,hw2,hw3,hw4⟩:=src (w.drawn+1) o1;obtain⟨ws0,base20,cap20,h0,hw10,hw20,hw30,hw40⟩:=src w.drawn o1;cases h0
      by_cases hm:m=0
      ·subst hm;have hws:ws0=[]:=List.length_eq_zero_iff.1 (by simpa using hw20)
       subst hws
       have hrun:(Builtin.append_ #[st,xt] ty #[.slice base 0 0,.slice base2 0 cap2]).run P w=.ok (.slice base 0 0) w:=by
        cases base with
        | none=>exact iS h1 h2 hsz hw10 (Nat.le_refl _)
        | some a=>exact jT h1 h2 hsz hw10 (Nat.le_refl _) (by simp [storeCells])
       have hinv:=hi.emptyE hV (cA (Nat.le_refl _)) (hemp hw30);refine⟨_,w,V.add h.length (0,0),_,dV hrun,.inl rfl,aKh hV,i6,⟨_,_,rfl,Nat.le_refl _,.inr ⟨rfl,rfl⟩⟩,?_,aKp w⟩;rw [fK];exact hinv
      ·obtain⟨ncap,rest,g1,g2,g3⟩:=kJ (ty:=ty) (base:=base) (sLen:=0) (sCap:=0) (row:=[]) h1 h2 hti hz hw1 (by omega) hbytes (by omega) cC
       have hsize:([]++ws++rest).toArray.size =ncap*i.size:=by
        simp only [List.size_toArray,List.length_append,hw2,g2,hzs,List.length_nil,Nat.zero_add];rw [<-Nat.add_mul];congr 1;omega
       have hinv:=Inv.push (e:=ey) (k:=ncap*i.size) (o:=.cells ([]++ws++rest).toArray e) (hi.drew (w.drawn+1)) hV (cA (Nat.le_refl _))
        (kA (aKa _ _ _) (cN.mono (aKh hV) hw3) (by simp;rfl) hsize)
       have hrun:=dV g3;rw [Nat.zero_add]at hrun g1;refine⟨_,_,V.add h.length (w.heap.size,ncap*i.size),_,hrun,.inl rfl,aKh hV,i6,?_,?_,⟨rfl,rfl,by simp,fun _ _=>dP _ _ _ _⟩⟩
       ·exact⟨_,_,rfl,g1,.inl ⟨_,_,aKa _ _ _,rfl,by omega⟩⟩
       ·rw [fK];exact hinv
     have nilE:(ey=.cells []->False)->(∀ks ys,ey=.tab ks ys->False)->cN V ey []-> ∀V':Val,(∃b,V' h.length=some (b,0))->ey.interp I V' h.length .emp :=by
      intro hne hne2 hr V' hb;cases ey with
      | ints c xs=>cases xs with
        | nil=>exact .inl ⟨rfl,rfl,hb⟩
        | cons y ys=>have e2:([]:List Value)=_:=hr;cases e2
      | cells vs=>
        have:vs=[]:=List.length_eq_zero_iff.1 (aI.length hr).symm;subst this;exact(hne rfl).elim
      | abs t ps=>exact hr.elim
      | tab ks ys=>exact(hne2 ks ys rfl).elim
      | imap kk vc m=>exact hr.elim
      | iter lm kk vc m left cur=>exact hr.elim
     split at hr
     ·rename_i l off n sz;split at hr
      case isFalse=>cases hr
      rename_i hc;obtain⟨hc1,hc2⟩:=hc;subst hc1;obtain⟨base,cap,hs',hcap,hb⟩:=hs;split at hr
      ·rename_i c xs hl;cases hj:mS (.ints c xs) ey with
       | none=>rw [hj]at hr;cases hr
       | some e'=>
         rw [hj]at hr;simp only [sI']at hr;subst hr;obtain⟨o1,o2,o3,o4,o5⟩:=eH.1 ho;subst o2;exact main l n (.ints c xs) e' base cap hl hs' hcap hj o1 o5 (.inl ⟨c,xs,rfl,o3,o4⟩) hb (hn _ (Nat.le_refl _) (by simp))
      ·rename_i vs hl;split at hr
       case isFalse=>cases hr
       rename_i hv;cases hj:mS (.cells vs) ey with
       | none=>rw [hj]at hr;cases hr
       | some e'=>
         rw [hj]at hr;simp only [sI']at hr;subst hr;obtain⟨o1,o5⟩:=eH.1 ho;rw [hv.1]at hb;exact main l n (.cells vs) e' base cap hl hs' hcap hj o1 o5 (.inr (.inl ⟨vs,rfl,hv.2⟩)) hb (hn _ (Nat.le_refl _) (by simp))
      ·cases hr
     ·rename_i l r0 n w0;split at hr
      case isFalse=>cases hr
      rename_i hc;obtain⟨hc1,hc2⟩:=hc;subst hc1;obtain⟨base,cap,hs',hcap,hb⟩:=hs;split at hr
      ·rename_i ks rows hl;split at hr
       case isFalse=>cases hr
       rename_i hkw;cases hj:mS (.tab ks rows) ey with
       | none=>rw [hj]at hr;cases hr
       | some e'=>
         rw [hj]at hr;simp only [sI']at hr;subst hr;obtain⟨o1,o2,o3,o5⟩:=eH.1 ho;subst o2;rw [Nat.zero_mul]at hb;exact aK0 (fun _ _=>kT) (main l n (.tab ks rows) e' base cap hl hs' hcap hj o1 o5 (.inr (.inr ⟨ks,rows,rfl,o3,hkw.symm⟩)) hb (hn _ (Nat.le_refl _) (by simp)))
      ·cases hr
     ·obtain⟨base,hs'⟩:=hs;split at hr
      ·simp only [sI']at hr;subst hr;obtain⟨o1,o2⟩:=eH.1 ho;subst o2;rw [cU rfl rfl];exact nil0 base hs' o1 rfl ⟨base,rfl⟩
      ·split at hr
       case isFalse=>cases hr
       rename_i ks ys hk;simp only [sI']at hr;subst hr;obtain⟨o1,o2⟩:=eH.1 ho
       exact aK0 (fun _ _=>kT) (nil1 base hs' o1 o2 (fun h=>by cases h) (hn _ (Nat.le_refl _) (by simp)) (fun h=>by
        refine fun V' hb=>?_;have:ys=[]:=nR (by omega) h
        subst this;exact .inl ⟨rfl,rfl,hb⟩))
      ·rename_i hne hne2;simp only [sI']at hr;subst hr;obtain⟨o1,o2⟩:=eH.1 ho;exact nil1 base hs' o1 o2 (fun h=>hne h) (hn _ (Nat.le_refl _) (by simp)) (nilE hne hne2)
     ·split at hr
      case isFalse=>cases hr
      rename_i hnil;have:=hU hnil;subst this;have hs':s'=.slice none 0 0:=hs;split at hr
      ·simp only [sI']at hr;subst hr;obtain⟨o1,o2⟩:=eH.1 ho;subst o2;rw [cU rfl rfl];exact nil0 none hs' o1 rfl rfl
      ·split at hr
       case isFalse=>cases hr
       rename_i ks ys hk;simp only [sI']at hr;subst hr;obtain⟨o1,o2⟩:=eH.1 ho
       exact aK0 (fun _ _=>kT) (nil1 none hs' o1 o2 (fun h=>by cases h) (hn _ (Nat.le_refl _) (by simp)) (fun h=>by
        refine fun V' hb=>?_;have:ys=[]:=nR (by omega) h
        subst this;exact .inl ⟨rfl,rfl,hb⟩))
      ·rename_i hne hne2;simp only [sI']at hr;subst hr;obtain⟨o1,o2⟩:=eH.1 ho;exact nil1 none hs' o1 o2 (fun h=>hne h) (hn _ (Nat.le_refl _) (by simp)) (nilE hne hne2)
end
end Go.Sh
namespace Go.Sh
open Go
variable [Con] {A:Type} {I:Itp A}
section
variable {P:Program} {V:Val}
theorem OI{t ty:TypeId}{a v:AVal}{x:Value}{w:World}(h:aBM P t a=some v)(hx:Rep V a x): ∃v',(Builtin.len_ #[t] ty #[x]).run P w=.ok v' w/\Rep V v v':=by
 unfold aBM at h;split at h
 ·rename_i s hu;simp at h;subst h;have:x=.string s:=hx;subst this;exact⟨_,by simp [Builtin.len_,underlying,hu,goInt],rfl⟩
 ·rename_i hu;simp at h;subst h;obtain⟨base,cap,rfl,_⟩:=hx;exact⟨_,by simp [Builtin.len_,underlying,hu,goInt],rfl⟩
 ·rename_i hu;simp at h;subst h;have:x=.slice _ _ _:=hx;subst this;exact⟨_,by simp [Builtin.len_,underlying,hu,goInt],rfl⟩
 ·rename_i hu;simp at h;subst h;obtain⟨base,cap,rfl,_⟩:=hx;exact⟨_,by simp [Builtin.len_,underlying,hu,goInt],rfl⟩
 ·rename_i hu;simp at h;subst h;obtain⟨base,cap,rfl,_⟩:=hx;exact⟨_,by simp [Builtin.len_,underlying,hu,goInt],rfl⟩
 ·rename_i hu;simp at h;subst h;obtain⟨base,cap,rfl,_⟩:=hx;exact⟨_,by simp [Builtin.len_,underlying,hu,goInt],rfl⟩
 ·rename_i hu;simp at h;subst h;obtain⟨base,rfl⟩:=hx;exact⟨.int .i64 0,by simp [Builtin.len_,underlying,hu,goInt],rfl⟩
 ·rename_i n e hu;simp at h;subst h;exact⟨_,by simp [Builtin.len_,underlying,hu,goInt],rfl⟩
 ·cases h
theorem OK{w:World} : ∀(xs:List AVal) (x v:AVal) (x':Value) (ys:List Value),i7 (fun m n=>ilt m n) x xs=some v->Rep V x x'->aI V xs ys-> ∃v',(ys.foldlM Builtin.min2 x').run P w=.ok v' w/\Rep V v v':=by
 intro xs
 induction xs with
 | nil=>
   intro x v x' ys h hx hr;have:ys=[]:=hr;subst this;cases x<;>simp [i7]at h
   subst h;exact⟨x',by simp,hx⟩
 | cons y xs ih=>
   rintro x v x' _ h hx ⟨y',ys,rfl,ry,rs⟩;cases x<;>cases y<;>simp [i7]at h
   obtain⟨rfl,h⟩:=h;rename_i k n m;have e1:x'=.int k n:=hx;have e2:y'=.int k m:=ry;subst e1 e2;obtain⟨v',h1,h2⟩:=ih _ v (.int k (if m<n then m else n)) ys h (by by_cases hc:m<n<;>simp [hc,Rep,bI]) rs
   exact⟨v',by simp only [List.foldlM_cons,Builtin.min2,Sem.run_bind,Sem.run_pure,Result.andThen_ok,h1],h2⟩
theorem OJ{w:World} : ∀(xs:List AVal) (x v:AVal) (x':Value) (ys:List Value),i7 (fun m n=>ilt n m) x xs=some v->Rep V x x'->aI V xs ys-> ∃v',(ys.foldlM Builtin.max2 x').run P w=.ok v' w/\Rep V v v':=by
 intro xs
 induction xs with
 | nil=>
   intro x v x' ys h hx hr;have:ys=[]:=hr;subst this;cases x<;>simp [i7]at h
   subst h;exact⟨x',by simp,hx⟩
 | cons y xs ih=>
   rintro x v x' _ h hx ⟨y',ys,rfl,ry,rs⟩;cases x<;>cases y<;>simp [i7]at h
   obtain⟨rfl,h⟩:=h;rename_i k n m;have e1:x'=.int k n:=hx;have e2:y'=.int k m:=ry;subst e1 e2;obtain⟨v',h1,h2⟩:=ih _ v (.int k (if m>n then m else n)) ys h (by by_cases hc:m>n<;>simp [hc,Rep,bI]) rs
   exact⟨v',by simp only [List.foldlM_cons,Builtin.max2,Sem.run_bind,Sem.run_pure,Result.andThen_ok,h1],h2⟩
theorem uO{z:Value}{c:Code1}(h:rN z=some c):z=c.val 0:=by
 unfold rN at h;split at h
 ·simp at h;subst h;rfl
 ·simp at h;subst h;rfl
 ·cases h
theorem MQ{v:Value}(n:Nat):((Array.range n).map fun i=>(#[v]:Array Value)[i%(#[v]:Array Value).size]!).toList =List.replicate n v:=by
 apply List.ext_getElem
 ·simp
 ·intro i h1 h2;simp at h1;simp [Nat.mod_one]
theorem sP{as:List AVal}{vs:List Value}(h:aI V as vs): ∀n:Nat,aI V (List.replicate n as).flatten (List.replicate n vs).flatten
 | 0=>by simp [aI]
 | n+1=>by
   simp only [List.replicate_succ,List.flatten_cons];exact aI.append h (sP h n)
theorem G0{zs:Array Value}(n:Nat):((Array.range (n*zs.size)).map fun i=>zs[i%zs.size]!).toList =(List.replicate n zs.toList).flatten :=by
 rw [Array.toList_map,Array.toList_range]
 induction n with
 | zero=>simp
 | succ n ih=>
   rw [Nat.succ_mul,Nat.add_comm,List.range_add,List.map_append];simp only [List.replicate_succ,List.flatten_cons];congr 1
   ·apply List.ext_getElem
    ·simp
    ·intro i h1 h2;simp at h1;simp [Nat.mod_eq_of_lt h1,h1]
   ·rw [<-ih,List.map_map];apply List.map_congr_left;intro i _
    simp
theorem oP{t e:TypeId}{i:TypeInfo}{z:Value}{k k':IntKind}{n:Int}{w:World}(hu:P.underlying t=some (.slice e))(hi:P.info? e=some i)(hz:i.zero=some z)(hb:i.bytes<=4096)(h0:0<=n)(hn:n<=4294967296)(hs:z.cells.size=i.size)(hp:0<i.size):
 (Instr.makeSlice t (.int k n) (.int k' n)).run P w=.ok (.slice (some ⟨w.heap.size,0,none⟩) n.toNat n.toNat) {w with heap:=w.heap.push (.cells (((Array.range (n.toNat*i.size)).map fun j=>z.cells[j%z.cells.size]!)) e) } :=by
 have hw:IntKind.i64.wrap n=n:=IntWalk.i64_in n ⟨by omega,by omega⟩
 have hti:(typeInfo e).run P w=.ok i w:=by simp [typeInfo,hi]
 have h48: ¬((i.bytes:Int)*n>2^48):=by
  have:(i.bytes:Int)*n<=4096*4294967296:=Int.mul_le_mul (by omega) hn h0 (by omega)
  omega
 have hneg: ¬n<0:=by omega
 have hsz:bW P e=some i.size:=by simp [bW,hi]
 have hzr:(zeroValue e).run P w=.ok z w:=by simp [zeroValue,typeInfo,hi,hz]
 have hd48:decide ((i.bytes:Int)*n>2^48)=false:=by simpa using h48
 have hdneg:decide (n<0)=false:=by simpa using hneg
 by_cases hz0:n.toNat*i.size=0
 ·simp only [Instr.makeSlice,underlying,hu,Sem.run_bind,run_program,Result.andThen_ok,Sem.run_pure,asInt,asIntOf,hti,hw,hdneg,hd48];simp [aV hsz,hz0,newRow,Array.range_zero']
 ·simp only [Instr.makeSlice,underlying,hu,Sem.run_bind,run_program,Result.andThen_ok,Sem.run_pure,asInt,asIntOf,hti,hw,hdneg,hd48];simp [aV hsz,hz0,newRow,hzr]
theorem wK{t:TypeId}{n m:AVal}{h:aC A}{r:ORes A}{hR:PHeap}{w:World}{n' m':Value}{sem:Sem Next}(hr:oZ P t n m h=some r)(ho:r.obl)(hi:Inv I V (toF h) hR w)
 (hn: ∀l,h.length<=l->l<h.length+r.new.length->V l=none) (h1:Rep V n n') (h2:Rep V m m') (hsem:sem=(do Pure.pure (.value (<-Instr.makeSlice t n' m')))):
 dG I P V h.length hR w r.v (toF (r.apply h)) r.new.length sem:=by
 subst hsem;unfold oZ at hr;split at hr
 case h_2=>cases hr
 rename_i e k n k' m hu;have e1:n'=.int k n:=h1;have e2:m'=.int k' m:=h2;subst e1 e2;cases hti:P.info? e with
 | none=>rw [hti]at hr;cases hr
 | some i=>
   rw [hti]at hr;simp only at hr;split at hr
   case isFalse=>cases hr
   rename_i hc;obtain⟨hb,hp⟩:=hc;cases hz:i.zero with
   | none=>rw [hz]at hr;cases hr
   | some z=>
     rw [hz]at hr;simp only at hr;have hzl:=aI.length (cY V z);rw [Array.length_toList]at hzl;cases hco:rN z with
     | some c=>
       rw [hco]at hr;simp only at hr;split at hr
       case isFalse=>cases hr
       rename_i hs1;simp only [sI']at hr;subst hr;obtain⟨o1,rfl,o3⟩:=ho;have hzv:=uO hco;have hcell:z.cells= #[c.val 0]:=by rw [hzv];cases c<;>rfl
       have hrun:=oP (k:=k) (k':=k') (w:=w) hu hti hz hb o1 o3 (by rw [hcell,hs1];rfl) hp
       have hV:=hn h.length (Nat.le_refl _) (by simp)
       rw [hs1,Nat.mul_one,hcell]at hrun
       have hinv:=Inv.push (e:=.ints c (List.replicate n.toNat 0)) (k:=n.toNat) (o:=.cells ((Array.range n.toNat).map fun j=>(#[c.val 0]:Array Value)[j%(#[c.val 0]:Array Value).size]!) e) hi hV (cA (Nat.le_refl _))
        (kA (row:=List.replicate n.toNat (c.val 0)) (tail:=[]) (aKa _ _ _) (by simp [cN]) (by rw [MQ];simp) (by simp))
       refine⟨_,_,V.add h.length (w.heap.size,n.toNat),_,dV hrun,.inl rfl,aKh hV,i6,?_,?_,⟨rfl,rfl,by simp,fun _ _=>dP _ _ _ _⟩⟩
       ·exact⟨_,_,rfl,Nat.le_refl _,.inl ⟨_,_,aKa _ _ _,rfl,by omega⟩⟩
       ·show Inv I _ (toF (h++ [some _])) hR _;rw [fK];exact hinv
     | none=>
       rw [hco]at hr;cases hnp:CO z with
       | true=>rw [hnp]at hr;cases hr
       | false=>
       rw [hnp]at hr;simp only [cond_false,sI']at hr;subst hr;obtain⟨⟨o1,rfl,o3⟩,o4⟩:=ho;have hzs:z.cells.size=i.size:=by rw [hzl];exact o4
       have hrun:=oP (k:=k) (k':=k') (w:=w) hu hti hz hb o1 o3 hzs hp;have hV:=hn h.length (Nat.le_refl _) (by simp)
       have hrep:=sP (cY V z) n.toNat;rw [<-hzs]at hrun
       have hinv:=Inv.push (e:=.cells ((List.replicate n.toNat (fW z).cells).flatten)) (k:=n.toNat*i.size) (o:=.cells ((Array.range (n.toNat*z.cells.size)).map fun j=>z.cells[j%z.cells.size]!) e) hi hV (cA (Nat.le_refl _))
        (kA (row:=(List.replicate n.toNat z.cells.toList).flatten) (tail:=[]) (aKa _ _ _) (aI.mono (aKh hV) _ _ hrep) (by rw [G0];simp) (by simp [hzs]))
       refine⟨_,_,V.add h.length (w.heap.size,n.toNat*i.size),_,dV hrun,.inl rfl,aKh hV,i6,?_,?_,⟨rfl,rfl,by simp,fun _ _=>dP _ _ _ _⟩⟩
       ·exact⟨_,_,rfl,Nat.le_refl _,.inl ⟨_,_,aKa _ _ _,rfl,by omega⟩⟩
       ·show Inv I _ (toF (h++ [some _])) hR _;rw [fK];exact hinv
theorem vN(c:Code1): ∀(ys xs:List Int) (off:Nat),off+ys.length<=xs.length->dN (xs.map c.val) off (ys.map c.val)=(nJ xs off ys).map c.val
 | [],xs,off,_=>by simp [dN,nJ]
 | y::ys,xs,off,h=>by
   simp only [List.length_cons]at h;simp only [List.map_cons,dN];rw [<-List.map_set,vN c ys (xs.set off y) (off+1) (by simp;omega)]
   congr 1;unfold nJ;rw [List.take_set,List.drop_set_of_lt (by omega)]
   have hlt:off<xs.length:=by omega
   have e1:(xs.take (off+1)).set off y=xs.take off++ [y]:=by
    rw [List.take_succ_eq_append_getElem hlt,List.set_append_right _ _ (by simp;omega)]
    have:off - (List.take off xs).length =0:=by rw [List.length_take];omega
    rw [this];rfl
   rw [e1];simp [Nat.add_assoc,Nat.add_comm 1 ys.length]
theorem xD{dt xt ty e:TypeId}{base2:Option Addr}{n cap m cap2 sz:Nat}{w:World}{ws:List Value}(h1:P.underlying dt=some (.slice e))(h3:bW P e=some sz)
 (h4:(Builtin.firstCells sz (Nat.min m n) (.slice base2 m cap2)).run P w=.ok ws.toArray w):
 (Builtin.copy_ #[dt,xt] ty #[.slice none n cap,.slice base2 m cap2]).run P w=.ok (.int .i64 ((Nat.min m n:Nat):Int)) w:=by
 generalize hq:Nat.min m n=q at*;simp [Builtin.copy_,underlying,h1,Builtin.lenOf,aV h3,hq,h4,goInt]
theorem rO{dt xt ty e:TypeId}{a:Addr}{base2:Option Addr}{n cap m cap2 sz:Nat}{w w':World}{ws:List Value}(h1:P.underlying dt=some (.slice e))(h3:bW P e=some sz)
 (h4:(Builtin.firstCells sz (Nat.min m n) (.slice base2 m cap2)).run P w=.ok ws.toArray w) (h6:(storeCells a ws).run P w=.ok () w'):
 (Builtin.copy_ #[dt,xt] ty #[.slice (some a) n cap,.slice base2 m cap2]).run P w=.ok (.int .i64 ((Nat.min m n:Nat):Int)) w':=by
 generalize hq:Nat.min m n=q at*;simp [Builtin.copy_,underlying,h1,Builtin.lenOf,aV h3,hq,h4,h6,goInt]
theorem OD{dt xt ty:TypeId}{d x:AVal}{h:aC A}{r:ORes A}{hR:PHeap}{w:World}{d' x':Value}{sem:Sem Next}(hr:OC P dt d x h=some r)(ho:r.obl)(hi:Inv I V (toF h) hR w)
 (h1:Rep V d d') (h2:Rep V x x') (hsem:sem=(do Pure.pure (.value (<-Builtin.copy_ #[dt,xt] ty #[d',x'])))):
 dG I P V h.length hR w r.v (toF (r.apply h)) r.new.length sem:=by
 subst hsem;unfold OC at hr;split at hr
 case h_2=>cases hr
 rename_i e hu;split at hr
 case h_2=>cases hr
 rename_i l off n hs;obtain⟨base,cap,rfl,hcap,hb⟩:=h1;split at hr
 ·rename_i c xs c' ys m lx p hl hsrc;split at hr
  case isFalse=>cases hr
  rename_i hc;obtain⟨rfl,hc2⟩:=hc;simp only [sI']at hr;subst hr;obtain⟨o1,o2⟩:=eH.1 ho;obtain⟨ws,base2,cap2,rfl,s2,s3',s3,s4⟩:=kL (V:=V) hsrc o1 hi h2;have e3:ws=ys.map c.val:=s3;have hlt:=cB hl;have first:=s2 (Nat.min m n) (Nat.min_le_left _ _)
  rw [Nat.mul_one]at first
  have hF:toF (hupd h [(l,some (.ints c (nJ xs off (ys.take (min m n)))))]++([]:List (Option (aG A))))=(toF h).put l (some (.ints c (nJ xs off (ys.take (min m n))))):=by
   rw [List.append_nil];exact fP _ hlt
  have hwsl:(ws.take (Nat.min m n)).length =min m n:=by
   rw [List.length_take,s3'];show min (min m n) (m*1)=min m n;omega
  show dG I P V h.length hR w _ (toF (hupd h [(l,some (.ints c (nJ xs off (ys.take (min m n)))))]++ [])) 0 _;rw [hF]
  by_cases hmn:min m n=0
  ·have hnil:ys.take (min m n)=[]:=by rw [hmn];rfl
   have hsame:(toF h).put l (some (.ints c (nJ xs off (ys.take (min m n)))))=toF h:=by
    rw [hnil];have:nJ xs off []=xs:=by simp [nJ]
    rw [this];funext q
    by_cases hq:q=l
    ·subst hq;simp [bH.put];exact hl.symm
    ·simp [bH.put,hq]
   rw [hsame];refine dG.pure (v':=.int .i64 ((min m n:Nat):Int)) hi rfl ?_;have hw0:ws.take (Nat.min m n)=[]:=List.length_eq_zero_iff.1 (by rw [hwsl];exact hmn)
   rw [hw0]at first
   refine dV ?_;cases base with
   | none=>exact xD hu hs first
   | some a=>exact rO hu hs first (by simp [storeCells])
  ·have hn0:n≠0:=by omega
   have hxne:xs≠ []:=by intro e;subst e;simp at o2;omega
   obtain⟨b,k,cs,T,tail,t1,t2,t3,t4⟩:=hi.ints (l:=l) hl hxne;rcases hb with⟨b',k',t5,rfl,t6⟩ | ⟨t5,_⟩
   ·rw [t1]at t5;cases t5;have hsz:cs.size=xs.length+tail.length:=by rw [<-Array.length_toList,t4];simp
    obtain⟨w',cs',q1,q2,q3,q4,q5⟩:=d4 (P:=P) (ws.take (Nat.min m n)) 0 w b off cs T t2 (fun v hv=>s4 v (List.mem_of_mem_take hv)) (by rw [hwsl];omega)
    have hrun:(Builtin.copy_ #[dt,xt] ty #[.slice (some ⟨b,off,none⟩) n cap,.slice base2 m cap2]).run P w=.ok (.int .i64 ((min m n:Nat):Int)) w':=by
     exact rO hu hs first q1
    have e5:ws.take (Nat.min m n)=(ys.take (min m n)).map c.val:=by rw [e3];exact(List.map_take ..).symm
    have hyl:(ys.take (min m n)).length =min m n:=by
     have:=congrArg List.length e5;rw [hwsl,List.length_map]at this;exact this.symm
    have hover:dN (xs.map c.val) off ((ys.take (min m n)).map c.val)=(nJ xs off (ys.take (min m n))).map c.val:=vN c _ _ _ (by rw [hyl];omega)
    refine⟨_,w',V,_,dV hrun,.inl rfl,V.le_refl,fun l e f=>(f e).elim,rfl,?_,q5⟩;refine hi.replace (e:=.ints c xs) hl (b:=b) (o':=.cells cs' T) ?_ ?_ q2 q4
    ·intro g hg;rcases hg with⟨e,_⟩ | ⟨b1,k1,hl1,cs1,T1,tl1,e4,_⟩
     ·exact(hxne e).elim
     ·rw [t1]at hl1;cases hl1;exact⟨_,e4⟩
    ·refine .inr ⟨b,k,t1,cs',T,tail,rfl,?_,?_⟩
     ·rw [<-Array.length_toList,q3,eB,Array.length_toList];exact t3
     ·rw [q3,t4,Nat.add_zero,e5,gD _ _ _ _ (by simp only [List.length_map];rw [hyl];omega),hover]
   ·exact(hn0 t5).elim
 ·rename_i c xs lx p hl hsrc;simp only [sI']at hr;subst hr;rw [cU rfl rfl];refine dG.pure (v':=.int .i64 0) hi rfl (dV ?_)
  have hx0: ∃base2 cap2,x'=.slice base2 0 cap2:=by
   unfold kK at hsrc;split at hsrc
   ·split at hsrc
    ·split at hsrc
     ·split at hsrc<;>simp at hsrc
     ·split at hsrc
      ·simp only [sI',pI']at hsrc;obtain⟨_,rfl,_⟩:=hsrc;obtain⟨base2,cap2,e,_⟩:=h2;exact⟨base2,cap2,e⟩
      ·cases hsrc
     ·cases hsrc
    ·cases hsrc
   ·split at hsrc<;>simp at hsrc
   ·split at hsrc
    ·split at hsrc
     ·split at hsrc<;>simp at hsrc
     ·cases hsrc
    ·cases hsrc
   ·obtain⟨base2,e⟩:=h2;exact⟨base2,0,e⟩
   ·split at hsrc
    ·rename_i hnil;have:=hU hnil;subst this;exact⟨none,0,h2⟩
    ·cases hsrc
  obtain⟨base2,cap2,rfl⟩:=hx0;have first:(Builtin.firstCells 1 0 (.slice base2 0 cap2)).run P w=.ok #[] w:=cC
  have e0:Nat.min 0 n=0:=Nat.zero_min n;have first':(Builtin.firstCells 1 (Nat.min 0 n) (.slice base2 0 cap2)).run P w=.ok ([]:List Value).toArray w:=by rw [e0];exact first
  have:(Value.int .i64 0)=.int .i64 ((Nat.min 0 n:Nat):Int):=by rw [e0];rfl
  rw [this];cases base with
  | none=>exact xD hu hs first'
  | some a=>exact rO hu hs first' (by simp [storeCells])
 ·cases hr
end
end Go.Sh
namespace Go.Sh
open Go
variable [Con] {A:Type} {I:Itp A}
section
variable {P:Program} {V:Val}
theorem tG(w:World)(es:Array MapEntry)(clock:Nat)(a:Addr):(w.alloc (.map es clock)).frozen? a=w.frozen? a:=by
 unfold World.frozen? World.alloc;simp only [Array.getElem?_push]
 by_cases h:a.block=w.heap.size
 ·have e:w.heap[a.block]? =none:=by rw [h];simp
  rw [if_pos h,e]
 ·rw [if_neg h]
theorem AH{t:TypeId}{h:aC A}{r:ORes A}{hR:PHeap}{w:World}{sem:Sem Next}(hr:uI P t h=some r)(hi:Inv I V (toF h) hR w)
 (hn: ∀l,h.length<=l->l<h.length+r.new.length->V l=none) (hsem:sem=(do Pure.pure (.value (<-Instr.makeMap t none)))):
 dG I P V h.length hR w r.v (toF (r.apply h)) r.new.length sem:=by
 subst hsem;unfold uI at hr;split at hr
 ·split at hr
  ·split at hr
   ·rename_i kt vt hu _ _ kk z hk hz _ vc hvc;simp only [sI']at hr;subst hr;have hV:=hn h.length (Nat.le_refl _) (by simp)
    have hinv:=Inv.push (e:=.imap kk vc []) (k:=0) (o:=.map #[] 0) hi hV (cA (Nat.le_refl _)) ⟨_,_,aKa _ _ _, #[],0,rfl,rfl,fun e he=>by simp at he,by simp⟩
    refine⟨.value (.map (some w.heap.size)),{w with heap:=w.heap.push (.map #[] 0) },V.add h.length (w.heap.size,0),.map (some w.heap.size),?_,.inl rfl,aKh hV,i6,⟨_,_,aKa _ _ _,rfl⟩,?_,⟨rfl,rfl,by simp,fun _ _=>tG _ _ _ _⟩⟩
    ·simp [Instr.makeMap]
    ·show Inv I _ (toF (h++ [some _])) hR _;rw [fK];exact hinv
   ·cases hr
  ·cases hr
 ·cases hr
theorem Inv.imap{h:bH A}{hR:PHeap}{w:World}(hi:Inv I V h hR w){l:Nat}{kk:IntKind}{vc:Code1}{m:List (Int×Int)}(hl:h l=some (.imap kk vc m)):
 ∃b k es clock,V l=some (b,k)/\w.heap[b]? =some (.map es clock)/\es.toList.map (fun e=>(e.key,e.val))=m.map (fun x=>(Value.int kk x.1,Code1.val vc x.2)):=by
 obtain⟨hs,h1,h2,h3,h4,h5,h6⟩:=hi;obtain⟨b,k,e1,es,clock,e2,e3,_⟩:=h1 l _ hl;have:=h5 l;rw [e2]at this;exact⟨b,k,es,clock,e1,PHeap.one_sub.1 this,e3⟩
theorem Inv.imapB{h:bH A}{hR:PHeap}{w:World}(hi:Inv I V h hR w){l:Nat}{kk:IntKind}{vc:Code1}{m:List (Int×Int)}(hl:h l=some (.imap kk vc m)):
 ∃b k es clock,V l=some (b,k)/\w.heap[b]? =some (.map es clock)/\es.toList.map (fun e=>(e.key,e.val))=m.map (fun x=>(Value.int kk x.1,Code1.val vc x.2))/\(∀e∈es.toList,e.born<clock)/\(es.toList.map (·.born)).Nodup :=by
 obtain⟨hs,h1,h2,h3,h4,h5,h6⟩:=hi;obtain⟨b,k,e1,es,clock,e2,e3⟩:=h1 l _ hl;have:=h5 l;rw [e2]at this;exact⟨b,k,es,clock,e1,PHeap.one_sub.1 this,e3⟩
def kS:List (Int×Int)->Int->Nat->Option (Nat×Int)
 | [],_,_=>none
 | x::m,k,i=>if x.1=k then some (i,x.2)else kS m k (i+1)
theorem xO: ∀(m:List (Int×Int)) (k:Int) (i:Nat),(kS m k i).map (·.2)=mget m k
 | [],k,i=>rfl
 | x::m,k,i=>by
   unfold kS mget
   by_cases h:x.1=k
   ·simp [h]
   ·rw [if_neg h,xO m k (i+1)];simp [mget,h]
theorem vE: ∀(m:List (Int×Int)) (k v:Int) (i:Nat),kS m k i=none->dB m k v=m++ [(k,v)]
 | [],k,v,i,_=>rfl
 | x::m,k,v,i,h=>by
   unfold kS at h
   by_cases hx:x.1=k
   ·rw [if_pos hx]at h;cases h
   ·rw [if_neg hx]at h;unfold dB;rw [if_neg hx,vE m k v (i+1) h];rfl
theorem vF: ∀(m:List (Int×Int)) (k v:Int) (i j:Nat) (u:Int),kS m k i=some (j,u)->i<=j/\dB m k v=m.set (j - i) (k,v)/\ ∃u,m[j - i]? =some (k,u)
 | [],k,v,i,j,u,h=>by simp [kS]at h
 | x::m,k,v,i,j,u,h=>by
   unfold kS at h
   by_cases hx:x.1=k
   ·rw [if_pos hx]at h;simp only [sI',pI']at h;obtain⟨rfl,_⟩:=h;refine⟨Nat.le_refl _,?_,x.2,?_⟩
    ·unfold dB;rw [if_pos hx,Nat.sub_self];rfl
    ·rw [Nat.sub_self,<-hx];rfl
   ·rw [if_neg hx]at h;obtain⟨h1,h2,u',h3⟩:=vF m k v (i+1) j u h;refine⟨by omega,?_,u',?_⟩
    ·unfold dB;rw [if_neg hx,h2,show j - i=(j - (i+1))+1 from by omega];rfl
    ·rw [show j - i=(j - (i+1))+1 from by omega];exact h3
theorem sO{kk:IntKind}{vc:Code1}{q:IntKind}{n:Int} : ∀(es:List MapEntry) (m:List (Int×Int)) (i:Nat),es.map (fun e=>(e.key,e.val))=m.map (fun x=>(Value.int kk x.1,Code1.val vc x.2))->
 Instr.findNow (.int q) (.int kk n) es i=some ((kS m n i).map fun x=>(x.1,Code1.val vc x.2))
 | [],m,i,h=>by
   have:m=[]:=by cases m<;>simp at h⊢
   subst this;rfl
 | e::es,[],i,h=>by simp at h
 | e::es,x::m,i,h=>by
   simp only [List.map_cons,lI',pI']at h;obtain⟨⟨h1,h2⟩,h3⟩:=h;unfold Instr.findNow;rw [h1];simp only [Instr.sameNow,if_true]
   by_cases hx:x.1=n
   ·have:(n == x.1)=true:=by simp [hx]
    rw [this];unfold kS;rw [if_pos hx,h2];rfl
   ·have:(n == x.1)=false:=by simpa using fun e=>hx e.symm
    rw [this];unfold kS;rw [if_neg hx];exact sO es m (i+1) h3
theorem sN{kt:TypeId}{kk q:IntKind}{vc:Code1}{n:Int}{es:List MapEntry}{m:List (Int×Int)}{w:World}(hk:P.underlying kt=some (.int q))(h:es.map (fun e=>(e.key,e.val))=m.map (fun x=>(Value.int kk x.1,Code1.val vc x.2))):
 (Instr.findKey kt (.int kk n) es).run P w=.ok ((kS m n 0).map fun x=>(x.1,Code1.val vc x.2)) w:=by
 simp [Instr.findKey,underlying,hk,sO (q:=q) es m 0 h]
theorem lW{kt:TypeId}{q:IntKind}{b:Bool}{v:Value}{w:World}(hk:P.underlying kt=some (.int q)):(Instr.checkKey b 10000 kt v).run P w=.ok () w:=by
 show(Instr.checkKey b (9999+1) kt v).run P w=_;unfold Instr.checkKey;simp only [Sem.run_bind,underlying,run_program,hk,Result.andThen_ok,Sem.run_pure]
theorem EN{t:TypeId}{x i:AVal}{ck:Bool}{h:aC A}{r:ORes A}{hR:PHeap}{w:World}{x' i':Value}{sem:Sem Next}(hr:yE P t x i ck h=some r)(ho:r.obl)(hi:Inv I V (toF h) hR w)(hx:Rep V x x')(hy:Rep V i i')
 (hsem:sem=(do Pure.pure (.value (<-Instr.lookup t x' i' ck)))):dG I P V h.length hR w r.v (toF (r.apply h)) r.new.length sem:=by
 subst hsem;unfold yE at hr;split at hr
 ·rename_i kt vt l kk n hu;split at hr
  ·rename_i q kk' vc m hk hh;split at hr
   ·rename_i hc;obtain⟨rfl,hz⟩:=hc;simp only [sI']at hr;subst hr;rw [cU rfl rfl];obtain⟨b,k,es,clock,e1,e2,e3⟩:=hi.imap (l:=l) hh;obtain⟨b',k',hl,rfl⟩:=hx;rw [e1]at hl;cases hl;have:i'=.int kk n:=hy;subst this
    have hzero:(zeroValue vt).run P w=.ok (Code1.val vc 0) w:=by
     cases hi2:P.info? vt with
     | none=>rw [hi2]at hz;cases hz
     | some inf=>
       rw [hi2]at hz;cases hz2:inf.zero with
       | none=>simp [hz2]at hz
       | some z=>
         simp [hz2]at hz;rw [<-uO hz];simp [zeroValue,typeInfo,hi2,hz2]
    have hrun:(Instr.lookup t (.map (some b)) (.int kk n) ck).run P w=.ok (if ck then .tuple #[Code1.val vc ((mget m n).getD 0),.bool (mget m n).isSome]else Code1.val vc ((mget m n).getD 0)) w:=by
     have hg:=xO m n 0;have hfk:=sN (P:=P) (w:=w) (kk:=kk) (n:=n) hk e3;simp only [Instr.lookup,underlying,Sem.run_bind,run_program,Result.andThen_ok,hu,Sem.run_pure,MapKept.run_getObj_map e2,lW hk];cases hf:kS m n 0 with
     | none=>
       rw [hf]at hg hfk;rw [<-hg];simp only [Option.map_none]at hfk;simp only [hfk,Result.andThen_ok,Sem.run_bind,hzero,Sem.run_pure];cases ck<;>rfl
     | some p=>
       rw [hf]at hg hfk;rw [<-hg];simp only [Option.map_some]at hfk;simp only [hfk,Result.andThen_ok,Sem.run_bind,Sem.run_pure];cases ck<;>rfl
    refine dG.pure hi (v':=if ck then .tuple #[Code1.val vc ((mget m n).getD 0),.bool (mget m n).isSome]else Code1.val vc ((mget m n).getD 0)) ?_ (by rw [Sem.run_bind,hrun];rfl)
    cases ck with
    | true=>exact⟨_,rfl,_,_,rfl,aKK V vc _,_,_,rfl,rfl,rfl⟩
    | false=>exact aKK V vc _
   ·cases hr
  ·cases hr
 ·cases hr
theorem OH{t ty:TypeId}{x:AVal}{h:aC A}{r:ORes A}{hR:PHeap}{w:World}{x':Value}{sem:Sem Next}(hr:OG P t x h=some r)(ho:r.obl)(hi:Inv I V (toF h) hR w)(hx:Rep V x x')
 (hsem:sem=(do let v<-Builtin.len_ #[t] ty #[x'];Pure.pure (.value v))):dG I P V h.length hR w r.v (toF (r.apply h)) r.new.length sem:=by
 subst hsem;unfold OG at hr;split at hr
 ·rename_i kt vt l hu;split at hr
  ·rename_i kk vc m hh;simp only [sI']at hr;subst hr;rw [cU rfl rfl];obtain⟨b,k,es,clock,e1,e2,e3⟩:=hi.imap (l:=l) hh;obtain⟨b',k',hl,rfl⟩:=hx;rw [e1]at hl;cases hl
   have hlen:es.size=m.length:=by
    have:=congrArg List.length e3
    simpa using this
   have hrun:(Builtin.len_ #[t] ty #[.map (some b)]).run P w=.ok (Value.int .i64 (m.length:Int)) w:=by
    simp only [Builtin.len_,underlying,Sem.run_bind,run_program,Result.andThen_ok,hu,Sem.run_pure,MapKept.run_getObj_map e2];simp [hu,goInt,hlen,MapKept.run_getObj_map e2]
   refine dG.pure hi (v':=Value.int .i64 (m.length:Int)) ?_ (by rw [Sem.run_bind,hrun];rfl)
   rfl
  ·cases hr
 ·cases hr
theorem wL{t:TypeId}{x i y:AVal}{h:aC A}{r:ORes A}{hR:PHeap}{w:World}{x' i' y':Value}{sem:Sem Next}(hr:o0 P t x i y h=some r)(ho:r.obl)(hi:Inv I V (toF h) hR w)(hx:Rep V x x')(hk0:Rep V i i')(hy:Rep V y y')
 (hsem:sem=(do Instr.mapUpdate t x' i' y';Pure.pure .skip)):dG I P V h.length hR w r.v (toF (r.apply h)) r.new.length sem:=by
 subst hsem;unfold o0 at hr;split at hr
 ·rename_i kt vt l kk n hu;split at hr
  ·rename_i q kk' vc m hk hh;split at hr
   ·rename_i hc;subst hc;cases hfc:fH vc y with
    | none=>rw [hfc]at hr;cases hr
    | some v=>
      rw [hfc]at hr;simp only [sI']at hr;subst hr;obtain⟨b,k,es,clock,e1,e2,e3,e0,en⟩:=hi.imapB (l:=l) hh;obtain⟨b',k',hl,rfl⟩:=hx;rw [e1]at hl;cases hl;have:i'=.int kk n:=hk0;subst this;have hyv:=jB hfc hy;subst hyv;have hfk:=sN (P:=P) (w:=w) (kk:=kk) (n:=n) hk e3
      have hblt:b<w.heap.size:=by
       cases Nat.lt_or_ge b w.heap.size with
       | inl g=>exact g
       | inr g=>rw [Array.getElem?_eq_none g]at e2;cases e2
      have key: ∃es' clock',(Instr.mapUpdate t (.map (some b)) (.int kk n) (Code1.val vc v)).run P w=.ok () {w with heap:=w.heap.setIfInBounds b (.map es' clock') } /\es'.toList.map (fun e=>(e.key,e.val))=(dB m n v).map (fun x=>(Value.int kk x.1,Code1.val vc x.2))/\(∀e∈es'.toList,e.born<clock')/\(es'.toList.map (·.born)).Nodup :=by
       cases hf:kS m n 0 with
       | none=>
         rw [hf]at hfk;refine⟨es.push {key:=.int kk n,val:=Code1.val vc v,born:=clock},clock+1,?_,?_,?_,?_⟩
         ·simp only [Instr.mapUpdate,underlying,Sem.run_bind,run_program,Result.andThen_ok,hu,Sem.run_pure,MapKept.run_getObj_map e2,lW hk,hfk,Option.map_none,MapKept.run_setObj_map _ e2]
         ·rw [vE m n v 0 hf];simp [e3]
         ·intro e he;simp only [Array.toList_push,List.mem_append,List.mem_singleton]at he;rcases he with he | rfl
          ·exact Nat.lt_succ_of_lt (e0 e he)
          ·exact Nat.lt_succ_self _
         ·rw [Array.toList_push,List.map_append,List.nodup_append];refine⟨en,by simp,?_⟩
          intro a ha b hb;obtain⟨e,he,rfl⟩:=List.mem_map.1 ha;simp only [List.map_cons,List.map_nil,List.mem_singleton]at hb;have:=e0 e he;omega
       | some p=>
         obtain⟨j,u⟩:=p;rw [hf]at hfk;obtain⟨_,q2,u',q3⟩:=vF m n v 0 j u hf;rw [Nat.sub_zero]at q2 q3
         have hej: ∃e,es[j]? =some e/\e.key=.int kk n:=by
          have:=congrArg (fun l=>l[j]?) e3;simp only [List.getElem?_map,q3,Option.map_some]at this;rw [Array.getElem?_toList]at this;cases he:es[j]? with
          | none=>rw [he]at this;cases this
          | some e=>rw [he]at this;simp at this;exact⟨e,rfl,this.1⟩
         obtain⟨e,he1,he2⟩:=hej;refine⟨es.modify j fun e=> {e with key:=.int kk n,val:=Code1.val vc v},clock,?_,?_,?_,?_⟩
         ·have hst:Instr.sameBits 10000 (.int kk n) (.int kk n)=true:=by simp [Instr.sameBits]
          simp only [Instr.mapUpdate,underlying,Sem.run_bind,run_program,Result.andThen_ok,hu,Sem.run_pure,MapKept.run_getObj_map e2,lW hk,hfk,Option.map_some,he1,he2,Option.getD_some,Instr.keyThatStays,hst,if_true,MapKept.run_setObj_map _ e2]
         ·rw [q2];apply List.ext_getElem?;intro i;have:=congrArg (fun l=>l[i]?) e3;simp only [List.getElem?_map]at this⊢;rw [Array.getElem?_toList]at this⊢;rw [Array.getElem?_modify,List.getElem?_set]
          by_cases hij:j=i
          ·subst hij
           have hjl:j<m.length:=by
            cases Nat.lt_or_ge j m.length with
            | inl g=>exact g
            | inr g=>rw [List.getElem?_eq_none g]at q3;cases q3
           rw [if_pos rfl,if_pos rfl,he1,if_pos hjl];rfl
          ·rw [if_neg hij,if_neg hij];exact this
         ·intro e' he';obtain⟨i,hi'⟩:=List.getElem?_of_mem he';rw [Array.getElem?_toList,Array.getElem?_modify]at hi';split at hi'
          ·cases h2:es[i]? with
           | none=>rw [h2]at hi';cases hi'
           | some e2=>
             rw [h2]at hi';simp only [Option.map_some,sI']at hi';rw [<-hi'];exact e0 e2 (List.mem_of_getElem? (by rw [Array.getElem?_toList];exact h2))
          ·exact e0 e' (List.mem_of_getElem? (by rw [Array.getElem?_toList];exact hi'))
         ·have hmb:(es.modify j fun e=> {e with key:=.int kk n,val:=Code1.val vc v}).toList.map (·.born)=es.toList.map (·.born):=by
           apply List.ext_getElem?;intro i;simp only [List.getElem?_map,Array.getElem?_toList,Array.getElem?_modify];split
           ·cases es[i]? <;>rfl
           ·rfl
          rw [hmb];exact en
      obtain⟨es',clock',hrun,hes⟩:=key;refine⟨.skip,{w with heap:=w.heap.setIfInBounds b (.map es' clock') },V,undef,by simp only [Sem.run_bind,hrun,Result.andThen_ok,Sem.run_pure],.inr ⟨rfl,rfl⟩,V.le_refl,fun l e f=>(f e).elim,rfl,?_,⟨rfl,rfl,by simp,?_⟩⟩
      ·have hlt:=cB hh;show Inv I V (toF (hupd h [(l,some (.imap kk vc (dB m n v)))]++ [])) hR _;simp only [hupd,List.foldl_cons,List.foldl_nil,List.append_nil];rw [fP _ hlt];refine hi.replace (e:=.imap kk vc m) hh (b:=b) (o':=.map es' clock') ?_ ?_ ?_ ?_
       ·rintro g ⟨b1,k1,hl1,es1,c1,e4,_⟩;rw [e1]at hl1;cases hl1;exact⟨_,e4⟩
       ·exact⟨b,k,e1,es',clock',rfl,hes⟩
       ·simp [hblt]
       ·intro c hc;simp only [Array.getElem?_setIfInBounds];rw [if_neg (fun e=>hc e.symm)]
      ·intro a _;unfold World.frozen?;simp only [Array.getElem?_setIfInBounds]
       by_cases ha:b=a.block
       ·rw [if_pos ha,if_pos (by omega),<-ha,e2]
       ·rw [if_neg ha]
   ·cases hr
  ·cases hr
 ·cases hr
end
end Go.Sh
namespace Go.Sh
open Go
variable [Con] {A:Type} {I:Itp A}
section
variable {P:Program} {V:Val}
theorem wM{t:TypeId}{a:AVal}{lo hi mx:Option AVal}{h:aC A}{r:ORes A}{hR:PHeap}{w:World}{x:Value}{lo' hi' mx':Option Value}(hr:rL P t a lo hi mx h=some r)(ho:r.obl)(hi0:Inv I V (toF h) hR w)(hx:Rep V a x)
 (hlo: ∀z,lo=some z-> ∃z',lo'=some z'/\Rep V z z') (hlo0:lo=none->lo'=none) (hhi: ∀z,hi=some z-> ∃z',hi'=some z'/\Rep V z z') (hhi0:hi=none->hi'=none) (hmx0:mx=none->mx'=none):
 ∃v',(Instr.sliceAt t x lo' hi' mx').run P w=.ok v' w/\Rep V r.v v'/\r.upd=[]/\r.new=[]:=by
 unfold rL at hr;split at hr
 ·rename_i n e l off hu;rw [hmx0 rfl];split at hr
  ·rename_i s vs hs hh;split at hr
   ·rename_i hlen;obtain⟨b,k,cs,T,rs,tail,hl,hb,hk,hcs,hrep⟩:=hi0.cells (l:=l) hh;obtain⟨b',k',hl',rfl⟩:=hx;rw [hl]at hl';cases hl'
    have hsz:off+n*s<=k:=by
     rw [<-hk,<-Array.length_toList,hcs,List.length_append,aI.length hrep];omega
    have hbb:(∃b' k',V l=some (b',k')/\(some ⟨b,off,none⟩:Option Addr)=some ⟨b',off,none⟩/\off+n*s<=k')\/(n=0/\n=0):=.inl ⟨b,k,hl,rfl,hsz⟩
    have hmap: ∀m lo:Nat,(if m=lo then(some ⟨b,off,none⟩:Option Addr)else(some ⟨b,off,none⟩:Option Addr).map (·.add (lo*s)))=some (if m=lo then⟨b,off,none⟩else(⟨b,off,none⟩:Addr).add (lo*s)):=by
     intro m lo;split<;>rfl
    split at hr
    ·simp at hr;subst hr;rw [hlo0 rfl,hhi0 rfl];have hr:=dF (Nat.le_refl n) hbb (Nat.zero_le n) (Nat.le_refl n);rw [hmap]at hr;simp only [Nat.zero_mul,Nat.add_zero,Nat.sub_zero]at hr;refine⟨_,?_,hr,rfl,rfl⟩;simp [Instr.sliceAt,underlying,hu,Instr.sliceBounds,aV hs,Instr.sureAddr]
    ·rename_i k1 m;simp only [sI']at hr;subst hr;obtain⟨z',e1,r1⟩:=hhi _ rfl;have:z'=.int k1 m:=r1;subst this;rw [hlo0 rfl,e1];have hr:=dF (Nat.le_refl n) hbb (lo:=0) (hi:=m.toNat) (Nat.zero_le _) ho.2;rw [hmap]at hr;simp only [Nat.zero_mul,Nat.add_zero,Nat.sub_zero]at hr;refine⟨_,?_,hr,rfl,rfl⟩;simp [Instr.sliceAt,underlying,hu,Instr.sliceBounds,aV hs,Instr.sureAddr,bF (y:=n) ho.1 ho.2]
    ·rename_i k1 m;simp only [sI']at hr;subst hr;obtain⟨z',e1,r1⟩:=hlo _ rfl;have:z'=.int k1 m:=r1;subst this;rw [hhi0 rfl,e1];have hr:=dF (Nat.le_refl n) hbb (lo:=m.toNat) (hi:=n) ho.2 (Nat.le_refl _);rw [hmap]at hr;refine⟨_,?_,hr,rfl,rfl⟩;simp [Instr.sliceAt,underlying,hu,Instr.sliceBounds,aV hs,Instr.sureAddr,bF (y:=n) ho.1 ho.2]
    ·cases hr
   ·cases hr
  ·cases hr
 ·cases hr
theorem zD{ρ:Operand->AVal}{ρ':Operand->Value}(hρ: ∀x,Rep V (ρ x) (ρ' x))(o:Option Operand):
 (∀z,o.map ρ=some z-> ∃z',o.map ρ'=some z'/\Rep V z z')/\(o.map ρ=none->o.map ρ'=none):=by
 cases o with
 | none=>simp
 | some x=>simp;exact hρ x
theorem w8{ρ:Operand->AVal}{ρ':Operand->Value}{o:Oper}{h:aC A}{r:ORes A}{hR:PHeap}{w:World}(hr:aop P ρ o.op h=some r)(ho:r.obl)(hi:Inv I V (toF h) hR w)
 (hn: ∀l,h.length<=l->l<h.length+r.new.length->V l=none) (hρ: ∀x,Rep V (ρ x) (ρ' x)):
 dG I P V h.length hR w r.v (toF (r.apply h)) r.new.length (execOp ρ' o):=by
 have pureIf: ∀ {s:Sem Value} {q:Option (AVal×Option Prop)},nZ q=some r->(∀v p,q=some (v,p)->onp p-> ∃v',s.run P w=.ok v' w/\Rep V v v')->
  execOp ρ' o=(do Pure.pure (.value (<-s)))->dG I P V h.length hR w r.v (toF (r.apply h)) r.new.length (execOp ρ' o):=by
  intro s q hq hs he;cases q with
  | none=>cases hq
  | some x=>
    obtain⟨v,p⟩:=x;simp [nZ]at hq;subst hq;obtain⟨v',h1,h2⟩:=hs v p rfl ho;rw [cU rfl rfl,he];exact dG.pure hi h2 (by simp [h1])
 have pureV: ∀ {s:Sem Value} {q:Option AVal},fE q=some r->(∀v,q=some v-> ∃v',s.run P w=.ok v' w/\Rep V v v')->
  execOp ρ' o=(do Pure.pure (.value (<-s)))->dG I P V h.length hR w r.v (toF (r.apply h)) r.new.length (execOp ρ' o):=by
  intro s q hq hs he;cases q with
  | none=>cases hq
  | some v=>
    simp [fE]at hq;subst hq;obtain⟨v',h1,h2⟩:=hs v rfl;rw [cU rfl rfl,he];exact dG.pure hi h2 (by simp [h1])
 cases hop:o.op with
 | move x=>
   rw [hop]at hr;simp [aop]at hr;subst hr;rw [cU rfl rfl];exact dG.pure hi (hρ x) (by simp [execOp,hop])
 | assign x=>
   rw [hop]at hr;simp [aop]at hr;subst hr;rw [cU rfl rfl];exact dG.pure hi (hρ x) (by simp [execOp,hop])
 | pick c a b=>
   rw [hop]at hr;refine pureV (s:=do Pure.pure (if<-asBool (ρ' c)then ρ' a else ρ' b)) hr ?_ (by simp [execOp,hop])
   intro v hv;unfold aAz at hv;split at hv
   ·rename_i b0 p q e1 e2 e3;simp at hv;subst hv;have r1:=hρ c;rw [e1]at r1;have r2:=hρ a;rw [e2]at r2;have r3:=hρ b;rw [e3]at r3;have s1:ρ' c=.bool b0:=r1;have s2:ρ' a=.bool p:=r2;have s3:ρ' b=.bool q:=r3;rw [s1,s2,s3];refine⟨.bool (cond b0 p q),?_,rfl⟩;cases b0<;>simp [asBool]
   ·rename_i b0 e1 e2;simp at hv;subst hv;have r1:=hρ c;rw [e1]at r1;have s1:ρ' c=.bool b0:=r1;rw [s1];cases b0
    ·exact⟨ρ' b,by simp [asBool],hρ b⟩
    ·exact⟨ρ' a,by simp [asBool],hρ a⟩
   ·cases hv
 | alloc e=>
   rw [hop]at hr;simp only [aop]at hr;cases hz:xC P e with
   | none=>rw [hz]at hr;cases hr
   | some z=>
     rw [hz]at hr;simp at hr;subst hr;obtain⟨zv,rfl,hzr⟩:=oA (w:=w) hz;refine aKX (T:=e) hi (hn _ (Nat.le_refl _) (by simp)) (cY V zv) ?_
     simp [execOp,hop,Instr.alloc,hzr,newVar,newRow]
 | box e x=>
   rw [hop]at hr;simp only [aop]at hr;split at hr
   ·rename_i htold;simp at hr;subst hr;refine aKX (T:=e) hi (hn _ (Nat.le_refl _) (by simp)) (lM (hρ x) htold) ?_
    simp [execOp,hop,Instr.box,newVar,newRow]
   ·cases hr
 | build t parts=>
   rw [hop]at hr;refine pureV (s:=Instr.build t (parts.map fun(i,x)=>(i,ρ' x))) hr ?_ (by simp [execOp,hop])
   intro v hv;have:=EC (V:=V) (w:=w) hv (vW hρ parts.toList)
   have e:(parts.map fun(i,x)=>(i,ρ' x))=(List.map (fun x=>(x.1,ρ' x.2)) parts.toList).toArray :=by
    apply Array.ext';simp
   rw [e];exact this
 | buildSlice t len parts=>
   rw [hop]at hr;refine uB hr (vW hρ parts.toList) hi hn ?_
   have e:(parts.map fun(i,x)=>(i,ρ' x))=(List.map (fun x=>(x.1,ρ' x.2)) parts.toList).toArray :=by
    apply Array.ext';simp
   simp only [execOp,hop,e]
 | load t a=>
   rw [hop]at hr;simp only [aop]at hr;split at hr
   ·rename_i l off e1;have r1:=hρ a;rw [e1]at r1;obtain⟨v',h1,h2,h3,h4⟩:=w7 hr ho hi r1;rw [cU h3 h4,h4];exact dG.pure hi h2 (by simp [execOp,hop,h1])
   ·rename_i cs e1;have r1:=hρ a;rw [e1]at r1;cases hv:eJ P t cs with
    | none=>rw [hv]at hr;cases hr
    | some v=>
      rw [hv]at hr;simp [fE]at hr;subst hr;obtain⟨v',h1,h2⟩:=EK (V:=V) hv hi r1;rw [cU rfl rfl];exact dG.pure hi h2 (by simp [execOp,hop,h1])
   ·rename_i l r0 w0 j e1;have r1:=hρ a;rw [e1]at r1;obtain⟨v',h1,h2,h3,h4⟩:=EM hr ho hi r1;rw [cU h3 h4,h4];exact dG.pure hi h2 (by simp [execOp,hop,h1])
   ·cases hr
 | store t a x=>
   rw [hop]at hr;simp only [aop]at hr;split at hr
   ·rename_i l off e1;have r1:=hρ a;rw [e1]at r1;obtain⟨w',h1,h2,h3,h4,h5⟩:=EX hr ho hi r1 (hρ x);exact⟨.skip,w',V,undef,by simp [execOp,hop,h1],.inr ⟨rfl,rfl⟩,V.le_refl,fun l e f=>(f e).elim,by rw [h4];rfl,h2,h3⟩
   ·rename_i l r0 w0 j e1;have r1:=hρ a;rw [e1]at r1;obtain⟨w',h1,h2,h3,h4,h5⟩:=AR hr ho hi r1 (hρ x);exact⟨.skip,w',V,undef,by simp [execOp,hop,h1],.inr ⟨rfl,rfl⟩,V.le_refl,fun l e f=>(f e).elim,by rw [h4];rfl,h2,h3⟩
   ·cases hr
 | nilCheck x=>
   rw [hop]at hr;simp only [aop]at hr;cases hv:nY (ρ x)with
   | none=>rw [hv]at hr;cases hr
   | some v=>
     rw [hv]at hr;simp [fE]at hr;subst hr;rw [cU rfl rfl];have rx:=hρ x
     have hsame:v=ρ x:=by
      unfold nY at hv;split at hv<;>simp at hv<;>(rename_i e;rw [e];exact hv.symm)
     refine dG.pure (v':=ρ' x) hi (by rw [show(ORes.pure (A:=A) v).v =ρ x from hsame];exact rx) ?_
     unfold nY at hv;split at hv
     ·rename_i e;rw [e]at rx;obtain⟨b,k,_,e2⟩:=rx;simp [execOp,hop,e2]
     ·rename_i e;rw [e]at rx;obtain⟨b,off,cs,T,fz,e2,_⟩:=rx;simp [execOp,hop,e2]
     ·rename_i e;rw [e]at rx;obtain⟨b,k,_,e2⟩:=rx;simp [execOp,hop,e2]
     ·rename_i e;rw [e]at rx;obtain⟨y,e2,_⟩:=rx;simp [execOp,hop,e2]
     ·rename_i e;rw [e]at rx;obtain⟨f,c,e2,_⟩:=rx;simp [execOp,hop,e2]
     ·cases hv
 | binOp op t x y yt=>
   rw [hop]at hr;refine pureIf (s:=do eqGuard op t x y (ρ' x) (ρ' y);binOp op t (ρ' x) (ρ' y)) hr ?_ (by simp [execOp,hop])
   intro v p hv hp;exact OA hv hp (hρ x) (hρ y)
 | unOp op t x=>
   rw [hop]at hr;refine pureV (s:=Op.unary op (ρ' x)) hr ?_ (by simp [execOp,hop])
   intro v hv;have rx:=hρ x;unfold aun at hv;split at hv
   ·rename_i b e;simp at hv;subst hv;rw [e]at rx;have:ρ' x=.bool b:=rx;rw [this];exact⟨.bool (!b),by simp [Op.unary],rfl⟩
   ·rename_i k n e;simp at hv;subst hv;rw [e]at rx;have:ρ' x=.int k n:=rx;rw [this];exact⟨.int k (k.wrap (-n)),by simp [Op.unary,Op.intArith],rfl⟩
   ·cases hv
 | convert src dst x=>
   rw [hop]at hr;refine pureV (s:=convert src dst (ρ' x)) hr ?_ (by simp [execOp,hop])
   intro v hv;have rx:=hρ x;unfold aAt at hv;split at hv
   ·rename_i d k k' n hs hu e;simp at hv;subst hv;rw [e]at rx;have:ρ' x=.int k' n:=rx;rw [this];refine⟨.int k (k.wrap n),?_,rfl⟩;simp only [convert,underlying,Sem.run_bind,run_program,Result.andThen_ok,hs,hu,Sem.run_pure,Conv.intToInt]
   ·rename_i d s hs hu e;simp at hv;subst hv;rw [e]at rx;have:ρ' x=.string s:=rx;rw [this];refine⟨.string s,?_,rfl⟩;simp only [convert,underlying,Sem.run_bind,run_program,Result.andThen_ok,hs,hu,Sem.run_pure]
   ·cases hv
 | makeInterface t x=>
   rw [hop]at hr;simp only [aop]at hr;split at hr
   ·cases hr
   ·rename_i d hne hu;simp at hr;subst hr;rw [cU rfl rfl];refine dG.pure (v':=.iface t (ρ' x)) hi ⟨_,rfl,hρ x⟩ ?_;simp only [execOp,hop,Instr.makeInterface,underlying,Sem.run_bind,run_program,Result.andThen_ok,hu,Sem.run_pure]
   ·cases hr
 | makeFunc fn first caps=>
   rw [hop]at hr;simp [aop]at hr;subst hr;rw [cU rfl rfl];refine dG.pure (v':=.func fn (first.map ρ') (caps.map ρ')) hi ⟨_,_,rfl,by simpa using gE hρ first.toList,by simpa using gE hρ caps.toList⟩ ?_
   simp [execOp,hop,Instr.makeFunc]
 | slice t x lo hi' mx=>
   rw [hop]at hr;simp only [aop]at hr;obtain⟨o1,o2⟩:=zD hρ lo;obtain⟨o3,o4⟩:=zD hρ hi';obtain⟨o5,o6⟩:=zD hρ mx;split at hr
   ·obtain⟨v',h1,h2,h3,h4⟩:=wM hr ho hi (hρ x) o1 o2 o3 o4 o6;rw [cU h3 h4,h4];exact dG.pure hi h2 (by simp [execOp,hop,h1])
   ·refine pureIf (s:=Instr.sliceAt t (ρ' x) (lo.map ρ') (hi'.map ρ') (mx.map ρ')) hr ?_ (by simp [execOp,hop])
    intro v p hv hp;exact EV hv hp (hρ x) o1 o2 o3 o4 o5 o6
 | fieldAddr s x f=>
   rw [hop]at hr;refine pureV (s:=Instr.fieldAt s (ρ' x) f) hr ?_ (by simp [execOp,hop])
   intro v hv;have rx:=hρ x;unfold uE at hv;split at hv
   ·rename_i fs l off hu e;split at hv
    ·rename_i fd hfd;split at hv
     ·rename_i m hs;simp at hv;subst hv;rw [e]at rx;obtain⟨b,k,hl,e2⟩:=rx;rw [e2];refine⟨.pointer (some ⟨b,off+fd.offset,none⟩),?_,⟨b,k,hl,rfl⟩⟩;simp [Instr.fieldAt,underlying,hu,hfd,Instr.sureAddr,fieldPlace,aV hs,Addr.add_lit]
     ·cases hv
    ·cases hv
   ·rename_i fs as hu e;split at hv
    ·rename_i fd hfd;split at hv
     ·rename_i m hs;simp at hv;subst hv;rw [e]at rx;obtain⟨b,off,cs,T,fz,e2,hcon,hrep⟩:=rx;rw [e2];refine⟨.pointer (some ⟨b,off+fd.offset,none⟩),?_,xE hcon hrep⟩;simp [Instr.fieldAt,underlying,hu,hfd,Instr.sureAddr,fieldPlace,aV hs,Addr.add_lit]
     ·cases hv
    ·cases hv
   ·rename_i fs l r0 w0 j hu e;split at hv
    ·rename_i fd hfd;split at hv
     ·rename_i m hs;simp at hv;subst hv;rw [e]at rx;obtain⟨b,k,hl,e2⟩:=rx;rw [e2];refine⟨.pointer (some ⟨b,r0*w0+j+fd.offset,none⟩),?_,b,k,hl,by rw [Nat.add_assoc]⟩
      simp [Instr.fieldAt,underlying,hu,hfd,Instr.sureAddr,fieldPlace,aV hs,Addr.add_lit]
     ·cases hv
    ·cases hv
   ·cases hv
 | field s x f=>
   rw [hop]at hr;refine pureV (s:=Instr.field s (ρ' x) f) hr ?_ (by simp [execOp,hop])
   intro v hv;have rx:=hρ x;unfold OF at hv;split at hv
   ·rename_i fs cs hu e;split at hv
    ·rename_i fd hfd;rw [e]at rx;obtain⟨xs,e2,rx⟩:=rx;rw [e2];obtain⟨v',h1,h2⟩:=n9 (w:=w) hv rx;exact⟨v',by simp [Instr.field,underlying,hu,hfd,asAgg,h1],h2⟩
    ·cases hv
   ·cases hv
 | indexAddr t x i=>
   rw [hop]at hr;refine pureIf (s:=Instr.indexAt t (ρ' x) (ρ' i)) hr ?_ (by simp [execOp,hop])
   intro v p hv hp;exact uF hv hp (hρ x) (hρ i)
 | index t x i=>
   rw [hop]at hr;refine pureIf (s:=Instr.index t (ρ' x) (ρ' i)) hr ?_ (by simp [execOp,hop])
   intro v p hv hp;exact EJ hv hp (hρ x) (hρ i)
 | extract x i=>
   rw [hop]at hr;simp only [aop]at hr;split at hr
   ·rename_i vs e;have rx:=hρ x;rw [e]at rx;obtain⟨xs,e2,rx⟩:=rx;refine pureV (s:=Instr.extract (ρ' x) i) hr ?_ (by simp [execOp,hop])
    intro v hv;obtain⟨y,hy,ry⟩:=aI.get rx i v hv;rw [e2];rw [Array.getElem?_toList]at hy;exact⟨y,by simp [Instr.extract,hy],ry⟩
   ·cases hr
 | makeSlice t n m=>
   rw [hop]at hr;exact wK hr ho hi hn (hρ n) (hρ m) (by simp only [execOp,hop])
 | makeMap t res=>
   rw [hop]at hr;cases res with
   | some x=>simp [aop]at hr
   | none=>exact AH hr hi hn (by simp only [execOp,hop];rfl)
 | lookup t x i ck=>
   rw [hop]at hr;exact EN hr ho hi (hρ x) (hρ i) (by simp only [execOp,hop])
 | mapUpdate t m k v=>
   rw [hop]at hr;exact wL hr ho hi (hρ m) (hρ k) (hρ v) (by simp only [execOp,hop])
 | call c=>
   rw [hop]at hr;simp only [aop]at hr;split at hr
   case h_2=>cases hr
   rename_i b hb
   have hrun: ∃cs,execOp ρ' o=builtin b c.argTypes o.type cs (c.args.map ρ'):=by
    have h0:execOp ρ' o=(do let d<-resolve ρ' c o.type;invoke d.target d.args):=by simp only [execOp,hop]
    rw [h0];unfold resolve;rw [hb];exact⟨_,rfl⟩
   obtain⟨cs,hrun⟩:=hrun;have hargs:=gE hρ c.args.toList;have hargs':(c.args.map ρ').toList =c.args.toList.map ρ':=by simp
   rw [<-hargs']at hargs;generalize hxs:c.args.toList.map ρ=xs at hr hargs;generalize hts:c.argTypes.toList=ts at hr;have hty:c.argTypes=ts.toArray:=by rw [<-hts]
   unfold AD at hr;split at hr
   ·rename_i t x;obtain⟨y,ys,e1,r1,r2⟩:=hargs;have r2':ys=[]:=r2;subst r2';have e2:c.args.map ρ'= #[y]:=by apply Array.ext';rw [e1]
    split at hr
    ·rename_i v0 hv0;refine pureV (s:=Builtin.len_ #[t] o.type #[y]) hr ?_ (by rw [hrun,hty,e2];rfl)
     intro v hv;cases hv;exact OI hv0 r1
    ·exact OH (ty:=o.type) hr ho hi r1 (by rw [hrun,hty,e2];rfl)
   ·rename_i x xs';obtain⟨y,ys,e1,r1,r2⟩:=hargs;refine pureV (s:=Builtin.min_ c.argTypes o.type (c.args.map ρ')) hr ?_ (by rw [hrun];rfl)
    intro v hv;obtain⟨v',h1,h2⟩:=OK (w:=w) xs' x v y ys hv r1 r2;exact⟨v',by unfold Builtin.min_;rw [e1];exact h1,h2⟩
   ·rename_i x xs';obtain⟨y,ys,e1,r1,r2⟩:=hargs;refine pureV (s:=Builtin.max_ c.argTypes o.type (c.args.map ρ')) hr ?_ (by rw [hrun];rfl)
    intro v hv;obtain⟨v',h1,h2⟩:=OJ (w:=w) xs' x v y ys hv r1 r2;exact⟨v',by unfold Builtin.max_;rw [e1];exact h1,h2⟩
   ·rename_i st xt s x;obtain⟨y,ys,e1,r1,z,zs,e3,r3,r4⟩:=hargs;have r4':zs=[]:=r4;subst r4' e3;have e2:c.args.map ρ'= #[y,z]:=by apply Array.ext';rw [e1]
    cases hg:HU s x h with
    | true=>rw [hg]at hr;cases hr
    | false=>
    rw [hg]at hr;exact EA (ty:=o.type) hr ho hi hn r1 r3 (by rw [hrun,hty,e2];rfl)
   ·rename_i dt xt d x;obtain⟨y,ys,e1,r1,z,zs,e3,r3,r4⟩:=hargs;have r4':zs=[]:=r4;subst r4' e3;have e2:c.args.map ρ'= #[y,z]:=by apply Array.ext';rw [e1]
    exact OD (xt:=xt) (ty:=o.type) hr ho hi r1 r3 (by rw [hrun,hty,e2];rfl)
   ·cases hr
 | _=>rw [hop]at hr;simp [aop]at hr
end
end Go.Sh
namespace Go.Sh
open Go
variable [Con] {A:Type}
abbrev wS(A:Type):=List AVal->aC A->(AVal->aC A->Prop)->Prop
abbrev mP(A:Type):=List AVal->aC A->Option (ORes A)
def D7(I:Itp A)(V:Val)(n:Nat)(hR:PHeap)(K:AVal->aC A->Prop)(w:World)(e:Ending)(w':World):Prop:=
 ∃v v' V' h',K v h'/\e=.returned v'/\Rep V' v v'/\V.le V'/\(∀l,h'.length<=l->V' l=none)/\n<=h'.length/\Inv I V' (toF h') hR w'/\bX w w'
def bU(V:Val)(n:Nat):Prop:= ∀l,n<=l->V l=none
def i5(V:Val)(n k:Nat):Prop:= ∀l,n<=l->l<n+k->V l=none
theorem bU.on{V:Val}{n k:Nat}(h:bU V n):i5 V n k:=fun l hl _=>h l hl
def wS.ok(I:Itp A)(P:Program)(f:FuncId)(S:wS A):Prop:=
 ∀args h K,S args h K-> ∀V hR w (args':Array Value),Inv I V (toF h) hR w->bU V h.length->aI V args args'.toList->Calls P f args' w (D7 I V h.length hR K w)
def mP.ok(I:Itp A)(P:Program)(f:FuncId)(S:mP A):Prop:=
 ∀args h r,S args h=some r->r.obl-> ∀V hR w (args':Array Value),Inv I V (toF h) hR w->i5 V h.length r.new.length->aI V args args'.toList->
  Calls P f args' w fun e w'=> ∃v' V',e=.returned v'/\Rep V' r.v v'/\V.le V'/\(∀l,V l=none->V' l≠none->h.length<=l/\l<h.length+r.new.length)/\Inv I V' (toF (r.apply h)) hR w'/\bX w w'
def qS(P:Program)(f:FuncId):Bool:=
 match P.funcs[f]? with
 | some fn=>fn.name != "runtime.NumGoroutine" &&fn.body.isSome
 | none=>false
structure Env (A:Type) (P:Program) where
 I:Itp A
 cps:FuncId->Option (wS A)
 det:FuncId->Option (mP A)
 meth:TypeId->String->Option FuncId
 cpsOk: ∀f S,cps f=some S->wS.ok I P f S
 detOk: ∀f S,det f=some S->mP.ok I P f S
 methOk: ∀t name f,meth t name=some f-> ∀(v:Value) (w:World),(∃a,v=.pointer (some a))->(method (P.types.size+Made.depth) t v name).run P w=.ok (f,v) w
 row:(Operand->AVal)->Op->aC A->(AVal->aC A->Prop)->Prop:=fun _ _ _ _=>False
 rowOk: ∀(ρ:Operand->AVal) (o:Oper) (h:aC A) (K:AVal->aC A->Prop),row ρ o.op h K-> ∀(V:Val) (hR:PHeap) (w:World) (ρ':Operand->Value),Inv I V (toF h) hR w->(∀l,h.length<=l->V l=none)->(∀x,Rep V (ρ x) (ρ' x))->
  ∃nx w' V' v v' h2,K v h2/\(execOp ρ' o).run P w=.ok nx w'/\(nx=.value v'\/nx=.skip /\v'=undef)/\Rep V' v v'/\V.le V'/\(∀l,h2.length<=l->V' l=none)/\h.length<=h2.length/\Inv I V' (toF h2) hR w'/\bX w w':=by intro ρ o h K hh;exact hh.elim
 fld:TypeId->Nat->Nat->aC A->Option (AVal×Option Prop):=fun _ _ _ _=>none
 fldOk: ∀(t:TypeId) (l off:Nat) (h:aC A) (v:AVal) (q:Option Prop),fld t l off h=some (v,q)->onp q-> ∀(V:Val) (hR:PHeap) (w:World) (b k:Nat),Inv I V (toF h) hR w->V l=some (b,k)-> ∃v',(Instr.loadAt t (.pointer (some ⟨b,off,none⟩))).run P w=.ok v' w/\Rep V v v':=by intro t l off h v q hh;cases hh
 dro:(Operand->AVal)->Op->aC A->Option (ORes A):=fun _ _ _=>none
 droCongr: ∀(ρ ρ2:Operand->AVal) (op:Op) (h:aC A),(∀x∈op.operands,ρ x=ρ2 x)->dro ρ op h=dro ρ2 op h:=by intro _ _ _ _ _;rfl
 droOk: ∀(ρ:Operand->AVal) (o:Oper) (h:aC A) (r:ORes A),dro ρ o.op h=some r->r.obl-> ∀(V:Val) (hR:PHeap) (w:World) (ρ':Operand->Value),Inv I V (toF h) hR w->i5 V h.length r.new.length->(∀x,Rep V (ρ x) (ρ' x))->dG I P V h.length hR w r.v (toF (r.apply h)) r.new.length (execOp ρ' o):=by intro _ _ _ _ hh;cases hh
 yld:Nat->List AVal->aC A->(AVal->aC A->Prop)->Prop:=fun _ _ _ _=>False
 yldOk: ∀(l:Nat) (args:List AVal) (h:aC A) (K:AVal->aC A->Prop),yld l args h K-> ∀(V:Val) (hR:PHeap) (w:World) (args':Array Value),Inv I V (toF h) hR w->(∀l,h.length<=l->V l=none)->aI V args args'.toList->YieldAt Fence.wide 0 P l args' w (D7 I V h.length hR K w):=by
  intro l args h K hk;exact hk.elim
def eT: ∀(u:List (Nat×Option (aG A))) (h:aC A),(hupd h u).length =h.length
 | [],h=>rfl
 | x::u,h=>by
   show(hupd (h.set x.1 x.2) u).length =_;rw [eT u];simp
theorem lV(r:ORes A)(h:aC A):(r.apply h).length =h.length+r.new.length:=by
 simp [ORes.apply,eT]
abbrev AA(A:Type):=FuncId->List AVal->aC A->(AVal->aC A->Prop)->Prop
section
variable {P:Program} (E:Env A P)
def W4(inl:AA A)(g:FuncId)(args:List AVal)(h:aC A)(K:AVal->aC A->Prop):Prop:=
 match E.cps g with
 | some S=>S args h K
 | none=>
   match E.det g with
   | some D=>match D args h with
     | some r=>zA r.need (K r.v (r.applyF h))
     | none=>False
   | none=>inl g args h K
def callee(ρ:Operand->AVal)(c:Call):Option (FuncId×List AVal):=
 match c.callee with
 | .value f=>
   match ρ f with
   | .func (.func g) first caps=>some (g,first++c.args.toList.map ρ++caps)
   | _=>none
 | .invoke recv name=>
   match ρ recv with
   | .iface t (.ptr l off)=>(E.meth t name).map fun g=>(g,.ptr l off::c.args.toList.map ρ)
   | _=>none
 | .builtin _=>none
def pI:AVal->Option Prop
 | .slice _ _ n _=>some (n=0)
 | .tslice _ _ n _=>some (n=0)
 | .iview _ xs=>some (xs=[])
 | .view n _ _=>some (n=0)
 | .empty =>some True
 | _=>none
def anil(P:Program)(ρ:Operand->AVal):Op->Option (Prop×(Bool->Bool))
 | .binOp .eql t x y _=>match P.underlying t,ρ y with
   | some (.slice _),.raw (.slice none 0 0)=>(pI (ρ x)).map fun p=>(p,fun b=>b)
   | _,_=>none
 | .binOp .neq t x y _=>match P.underlying t,ρ y with
   | some (.slice _),.raw (.slice none 0 0)=>(pI (ρ x)).map fun p=>(p,fun b=>!b)
   | _,_=>none
 | _=>none
def wN(inl:AA A)(ρ:Operand->AVal)(op:Op)(h:aC A)(K:AVal->aC A->Prop):Prop:=
 match op with
 | .call c=>
   match callee E ρ c with
   | some (g,args)=>cK (qS P g) (W4 E inl g args h K)
   | none=>match aop P ρ (.call c) h with
     | some r=>zA r.need (K r.v (r.applyF h))
     | none=>E.row ρ (.call c) h K
 | op=>match anil P ρ op with
   | some (p,f)=> ∀b:Bool,(b=true->p)->K (.bool (f b)) h
   | none=>match aop P ρ op h with
     | some r=>zA r.need (K r.v (r.applyF h))
     | none=>E.row ρ op h K
def uK(tm:List AVal)(dst:Option Tmp)(v:AVal):List AVal:=
 match dst with
 | some d=>tm.set d v
 | none=>tm
def hX:AVal->Bool
 | .raw (.tuple _)=>true
 | _=>false
def sF(inl:AA A):Prop:=
 ∀g args h K,inl g args h K-> ∀V hR w (args':Array Value),Inv E.I V (toF h) hR w->bU V h.length->aI V args args'.toList->Calls P g args' w (D7 E.I V h.length hR K w)
variable {E}
theorem sQ{V V':Val}{r:ORes A}{h:aC A}(hf:bU V h.length)(hd: ∀l,V l=none->V' l≠none->h.length<=l/\l<h.length+r.new.length):bU V' (r.apply h).length :=by
 intro l hl;rw [lV]at hl;cases e:V' l with
 | none=>rfl
 | some x=>
   have:=hd l (hf l (by omega)) (by rw [e];simp)
   omega
theorem FM{inl:AA A}(hinl:sF E inl){g:FuncId}{args:List AVal}{h:aC A}{K:AVal->aC A->Prop}(he:W4 E inl g args h K){V:Val}{hR:PHeap}{w:World}{args':Array Value}
 (hi:Inv E.I V (toF h) hR w) (hf:bU V h.length) (hr:aI V args args'.toList):Calls P g args' w (D7 E.I V h.length hR K w):=by
 unfold W4 at he;split at he
 ·rename_i S hS;exact E.cpsOk g S hS args h K he V hR w args' hi hf hr
 ·split at he
  ·rename_i D hD;split at he
   ·rename_i r hr';have he:=nH.1 he;rw [rJ]at he;refine(E.detOk g D hD args h r hr' he.1 V hR w args' hi hf.on hr).mono ?_;rintro e w' ⟨v',V',h1,h2,h3,h4,h5,h6⟩;refine⟨r.v,v',V',r.apply h,he.2,h1,h2,h3,sQ hf h4,?_,h5,h6⟩;rw [lV];omega
   ·exact he.elim
  ·exact hinl g args h K he V hR w args' hi hf hr
theorem jI{V:Val}{tm:List AVal}{a:Act}(h:aI V tm a.tmps.toList)(x:Operand):Rep V (dL tm x) (a.eval x):=by
 cases x with
 | tmp t=>
   show Rep V (tm.getD t (.raw undef)) (a.tmps.getD t undef);rw [gD',Array.getD_eq_getD_getElem?];cases e:tm[t]? with
   | some v=>
     obtain⟨y,hy,ry⟩:=aI.get h t v e;rw [Array.getElem?_toList]at hy;rw [hy];exact ry
   | none=>
     have hl:=aI.length h;rw [List.getElem?_eq_none_iff]at e;have:a.tmps[t]? =none:=by rw [Array.getElem?_eq_none];rw [<-Array.length_toList];omega
     rw [this];exact rfl
 | const v=>exact xY V v
 | global g=>exact rfl
 | func f=>exact⟨#[], #[],rfl,by simp [aI],by simp [aI]⟩
theorem lG{V:Val}{tm:List AVal}{a:Act}{dst:Option Tmp}{v:AVal}{v':Value}(h:aI V tm a.tmps.toList)(hv:Rep V v v'):aI V (uK tm dst v) (a.put dst v').tmps.toList :=by
 cases dst with
 | none=>exact h
 | some d=>
   show aI V (tm.set d v) (a.tmps.setIfInBounds d v').toList;rw [Array.toList_setIfInBounds];exact aI.set h d v v' hv
theorem gV(a:Act)(dst:Option Tmp)(v:Value):(a.put dst v).defers =a.defers:=by
 cases dst<;>rfl
theorem i8{g:FuncId}(hp:qS P g=true)(args:Array Value)(w:World):(callFunc g args).run P w=.ok (.enter g args) w:=by
 unfold qS at hp;cases e:P.funcs[g]? with
 | none=>rw [e]at hp;cases hp
 | some fn=>
   rw [e]at hp;simp only [Bool.and_eq_true,bne_iff_ne,ne_eq]at hp;have h2:fn.body.isNone=false:=by cases hb:fn.body<;>simp_all
   simp only [callFunc,Sem.run_bind,run_program,Result.andThen_ok,e];have h1:(fn.name == "runtime.NumGoroutine")=false:=by simpa using hp.1
   simp [h1,h2]
theorem aBc(x:Value)(ys:Array Value):(#[x]++ys)[0]? =some x:=by
 rw [Array.getElem?_append_left (by simp)];rfl
theorem aBd(x:Value)(ys:Array Value):(#[x]++ys).extract 1 (#[x]++ys).size =ys:=by
 apply Array.ext';rw [Array.toList_extract];have e:(#[x]++ys).toList =x::ys.toList:=by simp
 have e2:(#[x]++ys).size =ys.toList.length+1:=by simp;omega
 rw [e,e2];show List.take (ys.toList.length+1 - 1) (List.drop 1 (x::ys.toList))=ys.toList;rw [Nat.add_sub_cancel];exact List.take_length
theorem GJ{V:Val}{a:AVal}{p:Prop}{x:Value}(h:pI a=some p)(hx:Rep V a x): ∃base len cap,x=.slice base len cap/\(base=none->p):=by
 unfold pI at h;split at h
 ·simp only [sI']at h;subst h;obtain⟨base,cap,e,hc,hb⟩:=hx;refine⟨base,_,cap,e,?_⟩;rintro rfl;rcases hb with⟨b,k,_,hb,_⟩ | ⟨h0,_⟩
  ·cases hb
  ·exact h0
 ·simp only [sI']at h;subst h;obtain⟨base,cap,e,hc,hb⟩:=hx;refine⟨base,_,cap,e,?_⟩;rintro rfl;rcases hb with⟨b,k,_,hb,_⟩ | ⟨h0,_⟩
  ·cases hb
  ·exact h0
 ·simp only [sI']at h;subst h;obtain⟨base,cap,e,hc,hb⟩:=hx;refine⟨base,_,cap,e,?_⟩;rintro rfl;rcases hb with⟨b,off,cs,T,fz,hb,_⟩ | h0
  ·cases hb
  ·exact h0
 ·simp only [sI']at h;subst h;obtain⟨base,cap,e,hc,hb⟩:=hx;refine⟨base,_,cap,e,?_⟩;rintro rfl;rcases hb with⟨b,off,cs,T,fz,hb,_⟩ | h0
  ·cases hb
  ·exact h0
 ·simp only [sI']at h;subst h;obtain⟨base,e⟩:=hx;exact⟨base,0,0,e,fun _=>trivial⟩
 ·cases h
theorem ZA{w:World}{t e:TypeId}{X Y:Operand}{base:Option Addr}{len cap:Nat}(hu:P.underlying t=some (.slice e)):
 (do eqGuard .eql t X Y (.slice base len cap) (.slice none 0 0);binOp .eql t (.slice base len cap) (.slice none 0 0):Sem Value).run P w=.ok (.bool base.isNone) w/\
 (do eqGuard .neq t X Y (.slice base len cap) (.slice none 0 0);binOp .neq t (.slice base len cap) (.slice none 0 0):Sem Value).run P w=.ok (.bool (!base.isNone)) w:=by
 have h1: ∀D,(Op.equalIn (D+1) t (.slice base len cap) (.slice none 0 0)).run P w=.ok base.isNone w:=by
  intro D;cases base<;>simp [Op.equalIn,underlying,hu]
 have h2:(Op.equal t (.slice base len cap) (.slice none 0 0)).run P w=.ok base.isNone w:=h1 _
 have g: ∀op,(eqGuard op t X Y (.slice base len cap) (.slice none 0 0)).run P w=.ok () w:=by
  intro op;cases op<;>rfl
 have b1:binOp .eql t (.slice base len cap) (.slice none 0 0)=(do let e<-Op.equal t (.slice base len cap) (.slice none 0 0);Pure.pure (.bool e)):=rfl
 have b2:binOp .neq t (.slice base len cap) (.slice none 0 0)=(do let e<-Op.equal t (.slice base len cap) (.slice none 0 0);Pure.pure (.bool (!e))):=rfl
 constructor
 ·simp only [Sem.run_bind,g,Result.andThen_ok,b1,h2,Sem.run_pure]
 ·simp only [Sem.run_bind,g,Result.andThen_ok,b2,h2,Sem.run_pure]
theorem pB{inl:AA A}(hinl:sF E inl){a:Act}{o:Oper}{tm:List AVal}{h:aC A}{K:AVal->aC A->Prop}(he:wN E inl (dL tm) o.op h K){V:Val}{hR:PHeap}{w:World}
 (hi:Inv E.I V (toF h) hR w) (hf:bU V h.length) (ht:aI V tm a.tmps.toList) {next:Act->World->Prop} {Q:Exit->Act->World->Prop}
 (hn: ∀v v' V' h' w',K v h'->Rep V' v v'->V.le V'->bU V' h'.length->h.length<=h'.length->Inv E.I V' (toF h') hR w'->bX w w'->next (a.put o.dst v') w'):
 o.wp P a w next Q:=by
 have hρ: ∀x,Rep V (dL tm x) (a.eval x):=jI ht
 have simple: ∀(r:ORes A),aop P (dL tm) o.op h=some r->r.obl->K r.v (r.apply h)->o.wp P a w next Q:=by
  intro r hr ho hK;obtain⟨nx,w',V',v',h1,h2,h3,h4,h5,h6,h7⟩:=w8 hr ho hi hf.on hρ;have:=hn r.v v' V' (r.apply h) w' hK h5 h3 (sQ hf h4) (by rw [lV];omega) h6 h7
  unfold Oper.wp;rw [h1];rcases h2 with rfl | ⟨rfl,rfl⟩
  ·exact this
  ·exact this
 have other:(match aop P (dL tm) o.op h with | some r=>zA r.need (K r.v (r.applyF h)) | none=>E.row (dL tm) o.op h K)->o.wp P a w next Q:=by
  intro hh;split at hh
  ·rename_i r hr;exact simple r hr (nH.1 hh).1 (by rw [<-rJ];exact(nH.1 hh).2)
  ·obtain⟨nx,w',V',v,v',h2,r1,r2,r3,r4,r5,r6,r7,r8,r9⟩:=E.rowOk (dL tm) o h K hh V hR w a.eval hi hf hρ;have:=hn v v' V' h2 w' r1 r4 r5 r6 r7 r8 r9;unfold Oper.wp;rw [r2];rcases r3 with rfl | ⟨rfl,rfl⟩
   ·exact this
   ·exact this
 have fin: ∀(g:FuncId) (args:List AVal) (args':Array Value),qS P g=true->W4 E inl g args h K->aI V args args'.toList->(execOp a.eval o).run P w=.ok (.enter g args') w->o.wp P a w next Q:=by
  intro g args args' hp hev hr hrun;unfold Oper.wp;rw [hrun];refine(FM hinl hev hi hf hr).mono ?_;rintro e w' ⟨v,v',V',h',h1,rfl,h3,h4,h5,h6,h7,h8⟩;exact hn v v' V' h' w' h1 h3 h4 h5 h6 h7 h8
 cases hop:o.op with
 | call c=>
   rw [hop]at he;simp only [wN]at he;have hargs:aI V (c.args.toList.map (dL tm)) (c.args.toList.map a.eval):=gE hρ c.args.toList;cases hc:callee E (dL tm) c with
   | none=>
     rw [hc]at he;exact other (by rw [hop];exact he)
   | some x=>
     obtain⟨g,args⟩:=x;rw [hc]at he;obtain⟨hp,hev⟩:=bM.1 he;unfold callee at hc;split at hc
     ·rename_i f hcal;split at hc
      ·rename_i g' first caps hfv
       simp only [sI',pI']at hc;obtain⟨rfl,rfl⟩:=hc;have rf:=hρ f;rw [hfv]at rf;obtain⟨fs,cs,e1,r1,r2⟩:=rf;refine fin g' _ (fs++c.args.map a.eval++cs) hp hev ?_ ?_
       ·simp only [Array.toList_append,Array.toList_map];exact aI.append (aI.append r1 hargs) r2
       ·simp only [execOp,hop,resolve,hcal,e1,Deferred.ofValue,Sem.run_bind,Sem.run_pure,Result.andThen_ok,invoke,i8 hp]
      ·cases hc
     ·rename_i recv name hcal;split at hc
      ·rename_i t l off hfv;cases hm:E.meth t name with
       | none=>rw [hm]at hc;cases hc
       | some g'=>
         rw [hm]at hc;simp only [Option.map_some,sI',pI']at hc;obtain⟨rfl,rfl⟩:=hc;have rf:=hρ recv;rw [hfv]at rf;obtain⟨x,e1,b,k,hl,e2⟩:=rf;subst e2;refine fin g' _ (#[.pointer (some ⟨b,off,none⟩)]++c.args.map a.eval) hp hev ?_ ?_
         ·simp only [Array.toList_append,Array.toList_map];exact⟨_,_,rfl,⟨b,k,hl,rfl⟩,hargs⟩
         ·have hmo:=E.methOk t name g' hm (.pointer (some ⟨b,off,none⟩)) w ⟨_,rfl⟩;simp only [execOp,hop,resolve,hcal,Sem.run_bind,Sem.run_pure,Result.andThen_ok,invoke,e1,aBc,aBd,callMethod,run_program,hmo,i8 hp]
      ·cases hc
     ·cases hc
 | binOp bo t X Y yt=>
   rw [hop]at he;cases hnil:anil P (dL tm) (.binOp bo t X Y yt)with
   | none=>
     have he':=he;simp only [wN,hnil]at he';exact other (by rw [hop];exact he')
   | some q=>
     obtain⟨p,f⟩:=q;simp only [wN,hnil]at he
     have fin2: ∀(e:TypeId),P.underlying t=some (.slice e)->dL tm Y=.raw (.slice none 0 0)->pI (dL tm X)=some p->(bo=.eql /\f=(fun b=>b)\/bo=.neq /\f=(fun b=>!b))->o.wp P a w next Q:=by
      intro e hu hy hx hbo;obtain⟨base,len,cap,ex,hp⟩:=GJ hx (hρ X);have ey:a.eval Y=.slice none 0 0:=by have:=hρ Y;rw [hy]at this;exact this
      have hb:base.isNone=true->p:=fun h=>hp (by cases base<;>simp_all)
      obtain⟨r1,r2⟩:=ZA (P:=P) (w:=w) (X:=X) (Y:=Y) (base:=base) (len:=len) (cap:=cap) hu
      have hrun:(execOp a.eval o).run P w=.ok (.value (.bool (f base.isNone))) w:=by
       rcases hbo with⟨rfl,rfl⟩ | ⟨rfl,rfl⟩
       ·have:execOp a.eval o=(do Pure.pure (.value (<-(do eqGuard .eql t X Y (a.eval X) (a.eval Y);binOp .eql t (a.eval X) (a.eval Y):Sem Value)))):=by simp only [execOp,hop]
        rw [this,ex,ey,Sem.run_bind,r1];rfl
       ·have:execOp a.eval o=(do Pure.pure (.value (<-(do eqGuard .neq t X Y (a.eval X) (a.eval Y);binOp .neq t (a.eval X) (a.eval Y):Sem Value)))):=by simp only [execOp,hop]
        rw [this,ex,ey,Sem.run_bind,r2];rfl
      unfold Oper.wp;rw [hrun];exact hn _ _ V h w (he base.isNone hb) rfl V.le_refl hf (Nat.le_refl _) hi (aKp w)
     unfold anil at hnil;split at hnil
     ·rename_i t' X' Y' yt' heq;cases heq;split at hnil
      ·rename_i e hu hy;cases hl:pI (dL tm X)with
       | none=>rw [hl]at hnil;cases hnil
       | some p'=>
         rw [hl]at hnil;simp only [Option.map_some,sI',pI']at hnil;obtain⟨rfl,rfl⟩:=hnil;exact fin2 e hu hy hl (.inl ⟨rfl,rfl⟩)
      ·cases hnil
     ·rename_i t' X' Y' yt' heq;cases heq;split at hnil
      ·rename_i e hu hy;cases hl:pI (dL tm X)with
       | none=>rw [hl]at hnil;cases hnil
       | some p'=>
         rw [hl]at hnil;simp only [Option.map_some,sI',pI']at hnil;obtain⟨rfl,rfl⟩:=hnil;exact fin2 e hu hy hl (.inr ⟨rfl,rfl⟩)
      ·cases hnil
     ·cases hnil
 | _=>exact other (by rw [hop]at he⊢;exact he)
end
end Go.Sh
namespace Go.Sh
open Go
variable [Con] {A:Type}
section
variable {P:Program} {E:Env A P}
def JO(E:Env A P)(V:Val)(n:Nat)(hR:PHeap)(w:World)(K:List AVal->aC A->Prop)(a:Act)(w':World):Prop:=
 ∃tm V' h',K tm h'/\aI V' tm a.tmps.toList/\V.le V'/\bU V' h'.length/\n<=h'.length/\Inv E.I V' (toF h') hR w'/\bX w w'/\a.defers=[]
theorem JO.chain{V V1:Val}{n n1:Nat}{hR:PHeap}{w w1:World}{K:List AVal->aC A->Prop}{a:Act}{w':World}(h:JO E V1 n1 hR w1 K a w')(hV:V.le V1)(hn:n<=n1)(hg:bX w w1):JO E V n hR w K a w':=by
 obtain⟨tm,V',h',h1,h2,h3,h4,h5,h6,h7,h8⟩:=h;exact⟨tm,V',h',h1,h2,Val.le_trans hV h3,h4,by omega,h6,hg.trans h7,h8⟩
theorem jH{ops:Array Oper}{j d:Nat}{tmps:Array Value}{b:Bool}(h1:(ops[j]?).bind (·.dst)=some d)(h2:tmps[d]? =some (.bool b)):yielded ops tmps j=some b:=by
 simp [yielded,h1,h2]
theorem lD{ops:Array Oper}{j d:Nat}{tmps:Array Value}(h1:(ops[j]?).bind (·.dst)=some d)(h2:tmps[d]? =none\/ ∃vs,tmps[d]? =some (.tuple vs)):yielded ops tmps j=none:=by
 rcases h2 with h2 | ⟨vs,h2⟩<;>simp [yielded,h1,h2]
theorem lP{α:Type} : ∀(l:List α) (i:Nat) (x:α),l[i]? =some x->l.set i x=l
 | [],_,_,h=>by simp at h
 | a::l,0,x,h=>by simp at h;subst h;rfl
 | a::l,i+1,x,h=>by simp at h;simp [lP l i x h]
theorem rR{tm:List AVal}{d:Nat}{b:Bool}(h:tm.getD d (.raw undef)=.bool b):tm[d]? =some (.bool b):=by
 rw [gD']at h;cases e:tm[d]? with
 | none=>rw [e]at h;cases h
 | some x=>rw [e]at h;exact congrArg some h
end
end Go.Sh
namespace Go.Sh
open Go
variable [Con] {A:Type}
def A1:List (Nat×AVal)->Nat->AVal->AVal
 | [],_,b=>b
 | (s,v)::δ,t,b=>cond (Nat.beq s t) v (A1 δ t b)
def FH(δ:List (Nat×AVal))(base:List AVal)(t:Nat):AVal:=
 match δ with
 | []=>base.getD t (.raw undef)
 | (s,v)::δ=>cond (Nat.beq s t) v (FH δ base t)
def qA(δ:List (Nat×AVal)):Nat->List AVal->List AVal
 | _,[]=>[]
 | i,b::bs=>A1 δ i b::qA δ (i+1) bs
def B4:List AVal->(List AVal->Prop)->Prop
 | [],K=>K []
 | x::xs,K=>B4 xs fun ys=>K (x::ys)
theorem qG: ∀(l:List AVal) (K:List AVal->Prop),B4 l K=K l
 | [],K=>rfl
 | x::xs,K=>qG xs _
def bT:List (Nat×AVal)->List AVal->List AVal
 | [],base=>base
 | (s,v)::δ,base=>(bT δ base).set s v
theorem hM: ∀(δ:List (Nat×AVal)) (base:List AVal),(bT δ base).length =base.length
 | [],_=>rfl
 | (s,v)::δ,base=>by simp [bT,hM δ base]
def uR(n:Nat):List (Nat×AVal)->Prop
 | []=>True
 | (s,_)::δ=>s<n/\uR n δ
theorem OR(a b:Nat):Nat.beq a b=decide (a=b):=by
 cases h:Nat.beq a b with
 | true=>simp [Nat.eq_of_beq_eq_true h]
 | false=>
   have:a≠b:=Nat.ne_of_beq_eq_false h;simp [this]
theorem p9: ∀(δ:List (Nat×AVal)) (base:List AVal) (t:Nat),uR base.length δ->FH δ base t=(bT δ base).getD t (.raw undef)
 | [],_,_,_=>rfl
 | (s,v)::δ,base,t,h=>by
   unfold FH bT;rw [p9 δ base t h.2,OR]
   by_cases e:s=t
   ·subst e;simp [gD',List.getElem?_set,hM,h.1]
   ·simp [e,gD',List.getElem?_set_ne e]
theorem A2: ∀(δ:List (Nat×AVal)) (base:List AVal) (t:Nat) (b:AVal),uR base.length δ->base[t]? =some b->(bT δ base)[t]? =some (A1 δ t b)
 | [],_,_,_,_,h=>h
 | (s,v)::δ,base,t,b,h,hb=>by
   unfold A1 bT;rw [OR]
   by_cases e:s=t
   ·subst e;simp [List.getElem?_set,hM,h.1]
   ·simp only [e,decide_false,cond_false];rw [List.getElem?_set_ne e];exact A2 δ base t b h.2 hb
theorem xF(δ:List (Nat×AVal)): ∀(bs:List AVal) (i t:Nat),(qA δ i bs)[t]? =bs[t]?.map (A1 δ (i+t))
 | [],i,t=>by simp [qA]
 | b::bs,i,0=>by simp [qA]
 | b::bs,i,t+1=>by
   simp only [qA,List.getElem?_cons_succ];rw [xF δ bs (i+1) t,show i+1+t=i+(t+1)from by omega]
theorem uS{δ:List (Nat×AVal)}{base:List AVal}(h:uR base.length δ):qA δ 0 base=bT δ base:=by
 apply List.ext_getElem?;intro t;rw [xF];cases hb:base[t]? with
 | none=>
   rw [List.getElem?_eq_none_iff]at hb;simp only [Option.map_none];rw [List.getElem?_eq_none];rw [hM];exact hb
 | some b=>rw [A2 δ base t b h hb];simp
section
variable {P:Program} (E:Env A P)
def fR(δ:List (Nat×AVal))(base:List AVal):Operand->AVal
 | .tmp t=>FH δ base t
 | .const v=>fW v
 | .global g=>.raw (.pointer (some ⟨g,0,none⟩))
 | .func f=>.func (.func f) [] []
theorem rG{δ:List (Nat×AVal)}{base:List AVal}(h:uR base.length δ):fR δ base=dL (bT δ base):=by
 funext x;cases x with
 | tmp t=>exact p9 δ base t h
 | _=>rfl
def i9(δ:List (Nat×AVal))(dst:Option Tmp)(v:AVal):List (Nat×AVal):=
 match dst with
 | some d=>(d,v)::δ
 | none=>δ
def dok(n:Nat)(dst:Option Tmp):Bool:=
 match dst with
 | some d=>Nat.blt d n
 | none=>true
theorem lY{n:Nat}{δ:List (Nat×AVal)}{base:List AVal}{dst:Option Tmp}{v:AVal} :uK (bT δ base) dst v=bT (i9 δ dst v) base:=by
 cases dst<;>rfl
theorem lZ{n:Nat}{δ:List (Nat×AVal)}{dst:Option Tmp}{v:AVal}(h:uR n δ)(hd:dok n dst=true):uR n (i9 δ dst v):=by
 cases dst with
 | none=>exact h
 | some d=>exact⟨Nat.le_of_ble_eq_true hd,h⟩
def qW(seen:List (Option Tmp))(i j:Nat):Option Tmp:=match seen[Nat.sub (Nat.pred i) j]? with
 | some d=>d
 | none=>none
def jV(inl:AA A)(base:List AVal)(n:Nat):List Oper->List (Option Tmp)->Nat->List (Nat×AVal)->aC A->(List AVal->aC A->Prop)->Prop
 | [],_,_,δ,h,K=>B4 (qA δ 0 base) fun tm=>K tm h
 | o::rest,seen,i,δ,h,K=>
   cK (dok n o.dst) <|
   match o.guard with
   | none=>wN E inl (fR δ base) o.op h fun v h'=>jV inl base n rest (o.dst::seen) (Nat.succ i) (i9 δ o.dst v) h' K
   | some (j,want)=>
     cK (Nat.blt j i) <|
     match qW seen i j with
     | none=>False
     | some d=>
       match FH δ base d with
       | .bool b=>cK (Nat.blt d n) <|
         cond b
          (if want then wN E inl (fR ((d,.bool true)::δ) base) o.op h fun v h'=>jV inl base n rest (o.dst::seen) (Nat.succ i) (i9 ((d,.bool true)::δ) o.dst v) h' K
            else jV inl base n rest (o.dst::seen) (Nat.succ i) (i9 ((d,.bool true)::δ) o.dst (.raw undef)) h K)
          (if want then jV inl base n rest (o.dst::seen) (Nat.succ i) (i9 ((d,.bool false)::δ) o.dst (.raw undef)) h K
            else wN E inl (fR ((d,.bool false)::δ) base) o.op h fun v h'=>jV inl base n rest (o.dst::seen) (Nat.succ i) (i9 ((d,.bool false)::δ) o.dst v) h' K)
       | v=>if hX v then jV inl base n rest (o.dst::seen) (Nat.succ i) (i9 δ o.dst (.raw undef)) h K else False
variable {E}
def tD(ops:Array Oper)(rest:List Oper)(seen:List (Option Tmp))(i:Nat):Prop:= ∃pre:List Oper,ops.toList=pre++rest/\seen=(pre.map (·.dst)).reverse /\i=pre.length
theorem tD.next{ops:Array Oper}{o:Oper}{rest:List Oper}{seen:List (Option Tmp)}{i:Nat}(h:tD ops (o::rest) seen i):tD ops rest (o.dst::seen) (Nat.succ i):=by
 obtain⟨pre,h1,h2,h3⟩:=h;exact⟨pre++ [o],by rw [h1];simp,by rw [h2];simp,by rw [h3];simp⟩
theorem tD.dst{ops:Array Oper}{rest:List Oper}{seen:List (Option Tmp)}{i j:Nat}(h:tD ops rest seen i)(hj:Nat.blt j i=true):(ops[j]?).bind (·.dst)=qW seen i j:=by
 obtain⟨pre,h1,h2,h3⟩:=h;have hlt:j<pre.length:=by rw [<-h3];exact Nat.le_of_ble_eq_true hj
 have e1:ops[j]? =pre[j]? :=by rw [<-Array.getElem?_toList,h1,List.getElem?_append_left hlt]
 unfold qW
 have e2:seen[Nat.sub (Nat.pred i) j]? =(pre.map (·.dst))[j]? :=by
  rw [h2];have hs:Nat.sub (Nat.pred i) j=pre.length - 1 - j:=by rw [h3];rfl
  rw [hs,List.getElem?_reverse (by simp;omega)]
  congr 1;simp;omega
 rw [e1,e2,List.getElem?_map,gE' hlt];rfl
theorem yU{inl:AA A}(hinl:sF E inl){ops:Array Oper}{base:List AVal}{n:Nat}(hbn:base.length=n){Q:Exit->Act->World->Prop} : ∀(rest:List Oper) (seen:List (Option Tmp)) (i:Nat) (δ:List (Nat×AVal)) (h:aC A) (K:List AVal->aC A->Prop) (a:Act) (w:World) (V:Val) (hR:PHeap),
 tD ops rest seen i->jV E inl base n rest seen i δ h K->uR n δ->Inv E.I V (toF h) hR w->bU V h.length->aI V (bT δ base) a.tmps.toList->a.defers=[]->
 (∀a' w',JO E V h.length hR w K a' w'->Q .normal a' w')->wpList P ops Q rest a w:=by
 intro rest
 induction rest with
 | nil=>
   intro seen i δ h K a w V hR hsn he hin hi hf ht hd hQ;unfold jV at he;rw [qG,uS (by rw [hbn];exact hin)]at he
   exact wpList_nil (hQ a w ⟨bT δ base,V,h,he,ht,V.le_refl,hf,Nat.le_refl _,hi,aKp w,hd⟩)
 | cons o rest ih=>
   intro seen i δ h K a w V hR hsn he hin hi hf ht hd hQ;have he:=bM.1 he;obtain⟨hok,he⟩:=he
   have run: ∀δ':List (Nat×AVal),uR n δ'->aI V (bT δ' base) a.tmps.toList->(wN E inl (fR δ' base) o.op h fun v h'=>jV E inl base n rest (o.dst::seen) (Nat.succ i) (i9 δ' o.dst v) h' K)->Region.wanted o (yielded ops a.tmps)=true->wpList P ops Q (o::rest) a w:=by
    intro δ' hin' ht' hev hw;refine wpList_step fun K' hK'=>?_;rw [if_pos hw];rw [rG (by rw [hbn];exact hin')]at hev
    refine pB hinl hev hi hf ht' ?_;intro v v' V' h' w' k1 k2 k3 k4 k5 k6 k7;refine hK' _ _ (ih _ _ _ _ _ _ _ V' hR hsn.next k1 (lZ hin' hok) k6 k4 (by rw [<-lY (n:=n)];exact lG (aI.mono k3 _ _ ht') k2) (by rw [gV];exact hd) ?_)
    intro a' w'' hT;exact hQ a' w'' (hT.chain k3 k5 k7)
   have skip: ∀δ':List (Nat×AVal),uR n δ'->aI V (bT δ' base) a.tmps.toList->jV E inl base n rest (o.dst::seen) (Nat.succ i) (i9 δ' o.dst (.raw undef)) h K->Region.wanted o (yielded ops a.tmps)=false->wpList P ops Q (o::rest) a w:=by
    intro δ' hin' ht' hev hw;refine wpList_step fun K' hK'=>?_;rw [if_neg (by rw [hw];simp)]
    exact hK' _ _ (ih _ _ _ _ _ _ _ V hR hsn.next hev (lZ hin' hok) hi hf (by rw [<-lY (n:=n)];exact lG ht' rfl) (by rw [gV];exact hd) hQ)
   cases hg:o.guard with
   | none=>
     rw [hg]at he;exact run δ hin ht he (by simp [Region.wanted,hg])
   | some g=>
     obtain⟨j,want⟩:=g;rw [hg]at he;simp only at he;obtain⟨hji,he⟩:=bM.1 he;have hjd:=hsn.dst hji;cases hj:(ops[j]?).bind (·.dst)with
     | none=>rw [<-hjd,hj]at he;exact he.elim
     | some d=>
       rw [<-hjd,hj]at he;simp only at he;have hdg:=p9 δ base d (by rw [hbn];exact hin)
       split at he
       ·rename_i b hb;obtain⟨hdn,he⟩:=bM.1 he;rw [hdg]at hb;have hgd:=rR hb;obtain⟨y,hy,ry⟩:=aI.get ht d _ hgd;rw [Array.getElem?_toList]at hy;have ry':y=.bool b:=ry;subst ry';have hyl:yielded ops a.tmps j=some b:=jH hj hy;have hs:bT ((d,.bool b)::δ) base=bT δ base:=lP _ d _ hgd;have hin2: ∀v,uR n ((d,v)::δ):=fun v=>⟨Nat.le_of_ble_eq_true hdn,hin⟩;have hwb:Region.wanted o (yielded ops a.tmps)=(b == want):=by simp [Region.wanted,hg,hyl]
        cases b with
        | true=>
          simp only [cond_true]at he;cases want with
          | true=>rw [if_pos rfl]at he;exact run _ (hin2 _) (by rw [hs];exact ht) he (by rw [hwb];rfl)
          | false=>rw [if_neg (by simp)]at he;exact skip _ (hin2 _) (by rw [hs];exact ht) he (by rw [hwb];rfl)
        | false=>
          simp only [cond_false]at he;cases want with
          | true=>rw [if_pos rfl]at he;exact skip _ (hin2 _) (by rw [hs];exact ht) he (by rw [hwb];rfl)
          | false=>rw [if_neg (by simp)]at he;exact run _ (hin2 _) (by rw [hs];exact ht) he (by rw [hwb];rfl)
       ·rename_i hnb;split at he
        ·rename_i htp;rw [hdg]at htp
         have hyl:yielded ops a.tmps j=none:=by
          refine lD hj ?_;cases e:a.tmps[d]? with
          | none=>exact .inl rfl
          | some x=>
            right
            have hlt:d<(bT δ base).length :=by
             have h1:=aI.length ht;rw [Array.length_toList]at h1;cases Nat.lt_or_ge d a.tmps.size with
             | inl g=>exact Nat.lt_of_lt_of_eq g h1
             | inr g=>rw [Array.getElem?_eq_none g]at e;cases e
            obtain⟨y,hy,ry⟩:=aI.get ht d _ (gE' hlt);rw [Array.getElem?_toList,e]at hy;cases hy;have e2:(bT δ base).getD d (.raw undef)=(bT δ base)[d]:=by rw [gD',gE' hlt];rfl
            rw [e2]at htp;unfold hX at htp;split at htp
            ·rename_i vs e3;rw [e3]at ry;have:x=.tuple vs:=ry;exact⟨vs,by rw [this]⟩
            ·cases htp
         exact skip δ hin ht he (by simp [Region.wanted,hg,hyl])
        ·exact he.elim
end
end Go.Sh
namespace Go.Sh
open Go
variable [Con] {A:Type}
def hres(foot:List Nat):Nat->aC A->aC A
 | _,[]=>[]
 | i,e::h=>(cond (foot.contains i) e none)::hres foot (i+1) h
structure Item (A:Type) where
 o:Oper
 ran:Bool
 v:AVal
 upd:List (Nat×Option (aG A))
 new:List (aG A)
 foot:List Nat
 n:Nat
section
variable {P:Program} (E:Env A P)
def dop(ρ:Operand->AVal)(op:Op)(h:aC A):Option (ORes A):=
 match op with
 | .call c=>
   match callee E ρ c with
   | some (g,args)=>if qS P g=true then
      match E.det g with
      | some D=>D args h
      | none=>none
     else none
   | none=>aop P ρ (.call c) h
 | .load t a=>
   match aop P ρ (.load t a) h with
   | some r=>some r
   | none=>
     match ρ a with
     | .ptr l off=>
       match E.fld t l off h with
       | some (v,q)=>some {v:=v,upd:=[],new:=[],foot:=[l],need:=q}
       | none=>E.dro ρ (.load t a) h
     | _=>none
 | .store t a x=>
   match aop P ρ (.store t a x) h with
   | some r=>some r
   | none=>E.dro ρ (.store t a x) h
 | op=>aop P ρ op h
def Item.puts(it:Item A)(l:Nat):Bool:=it.upd.any (fun x=>x.1 == l)||(decide (it.n<=l)&&decide (l<it.n+it.new.length))
def iQ(it:Item A):Bool:=it.upd.all fun x=>it.foot.contains x.1&&decide (x.1<it.n)
def lH(ops:Array Oper)(x y:Oper):Bool:=
 match x.dst with
 | some d=> !(y.looksAt ops).contains d&&y.dst !=some d
 | none=>true
def eU(ops:Array Oper)(x y:Item A):Bool:=
 lH ops x.o y.o&&lH ops y.o x.o&&y.foot.all (fun l=>!x.puts l)&&x.foot.all (fun l=>!y.puts l)
def mask(acc:List Nat)(o:Oper):Nat:=
 o.after.toList.foldl (fun s e=>if Region.binds .any e then s|||2^e.on|||acc.getD e.on 0 else s) 0
def masks:List Nat->List Oper->List Nat
 | acc,[]=>acc
 | acc,o::rest=>masks (acc++ [mask acc o]) rest
def D6(ops:Array Oper)(ms:List Nat)(its:List (Item A)):Prop:=
 ∀i j x y,its[i]? =some x->its[j]? =some y->i<j->(ms.getD j 0).testBit i=true\/eU ops x y=true
def kM(j:Nat)(o:Oper):Bool:=o.after.toList.all fun e=>!Region.binds .any e||Nat.blt e.on j
def l4(ops:List Oper):Prop:= ∀(i:Nat) (o:Oper),ops[i]? =some o->kM i o=true
def SW(ops:Array Oper)(y:Item A):List (Item A)->Nat->Nat->Bool
 | [],_,_=>true
 | x::prev,u,i=>cond (Nat.beq u 0) true (cond (Nat.ble (2^Nat.pred i) u) (eU ops x y&&SW ops y prev (Nat.sub u (2^Nat.pred i)) (Nat.pred i)) (SW ops y prev u (Nat.pred i)))
theorem sB{ops:Array Oper}{y:Item A} : ∀(prev:List (Item A)) (u:Nat),u<2^prev.length->SW ops y prev u prev.length=true-> ∀(k:Nat) (x:Item A),prev.reverse[k]? =some x->u.testBit k=true->eU ops x y=true
 | [],u,_,_,k,x,hk,_=>by simp at hk
 | z::prev,u,hu,h,k,x,hk,hb=>by
   unfold SW at h;simp only [List.length_cons,Nat.pred_succ]at h hu;rw [List.reverse_cons]at hk;cases h0:Nat.beq u 0 with
   | true=>
     have:u=0:=Nat.eq_of_beq_eq_true h0;subst this;simp at hb
   | false=>
     rw [h0]at h;simp only [cond_false]at h
     have hkl:k<prev.length\/k=prev.length:=by
      cases Nat.lt_or_ge k (prev.length+1)with
      | inl g=>omega
      | inr g=>rw [List.getElem?_eq_none (by simp;omega)]at hk;cases hk
     have hlow:k<prev.length->prev.reverse[k]? =some x:=by
      intro hlt;rw [List.getElem?_append_left (by simpa using hlt)]at hk;exact hk
     have htop:k=prev.length->z=x:=by
      intro e;subst e;rw [List.getElem?_append_right (by simp)]at hk
      simpa using hk
     cases h1:Nat.ble (2^prev.length) u with
     | true=>
       rw [h1]at h;simp only [cond_true,Bool.and_eq_true]at h;have hle:2^prev.length<=u:=Nat.le_of_ble_eq_true h1;have hlt:u - 2^prev.length<2^prev.length:=by rw [Nat.pow_succ]at hu;omega
       rcases hkl with hkl | hkl
       ·refine sB prev _ hlt h.2 k x (hlow hkl) ?_;have e:u=2^prev.length+(u - 2^prev.length):=by omega
        rw [e,Nat.testBit_two_pow_add_gt (by omega)]at hb
        exact hb
       ·rw [<-htop hkl];exact h.1
     | false=>
       rw [h1]at h;simp only [cond_false]at h
       have hlt:u<2^prev.length:=by
        have: ¬2^prev.length<=u:=fun hle=>by rw [Nat.ble_eq_true_of_le hle]at h1;cases h1
        omega
       rcases hkl with hkl | hkl
       ·exact sB prev u hlt h k x (hlow hkl) hb
       ·subst hkl;rw [Nat.testBit_lt_two_pow hlt]at hb;cases hb
def maskR(pm:List Nat)(j:Nat)(o:Oper):Nat:=
 o.after.toList.foldl (fun s e=>cond (Region.binds .any e) (Nat.lor (Nat.lor s (2^e.on)) (pm.getD (Nat.sub (Nat.pred j) e.on) 0)) s) 0
theorem CS{pm:List Nat}{o:Oper}(he:kM pm.length o=true):maskR pm pm.length o=mask pm.reverse o:=by
 unfold maskR mask;unfold kM at he;generalize o.after.toList=l at he
 have key: ∀s,l.foldl (fun s e=>cond (Region.binds .any e) (Nat.lor (Nat.lor s (2^e.on)) (pm.getD (Nat.sub (Nat.pred pm.length) e.on) 0)) s) s=l.foldl (fun s e=>if Region.binds .any e then s|||2^e.on|||pm.reverse.getD e.on 0 else s) s:=by
  induction l with
  | nil=>intro s;rfl
  | cons e l ih=>
    intro s;simp only [List.all_cons,Bool.and_eq_true]at he;simp only [List.foldl_cons];rw [ih he.2];congr 1;cases hb:Region.binds .any e with
    | false=>rfl
    | true=>
      simp only [cond_true,if_true]
      have hlt:e.on<pm.length:=by
       have h1:=he.1;rw [hb]at h1;have h2:Nat.blt e.on pm.length=true:=by simpa only [Bool.not_true,Bool.false_or]using h1
       exact Nat.le_of_ble_eq_true h2
      have:pm.reverse.getD e.on 0=pm.getD (Nat.sub (Nat.pred pm.length) e.on) 0:=by
       rw [gD',gD',List.getElem?_reverse hlt];rfl
      rw [this];rfl
 exact key 0
theorem kC: ∀(l:List Oper) (acc:List Nat) (o:Oper),masks acc (l++ [o])=masks acc l++ [mask (masks acc l) o]
 | [],acc,o=>rfl
 | x::l,acc,o=>by
   show masks (acc++ [mask acc x]) (l++ [o])=_;rw [kC l];rfl
theorem eZ: ∀(l:List Oper) (acc:List Nat),(masks acc l).length =acc.length+l.length
 | [],acc=>rfl
 | x::l,acc=>by
   show(masks (acc++ [mask acc x]) l).length =_;rw [eZ l];simp;omega
def nQ(ops:Array Oper)(prev:List (Item A))(j m:Nat)(y:Item A):Bool:=
 kM j y.o&&iQ y&&SW ops y prev (Nat.xor (Nat.pred (2^j)) (Nat.land m (Nat.pred (2^j)))) j
def jX(n:Nat)(K:Nat->Prop):Prop:=match n with
 | 0=>K 0
 | p+1=>K (Nat.succ p)
theorem m9(n:Nat)(K:Nat->Prop):jX n K=K n:=by cases n<;>rfl
structure mO (ops:Array Oper) (prev:List (Item A)) (pm:List Nat):Prop where
 masks:pm=(masks [] (prev.reverse.map (·.o))).reverse
 edges:l4 (prev.reverse.map (·.o))
 wells:prev.reverse.all iQ=true
 pairs:D6 ops pm.reverse prev.reverse
theorem mO.nil(ops:Array Oper):mO ops ([]:List (Item A)) []:=
 ⟨rfl,fun i o h=>by simp at h,rfl,fun i j x y h=>by simp at h⟩
theorem mO.cons{ops:Array Oper}{prev:List (Item A)}{pm:List Nat}(h:mO ops prev pm){y:Item A}{m j:Nat}(hj:j=prev.length)(hm:m=maskR pm j y.o)(hs:nQ ops prev j m y=true):mO ops (y::prev) (m::pm):=by
 obtain⟨h1,h2,h3,h4⟩:=h;unfold nQ at hs;rw [Bool.and_eq_true,Bool.and_eq_true]at hs;obtain⟨⟨s1,s2⟩,s3⟩:=hs;have hpl:pm.length=prev.length:=by rw [h1,List.length_reverse,eZ];simp
 have hmk:m=mask pm.reverse y.o:=by rw [hm,hj,<-hpl];exact CS (by rw [hpl,<-hj];exact s1)
 refine⟨?_,?_,?_,?_⟩
 ·rw [List.reverse_cons,List.map_append,List.map_cons,List.map_nil,kC,List.reverse_append,<-h1.symm.symm];have:pm.reverse=Go.Sh.masks [] (prev.reverse.map (·.o)):=by rw [h1,List.reverse_reverse]
  rw [<-this,hmk];simp
 ·intro i o hi;rw [List.reverse_cons,List.map_append]at hi
  by_cases hlt:i<prev.length
  ·rw [List.getElem?_append_left (by simpa using hlt)]at hi;exact h2 i o hi
  ·rw [List.getElem?_append_right (by simp;omega)]at hi
   simp only [List.length_map,List.length_reverse,List.map_cons,List.map_nil]at hi
   have:i=prev.length:=by
    cases hq:i - prev.length with
    | zero=>omega
    | succ n=>rw [hq]at hi;simp at hi
   subst this;simp at hi;subst hi;rw [<-hj];exact s1
 ·rw [List.reverse_cons,List.all_append,h3];simpa using s2
 ·intro i k x z hi hk hik;rw [List.reverse_cons]at hi hk⊢
  by_cases hlt:k<prev.length
  ·rw [List.getElem?_append_left (by simp;omega)]at hi
   rw [List.getElem?_append_left (by simp;omega)]at hk
   have:=h4 i k x z hi hk hik;rw [gD',List.getElem?_append_left (by simp;omega),<-gD'];exact this
  ·have hkl:k=prev.length:=by
    cases Nat.lt_or_ge k (prev.length+1)with
    | inl g=>omega
    | inr g=>rw [List.getElem?_eq_none (by simp;omega)]at hk;cases hk
   subst hkl;rw [List.getElem?_append_left (by simp;omega)]at hi
   rw [List.getElem?_append_right (by simp)]at hk
   simp at hk;subst hk
   have e:(pm.reverse++ [m]).getD prev.length 0=m:=by
    rw [gD',List.getElem?_append_right (by simp;omega)]
    simp [hpl]
   rw [e];cases hb:m.testBit i with
   | true=>exact .inl rfl
   | false=>
     right;subst hj;have hpow:Nat.pred (2^prev.length)=2^prev.length - 1:=rfl;refine sB prev _ ?_ s3 i x hi ?_
     ·have h2p:0<2^prev.length:=Nat.two_pow_pos _;refine Nat.xor_lt_two_pow (n:=prev.length) (by rw [hpow];omega) ?_
      exact Nat.lt_of_le_of_lt Nat.and_le_right (by rw [hpow];omega)
     ·show Nat.testBit (Nat.pred (2^prev.length) ^^^ (m&&&Nat.pred (2^prev.length))) i=true;rw [Nat.testBit_xor,Nat.testBit_and,hpow,Nat.testBit_two_pow_sub_one,hb];simp [hik]
def aAe:List Nat->Nat->List Oper->Bool
 | _,_,[]=>true
 | pm,i,o::rest=>kM i o&&Nat.beq (maskR pm i o) (Nat.pred (2^i))&&aAe (maskR pm i o::pm) (Nat.succ i) rest
def yQ(ρ:Operand->AVal)(op:Op)(h:aC A):Option (Nat×List AVal×Nat):=
 match op with
 | .load t a=>match d6 P t with
   | some false=>match ρ a with
     | .ptr l off=>match aL h l with
       | some (.cells (.ptr a b:: .ptr c d::r))=>some (l,.ptr a b:: .ptr c d::r,off)
       | _=>none
     | _=>none
   | _=>none
 | _=>none
def C2:List AVal->Nat->Nat->(AVal->Prop)->Prop
 | [],_,_,_=>False
 | v::r,off,j,k=>cond (Nat.beq off j) (k v) (C2 r off (Nat.succ j) k)
def l5(S:List Oper->List (Option Tmp)->Nat->List (Nat×AVal)->aC A->List Nat->Prop)(ops:Array Oper)(base:List AVal)(n:Nat):List Oper->List (Option Tmp)->Nat->List (Nat×AVal)->aC A->List (Item A)->List Nat->(List AVal->aC A->Prop)->Prop
 | [],_,_,δ,h,_,_,K=>B4 (qA δ 0 base) fun tm=>K tm h
 | o::rest,seen,i,δ,h,prev,pm,K=>
   cK (dok n o.dst) <|
   let run (δ':List (Nat×AVal)):Prop:=
    match yQ (P:=P) (fR δ' base) o.op h with
    | some (l,vs,off)=>C2 vs off 0 fun v=>jX (maskR pm i o) fun m=>cK (nQ ops prev i m ⟨o,true,v,[],[],[l],h.length⟩)
       (l5 S ops base n rest (o.dst::seen) (Nat.succ i) (i9 δ' o.dst v) h (⟨o,true,v,[],[],[l],h.length⟩::prev) (m::pm) K)
    | none=>
    match dop E (fR δ' base) o.op h with
    | some r0=>
      match dop E (fR δ' base) o.op (hres r0.foot 0 h)with
      | some r=>zA r.need (jX (maskR pm i o) fun m=>cK (nQ ops prev i m ⟨o,true,r.v,r.upd,r.new,r0.foot,h.length⟩)
         (l5 S ops base n rest (o.dst::seen) (Nat.succ i) (i9 δ' o.dst r.v) (r.applyF h) (⟨o,true,r.v,r.upd,r.new,r0.foot,h.length⟩::prev) (m::pm) K))
      | none=>S (o::rest) seen i δ h pm
    | none=>S (o::rest) seen i δ h pm
   let skip (δ:List (Nat×AVal)):Prop:=jX (maskR pm i o) fun m=>cK (nQ ops prev i m ⟨o,false,.raw undef,[],[],[],h.length⟩)
    (l5 S ops base n rest (o.dst::seen) (Nat.succ i) (i9 δ o.dst (.raw undef)) h (⟨o,false,.raw undef,[],[],[],h.length⟩::prev) (m::pm) K)
   match o.guard with
   | none=>run δ
   | some (j,want)=>
     cK (Nat.blt j i) <|
     match qW seen i j with
     | none=>False
     | some d=>
       match FH δ base d with
       | .bool b=>cK (Nat.blt d n) <| cond b (if want then run ((d,.bool true)::δ)else skip ((d,.bool true)::δ)) (if want then skip ((d,.bool false)::δ)else run ((d,.bool false)::δ))
       | v=>if hX v then skip δ else False
variable {E}
def NU(E:Env A P)(ops:Array Oper)(tm:List AVal)(h:aC A)(it:Item A):Prop:=
 it.n=h.length/\
 ((it.ran=true/\(∃r,dop E (dL tm) it.o.op (hres it.foot 0 h)=some r/\r.obl/\r.v=it.v/\r.upd=it.upd/\r.new=it.new)/\
    (∀j want,it.o.guard=some (j,want)-> ∃d,(ops[j]?).bind (·.dst)=some d/\tm[d]? =some (.bool want)))\/
  (it.ran=false/\it.v=.raw undef/\it.upd=[]/\it.new=[]/\
    ∃j want d,it.o.guard=some (j,want)/\(ops[j]?).bind (·.dst)=some d/\(tm[d]? =some (.bool (!want))\/hX (tm.getD d (.raw undef))=true)))
def Item.applyH(it:Item A)(h:aC A):aC A:=hupd h it.upd++it.new.map some
inductive f6 (E:Env A P) (ops:Array Oper):List AVal->aC A->List (Item A)->List AVal->aC A->Prop
 | nil (tm:List AVal) (h:aC A):f6 E ops tm h [] tm h
 | cons {tm tm':List AVal} {h h':aC A} {it:Item A} {its:List (Item A)} :NU E ops tm h it->f6 E ops (uK tm it.o.dst it.v) (it.applyH h) its tm' h'->f6 E ops tm h (it::its) tm' h'
theorem xL(foot:List Nat): ∀(h:aC A) (i l:Nat),aL (hres foot i h) l=if foot.contains (i+l)then aL h l else none
 | [],i,l=>by simp [hres,aL]
 | e::h,i,0=>by
   simp only [hres,aL,List.getD_cons_zero,Nat.add_zero];cases foot.contains i<;>rfl
 | e::h,i,l+1=>by
   have:=xL foot h (i+1) l;simp only [aL]at this;simp only [hres,aL,List.getD_cons_succ];rw [this,show i+1+l=i+(l+1)from by omega]
theorem xV{off:Nat}{k:AVal->Prop} : ∀ {vs:List AVal} {j:Nat},C2 vs off j k-> ∃v,(∃q,off=j+q/\vs[q]? =some v)/\k v
 | [],_,h=>h.elim
 | v::r,j,h=>by
   unfold C2 at h;cases hb:Nat.beq off j with
   | true=>
     rw [hb]at h;exact⟨v,⟨0,Nat.eq_of_beq_eq_true hb,rfl⟩,h⟩
   | false=>
     rw [hb]at h;obtain⟨v',⟨q,h1,h2⟩,h3⟩:=xV (j:=Nat.succ j) h;exact⟨v',⟨q+1,by omega,by simpa using h2⟩,h3⟩
theorem FJ{ρ:Operand->AVal}{op:Op}{h:aC A}{l off:Nat}{vs:List AVal}{v:AVal}(hd:yQ (P:=P) ρ op h=some (l,vs,off))(hv: ∃q,off=0+q/\vs[q]? =some v):dop E ρ op (hres [l] 0 h)=some {v,upd:=[],new:=[],foot:=[l],need:=none} :=by
 obtain⟨q,rfl,hv⟩:=hv;rw [Nat.zero_add]at hd;unfold yQ at hd;split at hd
 case h_2=>cases hd
 rename_i t a;split at hd
 case h_2=>cases hd
 rename_i hag;split at hd
 case h_2=>cases hd
 rename_i l' off' hρ;split at hd
 case h_2=>cases hd
 rename_i a' b' c' d' r hl;simp only [sI',pI']at hd;obtain⟨rfl,rfl,rfl⟩:=hd
 have e:aop P ρ (.load t a) (hres [l'] 0 h)=some {v,upd:=[],new:=[],foot:=[l'],need:=none} :=by
  have hl2:aL (hres [l'] 0 h) l'=some (.cells (.ptr a' b':: .ptr c' d'::r)):=by
   rw [xL];simp [hl]
  simp only [aop,hρ,w6,hl2,hag,hv]
 simp only [dop,e]
theorem yT{S:List Oper->List (Option Tmp)->Nat->List (Nat×AVal)->aC A->List Nat->Prop}{ops:Array Oper}{base:List AVal}{n:Nat}(hbn:base.length=n){K:List AVal->aC A->Prop} : ∀(rest:List Oper) (seen:List (Option Tmp)) (i:Nat) (δ:List (Nat×AVal)) (h:aC A) (prev:List (Item A)) (pm:List Nat),tD ops rest seen i->uR n δ->i=prev.length->mO ops prev pm->
 l5 E S ops base n rest seen i δ h prev pm K->
 ∃its rest2 tm' h' pm',f6 E ops (bT δ base) h its tm' h'/\its.map (·.o)++rest2=rest/\mO ops (its.reverse++prev) pm'/\((rest2=[]/\K tm' h')\/(∃seen' δ',tm'=bT δ' base/\uR n δ'/\tD ops rest2 seen' (i+its.length)/\S rest2 seen' (i+its.length) δ' h' pm')):=by
 intro rest
 induction rest with
 | nil=>
   intro seen i δ h prev pm _ hin _ hb he;unfold l5 at he;rw [qG,uS (by rw [hbn];exact hin)]at he
   exact⟨[],[],_,h,pm,.nil _ h,rfl,hb,.inl ⟨rfl,he⟩⟩
 | cons o rest ih=>
   intro seen i δ h prev pm hsn hin hi hb he;obtain⟨hok,he⟩:=bM.1 he
   have run: ∀δ':List (Nat×AVal),uR n δ'->bT δ' base=bT δ base->(∀j want,o.guard=some (j,want)-> ∃d,(ops[j]?).bind (·.dst)=some d/\(bT δ base)[d]? =some (.bool want))->
    (match yQ (P:=P) (fR δ' base) o.op h with
      | some (l,vs,off)=>C2 vs off 0 fun v=>jX (maskR pm i o) fun m=>cK (nQ ops prev i m ⟨o,true,v,[],[],[l],h.length⟩)
         (l5 E S ops base n rest (o.dst::seen) (Nat.succ i) (i9 δ' o.dst v) h (⟨o,true,v,[],[],[l],h.length⟩::prev) (m::pm) K)
      | none=>
      match dop E (fR δ' base) o.op h with
      | some r0=>
        match dop E (fR δ' base) o.op (hres r0.foot 0 h)with
        | some r=>zA r.need (jX (maskR pm i o) fun m=>cK (nQ ops prev i m ⟨o,true,r.v,r.upd,r.new,r0.foot,h.length⟩)
           (l5 E S ops base n rest (o.dst::seen) (Nat.succ i) (i9 δ' o.dst r.v) (r.applyF h) (⟨o,true,r.v,r.upd,r.new,r0.foot,h.length⟩::prev) (m::pm) K))
        | none=>S (o::rest) seen i δ h pm
      | none=>S (o::rest) seen i δ h pm)-> ∃its rest2 tm' h' pm',f6 E ops (bT δ base) h its tm' h'/\its.map (·.o)++rest2=o::rest/\mO ops (its.reverse++prev) pm'/\((rest2=[]/\K tm' h')\/(∃seen' δ',tm'=bT δ' base/\uR n δ'/\tD ops rest2 seen' (i+its.length)/\S rest2 seen' (i+its.length) δ' h' pm')):=by
    intro δ' hin' heq hg hh;have stop:S (o::rest) seen i δ h pm-> ∃its rest2 tm' h' pm',f6 E ops (bT δ base) h its tm' h'/\its.map (·.o)++rest2=o::rest/\mO ops (its.reverse++prev) pm'/\((rest2=[]/\K tm' h')\/(∃seen' δ',tm'=bT δ' base/\uR n δ'/\tD ops rest2 seen' (i+its.length)/\S rest2 seen' (i+its.length) δ' h' pm')):=fun hS=>⟨[],o::rest,_,h,pm,.nil _ h,rfl,hb,.inr ⟨seen,δ,rfl,hin,hsn,hS⟩⟩;rw [rG (by rw [hbn];exact hin'),heq]at hh
    split at hh
    ·rename_i l vs off hds;obtain⟨v,hv,hev⟩:=xV hh;rw [m9]at hev;obtain⟨hst,hev⟩:=bM.1 hev;obtain⟨its,rest2,tm2,h2,pm2,h3,h4,h5,h6⟩:=ih _ _ _ _ _ _ hsn.next (lZ hin' hok) (by rw [hi];rfl) (hb.cons hi rfl hst) hev
     refine⟨⟨o,true,v,[],[],[l],h.length⟩::its,rest2,tm2,h2,pm2,.cons ⟨rfl,.inl ⟨rfl,⟨_,FJ hds hv,trivial,rfl,rfl,rfl⟩,hg⟩⟩ ?_,by simp [h4],by simpa using h5,?_⟩
     ·rw [<-lY (n:=n),heq]at h3
      simpa [Item.applyH,hupd]using h3
     ·rw [show Nat.succ i+its.length=i+(its.length+1)from by omega]at h6;exact h6
    split at hh
    ·rename_i r0 hr0;split at hh
     ·rename_i r hr;obtain⟨ho,hev⟩:=nH.1 hh;rw [m9,rJ]at hev;obtain⟨hst,hev⟩:=bM.1 hev;obtain⟨its,rest2,tm2,h2,pm2,h3,h4,h5,h6⟩:=ih _ _ _ _ _ _ hsn.next (lZ hin' hok) (by rw [hi];rfl) (hb.cons hi rfl hst) hev
      refine⟨⟨o,true,r.v,r.upd,r.new,r0.foot,h.length⟩::its,rest2,tm2,h2,pm2,.cons ⟨rfl,.inl ⟨rfl,⟨r,hr,ho,rfl,rfl,rfl⟩,hg⟩⟩ ?_,by simp [h4],by simpa using h5,?_⟩
      ·rw [<-lY (n:=n),heq]at h3;exact h3
      ·rw [show Nat.succ i+its.length=i+(its.length+1)from by omega]at h6;exact h6
     ·exact stop hh
    ·exact stop hh
   have skip: ∀δ':List (Nat×AVal),uR n δ'->bT δ' base=bT δ base->(∃j want d,o.guard=some (j,want)/\(ops[j]?).bind (·.dst)=some d/\((bT δ base)[d]? =some (.bool (!want))\/hX ((bT δ base).getD d (.raw undef))=true))->
    (jX (maskR pm i o) fun m=>cK (nQ ops prev i m ⟨o,false,.raw undef,[],[],[],h.length⟩)
      (l5 E S ops base n rest (o.dst::seen) (Nat.succ i) (i9 δ' o.dst (.raw undef)) h (⟨o,false,.raw undef,[],[],[],h.length⟩::prev) (m::pm) K))->
    ∃its rest2 tm' h' pm',f6 E ops (bT δ base) h its tm' h'/\its.map (·.o)++rest2=o::rest/\mO ops (its.reverse++prev) pm'/\((rest2=[]/\K tm' h')\/(∃seen' δ',tm'=bT δ' base/\uR n δ'/\tD ops rest2 seen' (i+its.length)/\S rest2 seen' (i+its.length) δ' h' pm')):=by
    intro δ' hin' heq hg hev;rw [m9]at hev;obtain⟨hst,hev⟩:=bM.1 hev;obtain⟨its,rest2,tm2,h2,pm2,h3,h4,h5,h6⟩:=ih _ _ _ _ _ _ hsn.next (lZ hin' hok) (by rw [hi];rfl) (hb.cons hi rfl hst) hev
    refine⟨⟨o,false,.raw undef,[],[],[],h.length⟩::its,rest2,tm2,h2,pm2,.cons ⟨rfl,.inr ⟨rfl,rfl,rfl,rfl,hg⟩⟩ ?_,by simp [h4],by simpa using h5,?_⟩
    ·rw [<-lY (n:=n),heq]at h3
     simpa [Item.applyH,hupd]using h3
    ·rw [show Nat.succ i+its.length=i+(its.length+1)from by omega]at h6;exact h6
   cases hg:o.guard with
   | none=>
     rw [hg]at he;exact run δ hin rfl (fun j want e=>by rw [hg]at e;cases e) he
   | some g=>
     obtain⟨j,want⟩:=g;rw [hg]at he;simp only at he;obtain⟨hji,he⟩:=bM.1 he;have hjd:=hsn.dst hji;cases hj:(ops[j]?).bind (·.dst)with
     | none=>rw [<-hjd,hj]at he;exact he.elim
     | some d=>
       rw [<-hjd,hj]at he;simp only at he;have hdg:=p9 δ base d (by rw [hbn];exact hin)
       split at he
       ·rename_i b hb';obtain⟨hdn,he⟩:=bM.1 he;rw [hdg]at hb';have hgd:=rR hb';have hs:bT ((d,.bool b)::δ) base=bT δ base:=lP _ d _ hgd;have hin2: ∀v,uR n ((d,v)::δ):=fun v=>⟨Nat.le_of_ble_eq_true hdn,hin⟩
        have r1:want=b-> ∀j' want',o.guard=some (j',want')-> ∃d,(ops[j']?).bind (·.dst)=some d/\(bT δ base)[d]? =some (.bool want'):=by
         intro e j' want' e2;rw [hg]at e2;cases e2;exact⟨d,hj,by rw [e];exact hgd⟩
        have r2:want= !b -> ∃j want d,o.guard=some (j,want)/\(ops[j]?).bind (·.dst)=some d/\((bT δ base)[d]? =some (.bool (!want))\/hX ((bT δ base).getD d (.raw undef))=true):=by
         intro e;exact⟨j,want,d,hg,hj,.inl (by rw [e];simpa using hgd)⟩
        cases b with
        | true=>
          simp only [cond_true]at he;cases want with
          | true=>rw [if_pos rfl]at he;exact run _ (hin2 _) hs (r1 rfl) he
          | false=>rw [if_neg (by simp)]at he;exact skip _ (hin2 _) hs (r2 rfl) he
        | false=>
          simp only [cond_false]at he;cases want with
          | true=>rw [if_pos rfl]at he;exact skip _ (hin2 _) hs (r2 rfl) he
          | false=>rw [if_neg (by simp)]at he;exact run _ (hin2 _) hs (r1 rfl) he
       ·rename_i hnb;split at he
        ·rename_i htp;rw [hdg]at htp;exact skip δ hin rfl ⟨j,want,d,hg,hj,.inr htp⟩ he
        ·exact he.elim
end
end Go.Sh
namespace Go.Sh
open Go
variable [Con] {A:Type}
def zY(u:List (Nat×Option (aG A)))(h:bH A):bH A:=u.foldl (fun h x=>h.put x.1 x.2) h
def Item.putF(it:Item A)(h:bH A):bH A:=fun l=>if it.n<=l/\l<it.n+it.new.length then it.new[l - it.n]? else zY it.upd h l
theorem wB: ∀(u:List (Nat×Option (aG A))) (h:bH A) (l:Nat),u.any (fun x=>x.1 == l)=false->zY u h l=h l
 | [],h,l,_=>rfl
 | x::u,h,l,hl=>by
   simp only [List.any_cons,Bool.or_eq_false_iff,beq_eq_false_iff_ne,ne_eq]at hl;show zY u (h.put x.1 x.2) l=h l;rw [wB u _ l hl.2];simp [bH.put,Ne.symm hl.1]
theorem x4: ∀(u:List (Nat×Option (aG A))) (h g:bH A) (l:Nat),(u.any (fun x=>x.1 == l)=true\/h l=g l)->zY u h l=zY u g l
 | [],h,g,l,hl=>by
   rcases hl with hl | hl
   ·cases hl
   ·exact hl
 | x::u,h,g,l,hl=>by
   show zY u (h.put x.1 x.2) l=zY u (g.put x.1 x.2) l;apply x4
   by_cases hx:x.1=l
   ·right;simp [bH.put,hx]
   ·rcases hl with hl | hl
    ·left;have hb:(x.1 == l)=false:=by simpa using hx
     simpa only [List.any_cons,hb,Bool.false_or]using hl
    ·right;simp only [bH.put];rw [if_neg (Ne.symm hx),if_neg (Ne.symm hx)];exact hl
theorem kE(it:Item A)(h:bH A)(l:Nat)(hp:it.puts l=false):it.putF h l=h l:=by
 simp only [Item.puts,Bool.or_eq_false_iff,Bool.and_eq_false_iff,dF']at hp;unfold Item.putF;rw [if_neg (by omega)]
 exact wB _ _ _ hp.1
theorem sA(it:Item A)(h g:bH A)(l:Nat)(hp:it.puts l=true\/h l=g l):it.putF h l=it.putF g l:=by
 unfold Item.putF
 by_cases hc:it.n<=l/\l<it.n+it.new.length
 ·rw [if_pos hc,if_pos hc]
 ·rw [if_neg hc,if_neg hc];apply x4;rcases hp with hp | hp
  ·simp only [Item.puts,Bool.or_eq_true,Bool.and_eq_true,dT']at hp;rcases hp with hp | hp
   ·exact .inl hp
   ·exact(hc hp).elim
  ·exact .inr hp
theorem DP: ∀(u:List (Nat×Option (aG A))) (h:aC A),(∀x∈u,x.1<h.length)->toF (hupd h u)=zY u (toF h)
 | [],h,_=>rfl
 | x::u,h,hx=>by
   show toF (hupd (h.set x.1 x.2) u)=zY u ((toF h).put x.1 x.2);rw [DP u _ (by intro y hy;simp;exact hx y (by simp [hy])),fP x.2 (hx x (by simp))]
theorem mT{it:Item A}{h:aC A}(hn:it.n=h.length)(hw:iQ it=true):toF (it.applyH h)=it.putF (toF h):=by
 have hu: ∀x∈it.upd,x.1<h.length:=by
  intro x hx;have:=List.all_eq_true.1 hw x hx;simp only [Bool.and_eq_true,dT']at this;omega
 funext l;show aL (hupd h it.upd++it.new.map some) l=it.putF (toF h) l;unfold Item.putF
 by_cases hc:it.n<=l/\l<it.n+it.new.length
 ·rw [if_pos hc];have e1:(hupd h it.upd).length =it.n:=by rw [eT,hn]
  simp only [aL,gD'];rw [List.getElem?_append_right (by omega),e1,List.getElem?_map]
  have hlt:l - it.n<it.new.length:=by omega
  rw [gE' hlt];rfl
 ·rw [if_neg hc,<-DP _ _ hu];show _=aL (hupd h it.upd) l
  by_cases hlt:l<(hupd h it.upd).length
  ·exact cE hlt
  ·rw [eT]at hlt;rw [cA (by rw [List.length_append,eT,List.length_map];omega),cA (by rw [eT];omega)]
def tmF(D:Nat->Bool):Nat->List (Item A)->List AVal->List AVal
 | _,[],tm=>tm
 | i,it::its,tm=>tmF D (i+1) its (if D i then uK tm it.o.dst it.v else tm)
def hF(D:Nat->Bool):Nat->List (Item A)->bH A->bH A
 | _,[],h=>h
 | i,it::its,h=>hF D (i+1) its (if D i then it.putF h else h)
theorem mV(tm:List AVal)(d:Option Tmp)(v:AVal):(uK tm d v).length =tm.length:=by
 cases d<;>simp [uK]
theorem mU(tm:List AVal)(d:Option Tmp)(v:AVal)(t:Nat):(uK tm d v)[t]? =if d=some t/\t<tm.length then some v else tm[t]? :=by
 cases d with
 | none=>simp [uK]
 | some e=>
   show(tm.set e v)[t]? =_;rw [List.getElem?_set]
   by_cases he:e=t
   ·subst he
    by_cases hlt:e<tm.length
    ·simp [hlt]
    ·simp [hlt]
   ·simp [he]
theorem pO(D:Nat->Bool): ∀(its:List (Item A)) (i:Nat) (tm:List AVal),(tmF D i its tm).length =tm.length
 | [],_,_=>rfl
 | it::its,i,tm=>by
   unfold tmF;rw [pO D its];split
   ·exact mV _ _ _
   ·rfl
theorem oH{D1 D2:Nat->Bool}{t:Nat} : ∀(its:List (Item A)) (i:Nat) (tm1 tm2:List AVal),tm1.length=tm2.length->tm1[t]? =tm2[t]? ->
 (∀k it,its[k]? =some it->it.o.dst=some t->D1 (i+k)=D2 (i+k))->(tmF D1 i its tm1)[t]? =(tmF D2 i its tm2)[t]?
 | [],_,_,_,_,h,_=>h
 | it::its,i,tm1,tm2,hl,h,hD=>by
   unfold tmF;apply oH its
   ·split<;>split<;>simp [mV,hl]
   ·by_cases hd:it.o.dst=some t
    ·have e:=hD 0 it rfl hd;rw [Nat.add_zero]at e;rw [e];split
     ·rw [mU,mU,hl,h]
     ·exact h
    ·have e1: ∀tm:List AVal,(uK tm it.o.dst it.v)[t]? =tm[t]? :=fun tm=>by rw [mU,if_neg (by simp [hd])]
     split<;>split<;>simp only [e1,h]
   ·intro k it' hk hd;have:=hD (k+1) it' (by simpa using hk) hd
    rw [show i+1+k=i+(k+1)from by omega];exact this
theorem nA{D1 D2:Nat->Bool}{l:Nat} : ∀(its:List (Item A)) (i:Nat) (h1 h2:bH A),h1 l=h2 l->
 (∀k it,its[k]? =some it->it.puts l=true->D1 (i+k)=D2 (i+k))->hF D1 i its h1 l=hF D2 i its h2 l
 | [],_,_,_,h,_=>h
 | it::its,i,h1,h2,h,hD=>by
   unfold hF;apply nA its
   ·cases hp:it.puts l with
    | true=>
      have e:=hD 0 it rfl hp;rw [Nat.add_zero]at e;rw [e];split
      ·exact sA it h1 h2 l (.inl hp)
      ·exact h
    | false=>split<;>split<;>simp only [kE it _ l hp,h]
   ·intro k it' hk hd;have:=hD (k+1) it' (by simpa using hk) hd
    rw [show i+1+k=i+(k+1)from by omega];exact this
theorem rA{D:Nat->Bool} : ∀(its:List (Item A)) (i:Nat) (tm:List AVal),(∀k,i<=k->D k=false)->tmF D i its tm=tm
 | [],_,_,_=>rfl
 | it::its,i,tm,h=>by
   unfold tmF;rw [h i (Nat.le_refl _)];exact rA its (i+1) tm (fun k hk=>h k (by omega))
theorem qI{D:Nat->Bool} : ∀(its:List (Item A)) (i:Nat) (h:bH A),(∀k,i<=k->D k=false)->hF D i its h=h
 | [],_,_,_=>rfl
 | it::its,i,g,h=>by
   unfold hF;rw [h i (Nat.le_refl _)];exact qI its (i+1) g (fun k hk=>h k (by omega))
section
variable {P:Program} {E:Env A P}
theorem eG(it:Item A)(h:aC A):(it.applyH h).length =h.length+it.new.length:=by
 simp [Item.applyH,eT]
theorem f6.le{ops:Array Oper}{tm tm':List AVal}{h h':aC A}{its:List (Item A)}(ht:f6 E ops tm h its tm' h'):h.length<=h'.length:=by
 induction ht with
 | nil=>exact Nat.le_refl _
 | cons _ _ ih2=>rw [eG]at ih2;omega
theorem f6.low{ops:Array Oper}{tm tm':List AVal}{h h':aC A}{its:List (Item A)}(ht:f6 E ops tm h its tm' h'): ∀(j:Nat) (y:Item A),its[j]? =some y->h.length<=y.n:=by
 induction ht with
 | nil=>intro j y hy;simp at hy
 | cons ho ht ih2=>
   intro j y hy;cases j with
   | zero=>simp at hy;subst hy;rw [ho.1];exact Nat.le_refl _
   | succ j=>simp at hy;have:=ih2 j y hy;rw [eG]at this;omega
theorem f6.at{ops:Array Oper}{tm tm':List AVal}{h h':aC A}{its:List (Item A)}(ht:f6 E ops tm h its tm' h')(hw:its.all iQ=true): ∀(base k:Nat) (it:Item A),its[k]? =some it->
 ∃hk,NU E ops (tmF (fun i=>decide (i<base+k)) base its tm) hk it/\toF hk=hF (fun i=>decide (i<base+k)) base its (toF h)/\h.length<=hk.length/\hk.length+it.new.length<=h'.length:=by
 induction ht with
 | nil tm h=>intro base k it hk;simp at hk
 | @cons tm tm' h h' it0 its ho ht ih=>
   simp only [List.all_cons,Bool.and_eq_true]at hw;have ih:=ih hw.2;intro base k it hk;cases k with
   | zero=>
     simp at hk;subst hk;refine⟨h,?_,?_,Nat.le_refl _,?_⟩
     ·rw [rA _ _ _ (by intro k hk;simp;omega)];exact ho
     ·rw [qI _ _ _ (by intro k hk;simp;omega)]
     ·have:=ht.le;rw [eG]at this;exact this
   | succ k=>
     simp at hk;obtain⟨hk',h1,h2,h3,h4⟩:=ih (base+1) k it hk;have e: ∀i,decide (i<base+1+k)=decide (i<base+(k+1)):=fun i=>by congr 1;rw [Nat.add_assoc,Nat.add_comm 1 k]
     have e':(fun i=>decide (i<base+1+k))=(fun i=>decide (i<base+(k+1))):=funext e;rw [e']at h1 h2;refine⟨hk',?_,?_,by rw [eG]at h3;omega,h4⟩
     ·unfold tmF;rw [if_pos (by simp)]
      exact h1
     ·unfold hF;rw [if_pos (by simp),<-mT ho.1 hw.1]
      exact h2
theorem f6.end{ops:Array Oper}{tm tm':List AVal}{h h':aC A}{its:List (Item A)}(ht:f6 E ops tm h its tm' h')(hw:its.all iQ=true): ∀(base:Nat) (D:Nat->Bool),(∀k,k<its.length->D (base+k)=true)->
 tmF D base its tm=tm'/\hF D base its (toF h)=toF h':=by
 induction ht with
 | nil tm h=>intro base D _;exact⟨rfl,rfl⟩
 | @cons tm tm' h h' it0 its ho ht ih=>
   simp only [List.all_cons,Bool.and_eq_true]at hw;intro base D hD;have h0:=hD 0 (by simp)
   rw [Nat.add_zero]at h0
   have:=ih hw.2 (base+1) D (by
    intro k hk;have:=hD (k+1) (by simp;omega)
    rw [Nat.add_assoc,Nat.add_comm 1 k];exact this)
   unfold tmF hF;rw [h0,if_pos rfl,if_pos rfl,<-mT ho.1 hw.1];exact this
theorem f6.news{ops:Array Oper}{tm tm':List AVal}{h h':aC A}{its:List (Item A)}(ht:f6 E ops tm h its tm' h'): ∀(i j:Nat) (x y:Item A),its[i]? =some x->its[j]? =some y->i<j->h.length<=x.n/\x.n+x.new.length<=y.n:=by
 induction ht with
 | nil=>intro i j x y hx;simp at hx
 | cons ho ht ih=>
   intro i j x y hx hy hij;cases j with
   | zero=>omega
   | succ j=>
     simp at hy;cases i with
     | zero=>
       simp at hx;subst hx;have:=ht.low j y hy;rw [eG]at this;rw [ho.1];exact⟨Nat.le_refl _,this⟩
     | succ i=>
       simp at hx;obtain⟨h1,h2⟩:=ih i j x y hx hy (by omega)
       rw [eG]at h1;exact⟨by omega,h2⟩
end
end Go.Sh
namespace Go.Sh
open Go
variable [Con] {A:Type}
theorem mJ{ρ ρ2:Operand->AVal}(l:List (Nat×Operand))(h: ∀x∈l.map (·.2),ρ x=ρ2 x):(l.map fun x=>(x.1,ρ x.2))=l.map fun x=>(x.1,ρ2 x.2):=by
 apply List.map_congr_left;intro x hx;rw [h x.2 (List.mem_map.2 ⟨x,hx,rfl⟩)]
theorem hZ{ρ ρ2:Operand->AVal}(l:List Operand)(h: ∀x∈l,ρ x=ρ2 x):l.map ρ=l.map ρ2:=List.map_congr_left h
theorem n8{P:Program}{ρ ρ2:Operand->AVal}(op:Op)(h:aC A)(hρ: ∀x∈op.operands,ρ x=ρ2 x):aop P ρ op h=aop P ρ2 op h:=by
 cases op<;>simp only [Op.operands]at hρ<;>simp only [aop]
 case move x=>rw [hρ x (by simp)]
 case assign x=>rw [hρ x (by simp)]
 case pick c a b=>rw [hρ c (by simp),hρ a (by simp),hρ b (by simp)]
 case box e x=>rw [hρ x (by simp)]
 case build t ps=>rw [mJ ps.toList (fun x hx=>hρ x (by simpa using hx))]
 case buildSlice t n ps=>rw [mJ ps.toList (fun x hx=>hρ x (by simpa using hx))]
 case load t a=>rw [hρ a (by simp)]
 case store t a x=>rw [hρ a (by simp),hρ x (by simp)]
 case nilCheck x=>rw [hρ x (by simp)]
 case binOp o t x y yt=>rw [hρ x (by simp),hρ y (by simp)]
 case unOp o t x=>rw [hρ x (by simp)]
 case convert s d x=>rw [hρ x (by simp)]
 case makeInterface t x=>rw [hρ x (by simp)]
 case makeFunc fn f c=>rw [hZ f.toList (fun x hx=>hρ x (by simp at hx⊢;exact .inl hx)),hZ c.toList (fun x hx=>hρ x (by simp at hx⊢;exact .inr hx))]
 case makeSlice t n m=>rw [hρ n (by simp),hρ m (by simp)]
 case makeMap t r=>cases r<;>rfl
 case lookup t x i ck=>rw [hρ x (by simp),hρ i (by simp)]
 case mapUpdate t m k v=>rw [hρ m (by simp),hρ k (by simp),hρ v (by simp)]
 case slice t x lo hi mx=>
  have e1:lo.map ρ=lo.map ρ2:=by cases lo with | none=>rfl | some y=>simp [hρ y (by simp)]
  have e2:hi.map ρ=hi.map ρ2:=by cases hi with | none=>rfl | some y=>simp [hρ y (by simp)]
  have e3:mx.map ρ=mx.map ρ2:=by cases mx with | none=>rfl | some y=>simp [hρ y (by simp)]
  rw [hρ x (by simp),e1,e2,e3]
 case fieldAddr s x f=>rw [hρ x (by simp)]
 case field s x f=>rw [hρ x (by simp)]
 case indexAddr t x i=>rw [hρ x (by simp),hρ i (by simp)]
 case index t x i=>rw [hρ x (by simp),hρ i (by simp)]
 case extract x i=>rw [hρ x (by simp)]
 case call c=>
  have e1:c.args.toList.map ρ=c.args.toList.map ρ2:=hZ _ (fun x hx=>hρ x (by simp [Call.operands];right;simpa using hx))
  rw [e1]
section
variable {P:Program} {E:Env A P}
theorem yI{ρ ρ2:Operand->AVal}(c:Call)(hρ: ∀x∈c.operands,ρ x=ρ2 x):callee E ρ c=callee E ρ2 c:=by
 have e1:c.args.toList.map ρ=c.args.toList.map ρ2:=hZ _ (fun x hx=>hρ x (by simp [Call.operands];right;simpa using hx))
 unfold callee;cases hc:c.callee with
 | value f=>simp only;rw [hρ f (by simp [Call.operands,hc]),e1]
 | invoke r m=>simp only;rw [hρ r (by simp [Call.operands,hc]),e1]
 | builtin b=>rfl
theorem J8{ρ ρ2:Operand->AVal}(op:Op)(h:aC A)(hρ: ∀x∈op.operands,ρ x=ρ2 x):dop E ρ op h=dop E ρ2 op h:=by
 cases op
 case call c=>
  simp only [dop];rw [yI c hρ,n8 (.call c) h hρ]
 case load t a=>
  simp only [dop];rw [n8 (.load t a) h hρ,hρ a (by simp [Op.operands]),E.droCongr ρ ρ2 (.load t a) h hρ]
 case store t a x=>
  simp only [dop];rw [n8 (.store t a x) h hρ,E.droCongr ρ ρ2 (.store t a x) h hρ]
 all_goals (simp only [dop];exact n8 _ h hρ)
theorem J9{a:Act}{o:Oper}{tm:List AVal}{h:aC A}{r:ORes A}(hr:dop E (dL tm) o.op h=some r)(ho:r.obl){V:Val}{hR:PHeap}{w:World}
 (hi:Inv E.I V (toF h) hR w) (hf:i5 V h.length r.new.length) (ht:aI V tm a.tmps.toList) {next:Act->World->Prop} {Q:Exit->Act->World->Prop}
 (hn: ∀v' V' w',Rep V' r.v v'->V.le V'->(∀l,V l=none->V' l≠none->h.length<=l/\l<h.length+r.new.length)->Inv E.I V' (toF (r.apply h)) hR w'->bX w w'->next (a.put o.dst v') w'):
 o.wp P a w next Q:=by
 have hρ: ∀x,Rep V (dL tm x) (a.eval x):=jI ht
 have simple:aop P (dL tm) o.op h=some r->o.wp P a w next Q:=by
  intro hr;obtain⟨nx,w',V',v',h1,h2,h3,h4,h5,h6,h7⟩:=w8 hr ho hi hf hρ;have:=hn v' V' w' h5 h3 h4 h6 h7;unfold Oper.wp;rw [h1];rcases h2 with rfl | ⟨rfl,rfl⟩
  ·exact this
  ·exact this
 have drawn:E.dro (dL tm) o.op h=some r->o.wp P a w next Q:=by
  intro hr;obtain⟨nx,w',V',v',h1,h2,h3,h4,h5,h6,h7⟩:=E.droOk (dL tm) o h r hr ho V hR w a.eval hi hf hρ;have:=hn v' V' w' h5 h3 h4 h6 h7;unfold Oper.wp;rw [h1];rcases h2 with rfl | ⟨rfl,rfl⟩
  ·exact this
  ·exact this
 have fin: ∀(g:FuncId) (args:List AVal) (args':Array Value) (D:mP A),E.det g=some D->D args h=some r->aI V args args'.toList->(execOp a.eval o).run P w=.ok (.enter g args') w->o.wp P a w next Q:=by
  intro g args args' D hD hDr hra hrun;unfold Oper.wp;rw [hrun];refine(E.detOk g D hD args h r hDr ho V hR w args' hi hf hra).mono ?_;rintro e w' ⟨v',V',rfl,h2,h3,h4,h5,h6⟩;exact hn v' V' w' h2 h3 h4 h5 h6
 cases hop:o.op with
 | call c=>
   rw [hop]at hr;simp only [dop]at hr;have hargs:aI V (c.args.toList.map (dL tm)) (c.args.toList.map a.eval):=gE hρ c.args.toList;cases hc:callee E (dL tm) c with
   | none=>
     rw [hc]at hr;exact simple (by rw [hop];exact hr)
   | some x=>
     obtain⟨g,args⟩:=x;rw [hc]at hr;simp only at hr;split at hr
     case isFalse=>cases hr
     rename_i hp;split at hr
     case h_2=>cases hr
     rename_i D hD;unfold callee at hc;split at hc
     ·rename_i f hcal;split at hc
      ·rename_i g' first caps hfv
       simp only [sI',pI']at hc;obtain⟨rfl,rfl⟩:=hc;have rf:=hρ f;rw [hfv]at rf;obtain⟨fs,cs,e1,r1,r2⟩:=rf;refine fin g' _ (fs++c.args.map a.eval++cs) D hD hr ?_ ?_
       ·simp only [Array.toList_append,Array.toList_map];exact aI.append (aI.append r1 hargs) r2
       ·simp only [execOp,hop,resolve,hcal,e1,Deferred.ofValue,Sem.run_bind,Sem.run_pure,Result.andThen_ok,invoke,i8 hp]
      ·cases hc
     ·rename_i recv name hcal;split at hc
      ·rename_i t l off hfv;cases hm:E.meth t name with
       | none=>rw [hm]at hc;cases hc
       | some g'=>
         rw [hm]at hc;simp only [Option.map_some,sI',pI']at hc;obtain⟨rfl,rfl⟩:=hc;have rf:=hρ recv;rw [hfv]at rf;obtain⟨x,e1,b,k,hl,e2⟩:=rf;subst e2;refine fin g' _ (#[.pointer (some ⟨b,off,none⟩)]++c.args.map a.eval) D hD hr ?_ ?_
         ·simp only [Array.toList_append,Array.toList_map];exact⟨_,_,rfl,⟨b,k,hl,rfl⟩,hargs⟩
         ·have hmo:=E.methOk t name g' hm (.pointer (some ⟨b,off,none⟩)) w ⟨_,rfl⟩;simp only [execOp,hop,resolve,hcal,Sem.run_bind,Sem.run_pure,Result.andThen_ok,invoke,e1,aBc,aBd,callMethod,run_program,hmo,i8 hp]
      ·cases hc
     ·cases hc
 | load t x=>
   rw [hop]at hr;simp only [dop]at hr;split at hr
   ·rename_i r1 hr1;exact simple (by rw [hop,hr1];exact hr)
   ·split at hr
    ·rename_i l off hla;split at hr
     ·rename_i v q hv;simp only [sI']at hr;subst hr;have hq:onp q:=ho;have hx:=hρ x;rw [hla]at hx;obtain⟨b,k,hV,hx⟩:=hx;obtain⟨v',g8,g9⟩:=E.fldOk t l off h v q hv hq V hR w b k hi hV;have hrun:(execOp a.eval o).run P w=.ok (.value v') w:=by simp [execOp,hop,hx,g8]
      unfold Oper.wp;rw [hrun];refine hn v' V w g9 V.le_refl (fun l h1 h2=>(h2 h1).elim) ?_ (aKp w)
      simpa [ORes.apply,hupd]using hi
     ·exact drawn (by rw [hop];exact hr)
    ·cases hr
 | store t x y=>
   rw [hop]at hr;simp only [dop]at hr;split at hr
   ·rename_i r1 hr1;exact simple (by rw [hop,hr1];exact hr)
   ·exact drawn (by rw [hop];exact hr)
 | _=>exact simple (by rw [hop]at hr⊢;exact hr)
def lU(ops:List Oper)(D:Nat->Bool):Prop:= ∀(j:Nat) (o:Oper),ops[j]? =some o->D j=true-> ∀e∈o.after.toList,Region.binds .any e=true->D e.on=true
theorem L0{acc:List Nat}{o:Oper}{i:Nat}(h:(mask acc o).testBit i=true): ∃e∈o.after.toList,Region.binds .any e=true/\(i=e.on\/(acc.getD e.on 0).testBit i=true):=by
 unfold mask at h
 have key: ∀(l:List Edge) (s:Nat),(l.foldl (fun s e=>if Region.binds .any e then s|||2^e.on|||acc.getD e.on 0 else s) s).testBit i=true->
  s.testBit i=true\/ ∃e∈l,Region.binds .any e=true/\(i=e.on\/(acc.getD e.on 0).testBit i=true):=by
  intro l
  induction l with
  | nil=>intro s hs;exact .inl hs
  | cons e l ih=>
    intro s hs;simp only [List.foldl_cons]at hs;rcases ih _ hs with h1 | ⟨e',h1,h2,h3⟩
    ·split at h1
     ·rename_i hb;rw [Nat.testBit_or,Nat.testBit_or,Bool.or_eq_true,Bool.or_eq_true]at h1;rcases h1 with(h1 | h1) | h1
      ·exact .inl h1
      ·rw [Nat.testBit_two_pow]at h1;simp only [dT']at h1;exact .inr ⟨e,by simp,hb,.inl h1.symm⟩
      ·exact .inr ⟨e,by simp,hb,.inr h1⟩
     ·exact .inl h1
    ·exact .inr ⟨e',by simp [h1],h2,h3⟩
 rcases key _ _ h with h1 | h1
 ·simp at h1
 ·exact h1
theorem qN{ops:List Oper}{D:Nat->Bool}(hc:lU ops D): ∀(rest:List Oper) (acc:List Nat),(∀k,rest[k]? =ops[acc.length+k]?)->
 (∀j m,acc[j]? =some m->D j=true-> ∀i,m.testBit i=true->D i=true)->
 ∀j m,(masks acc rest)[j]? =some m->D j=true-> ∀i,m.testBit i=true->D i=true:=by
 intro rest
 induction rest with
 | nil=>intro acc _ h;exact h
 | cons o rest ih=>
   intro acc ho h;unfold masks;apply ih
   ·intro k;have:=ho (k+1);simp only [List.getElem?_cons_succ]at this;rw [this];congr 1;simp;omega
   ·intro j m hj hD i hi;rw [List.getElem?_append]at hj;split at hj
    ·exact h j m hj hD i hi
    ·rename_i hlt
     have hj0:j - acc.length=0:=by
      cases hq:j - acc.length with
      | zero=>rfl
      | succ n=>rw [hq]at hj;simp at hj
     rw [hj0]at hj;simp at hj;subst hj;obtain⟨e,he,hb,hor⟩:=L0 hi
     have hjo:ops[j]? =some o:=by
      have:=ho 0;simp at this;rw [show j=acc.length from by omega];exact this.symm
     have hDe:=hc j o hjo hD e he hb;rcases hor with rfl | hor
     ·exact hDe
     ·cases hq:acc[e.on]? with
      | none=>rw [gD',hq]at hor;simp at hor
      | some m=>rw [gD',hq]at hor;exact h e.on m hq hDe i hor
theorem pK{ops:List Oper}{D:Nat->Bool}(hc:lU ops D){k:Nat}{o:Oper}(hk:ops[k]? =some o)(hr: ∀e∈o.after.toList,Region.binds .any e=true->D e.on=true){i:Nat}
 (hi:((masks [] ops).getD k 0).testBit i=true):i=k\/D i=true:=by
 have hc':lU ops (fun j=>decide (j=k)||D j):=by
  intro j o' hj hD e he hb;simp only [Bool.or_eq_true,dT']at hD⊢;right;rcases hD with rfl | hD
  ·rw [hk]at hj;cases hj;exact hr e he hb
  ·exact hc j o' hj hD e he hb
 cases hm:(masks [] ops)[k]? with
 | none=>rw [gD',hm]at hi;simp at hi
 | some m=>
   rw [gD',hm]at hi;have:=qN hc' ops [] (by intro k;simp) (by intro j m h;simp at h) k m hm (by simp) i hi
   simpa using this
theorem J7{ops:List Oper}{D:Nat->Bool}(hc:lU ops D){k:Nat}(hk:D k=true){i:Nat}(hi:((masks [] ops).getD k 0).testBit i=true):D i=true:=by
 cases hm:(masks [] ops)[k]? with
 | none=>rw [gD',hm]at hi;simp at hi
 | some m=>
   rw [gD',hm]at hi;exact qN hc ops [] (by intro k;simp) (by intro j m h;simp at h) k m hm hk i hi
end
end Go.Sh
