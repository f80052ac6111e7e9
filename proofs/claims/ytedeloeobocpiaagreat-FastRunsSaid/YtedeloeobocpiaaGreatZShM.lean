import Derived.Test.YtedeloeobocpiaaGreatZFR1toOE
set_option linter.all false
set_option maxHeartbeats 8000000
namespace Go.Sh
open Go
variable [Con] {A:Type} {I:Itp A} {P:Program}
def S4(P:Program)(B:(Operand→AVal)→Op→aC A→(AVal→aC A→Prop)→Prop)(ρ:Operand→AVal)(op:Op)(h:aC A)(K:AVal→aC A→Prop):Prop:=
 match op with
 | .call c=>(match c.callee,c.argTypes.toList,c.args.toList with
   | .builtin .len,[t],[x]=>(match P.underlying t,ρ x with
     | some (.map _ _),.map l=>(match aJ h l with
       | some (.imap _ _ m)=>K (.int .i64 (m.length:Int)) h
       | _=>B ρ (.call c) h K)
     | _,_=>B ρ (.call c) h K)
   | _,_,_=>B ρ (.call c) h K)
 | op=>B ρ op h K
def IC(I:Itp A)(P:Program)(B:(Operand→AVal)→Op→aC A→(AVal→aC A→Prop)→Prop):Prop:=
 ∀(ρ:Operand→AVal) (o:Oper) (h:aC A) (K:AVal→aC A→Prop),B ρ o.op h K→ ∀(V:Val) (hR:PHeap) (w:World) (ρ':Operand→Value),Inv I V (toF h) hR w→(∀l,h.length≤l→V l=none)→(∀x,Rep V (ρ x) (ρ' x))→
  ∃nx w' V' v v' h2,K v h2∧(execOp ρ' o).run P w=.ok nx w'∧(nx=.value v'∨nx=.skip ∧v'=undef)∧Rep V' v v'∧V.le V'∧(∀l,h2.length≤l→V' l=none)∧h.length≤h2.length∧Inv I V' (toF h2) hR w'∧bQ w w'
theorem OY{B:(Operand→AVal)→Op→aC A→(AVal→aC A→Prop)→Prop}(hB:IC I P B):IC I P (S4 P B):=by
 intro ρ o h K hk V hR w ρ' hi hf hρ
 have other: ∀ {op},o.op=op→B ρ op h K→_:=fun {op} e hb=>hB ρ o h K (by rw [e];exact hb) V hR w ρ' hi hf hρ
 unfold S4 at hk
 split at hk
 ·rename_i c hop
  split at hk
  ·rename_i t x hc hts hxs
   split at hk
   ·rename_i kt vt l hu hx
    split at hk
    ·rename_i kk vc m hl
     obtain⟨b,k,es,clock,e1,e2,e3⟩:=Inv.imap (w:=w) hi (l:=l) hl
     have hr:=hρ x
     rw [hx]at hr
     obtain⟨b',k',hl',hv⟩:=hr
     rw [e1]at hl';cases hl'
     have hlen:es.size=m.length:=by
      have:=congrArg List.length e3
      simpa using this
     have hrun0: ∀bb,c.callee=.builtin bb→ ∃cs,execOp ρ' o=builtin bb c.argTypes o.type cs (c.args.map ρ'):=by
      intro bb hbb
      have h0:execOp ρ' o=(do let d←resolve ρ' c o.type;invoke d.target d.args):=by simp only [execOp,hop]
      rw [h0]
      unfold resolve
      rw [hbb]
      exact⟨_,rfl⟩
     obtain⟨cs,hrun⟩:=hrun0 _ hc
     have hty:c.argTypes= #[t]:=by apply Array.ext';rw [hts]
     have hag:c.args.map ρ'= #[ρ' x]:=by apply Array.ext';simp [hxs]
     refine⟨.value (Value.int .i64 (m.length:Int)),w,V,AVal.int .i64 (m.length:Int),Value.int .i64 (m.length:Int),h,hk,?_,.inl rfl,rfl,V.le_refl,hf,Nat.le_refl _,hi,bQ.refl w⟩
     rw [hrun,hty,hag,hv]
     show(do let v←Builtin.len_ #[t] o.type #[.map (some b)];Pure.pure (Next.value v)).run P w=_
     simp only [Builtin.len_,underlying,Sem.run_bind,run_program,Result.andThen_ok,hu,Sem.run_pure,MapKept.run_getObj_map e2]
     simp [hu,goInt,hlen,MapKept.run_getObj_map e2]
    ·exact other hop hk
   ·exact other hop hk
  ·exact other hop hk
 ·exact hB ρ o h K hk V hR w ρ' hi hf hρ
end Go.Sh
