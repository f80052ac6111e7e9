/- PROVED: An audit that begins in the middle of a run counts the rest: the counts of both parts add up, and its first state is the last one of the other's. -/
import Derived.WalkKit
import Derived.ProofKit
import Derived.OpenShut
import Derived.Test.YteindpciaceeeaaGreatZAA0toAA1
set_option linter.all false
set_option maxHeartbeats 8000000
namespace Go.Proofs.YteindpciaceeeaaGreat.auditAdds
open Go.ChangeShapes Go.WideShapes Go.ChangeAt Go.RowKit Go.Sh
theorem own:ownKnob Tryz.prog.godebug=none:=by kernel_rfl
theorem law(W0:World): ∃I:Itp Ob,∀x:DenA [(true,[.code (some .i64),.code (some .i64),.code (some .i64),.code (some .i64),.rows [.rows [.code (some .i64),.code (some .i64)]]]),(false,[.rows [.code (some .i64),.code (some .i64)]]),(false,[.code (some .u8)])],okA _ x-> @aA (aME W0) Ob I Tryz.prog 12 (tO _ x) ([]:aC Ob) (fun v _=>v=.bool true):=by
 letI:Con:=aME W0
 refine⟨obI tbl,?_⟩;rintro⟨⟨sh,th,nd,tr,ops,_⟩,⟨ps,_⟩,⟨at',_⟩,_⟩ aa;exact aC9 sh th nd tr (List.length (α:=List (Int×Int×Unit)×Unit) ops) (fun i=>List.length (α:=Int×Int×Unit) (List.getD (α:=List (Int×Int×Unit)×Unit) ops i ([],())).1) (fun i j=>(List.getD (α:=Int×Int×Unit) (List.getD (α:=List (Int×Int×Unit)×Unit) ops i ([],())).1 j (0,0,())).1) (fun i j=>(List.getD (α:=Int×Int×Unit) (List.getD (α:=List (Int×Int×Unit)×Unit) ops i ([],())).1 j (0,0,())).2.1) (List.length (α:=Int×Int×Unit) ps) (fun i=>(List.getD (α:=Int×Int×Unit) ps i (0,0,())).1) (fun i=>(List.getD (α:=Int×Int×Unit) ps i (0,0,())).2.1) at' (aI3 aa.2.2.1.1)
set_option maxRecDepth 100000 in
theorem lifted(os:Os)(started:os.Started)(H:Type)(enc:TypeId×Value->H):
 ReturnsInHanded {} Tryz.checked os 12 .any (Rows.auditAddsSpec.pre6 enc Tryz.prog Tryz.f12 Rows.auditAddsRow.domain false) (Rows.auditAddsSpec.post enc Tryz.prog Tryz.f12 false true false false):=by
 refine returnsInHanded_of_change (C:=Tryz.checked) own started (by kernel_rfl) Tryz.func12
  (ChangeSpec.witness6 (enc:=enc) (C:=Tryz.checked) false ⟨#[], #[.agg #[.int .i64 0,.int .i64 0,.int .i64 0,.int .i64 0,.slice none 0 0],.slice none 0 0,.int .u8 0],[]⟩ 8 (by kernel_rfl) (by kernel_rfl) (by kernel_rfl) (by kernel_rfl)) ?_
 intro W base args ds gs before aa hW ac _;refine TL (by kernel_rfl) (by kernel_rfl) (by kernel_rfl) rfl (by kernel_rfl) Tryz.underlying4 ?_ law W base args ds gs before aa hW
 intro ds h;rcases ds with _ | ⟨a,_ | ⟨b,_ | ⟨c,_ | _⟩⟩⟩<;>first | rfl | (simp [Tryz.params12]at h)
theorem andI{a b:Bool}(h:a=true)(k:b=true):(a&&b)=true:=by rw [h,k];rfl
theorem closed:joinedFacts Tryz.pinned.checked.prog 12 Tryz.f12 Rows.auditAddsSpec Rows.auditAddsRow=true:=by
 unfold joinedFacts
 repeat' with_reducible refine andI ?_ ?_
 all_goals (as_aux_lemma=>kernel_rfl)
theorem named:Tryz.pinned.checked.prog.funcNamed Rows.auditAddsRow.func=some 12:=by kernel_rfl
theorem over:Rows.auditAddsRow.holds Tryz.pinned (OpenSpec.ofChange Rows.auditAddsSpec):=
 OpenClaim.holds_of_wide 12 Tryz.f12 rfl rfl rfl rfl rfl rfl rfl ⟨rfl,rfl,rfl,rfl,rfl⟩ rfl rfl rfl rfl rfl named Tryz.func12 closed
  (of_decide_eq_true (by kernel_rfl)) (by unfold Func.isWrapper;first | (rw [if_pos (by decide+kernel)];kernel_rfl) | (rw [if_neg (by decide+kernel)];exact⟨rfl,rfl⟩))
  (fun os started H enc _=>lifted os started H enc)
theorem proved:Rows.AuditAddsSaid:=over
#print axioms proved
end Go.Proofs.YteindpciaceeeaaGreat.auditAdds
