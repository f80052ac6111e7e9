/- PROVED: Of any job: an audit counts what is to be seen. -/
import Derived.WalkKit
import Derived.ProofKit
import Derived.OpenShut
import Derived.Test.YteindpciaceeeaaGreatZQDtoACL3
set_option linter.all false
set_option maxHeartbeats 8000000
namespace Go.Proofs.YteindpciaceeeaaGreat.auditCounts
open Go.ChangeShapes Go.WideShapes Go.ChangeAt Go.RowKit Go.Sh
theorem own:ownKnob Tryz.prog.godebug=none:=by kernel_rfl
theorem law(W0:World): ∃I:Itp Ob,∀x:DenA [(true,[.code (some .i64),.code (some .i64),.code (some .i64),.code (some .i64),.rows [.rows [.code (some .i64),.code (some .i64)]]]),(false,[.rows [.code (some .i64),.code (some .i64)]])],okA _ x-> @aA (aK5 W0) Ob I Tryz.prog 10 (sE _ x) ([]:aC Ob) (fun v _=>v=.bool true):=by
 letI:Con:=aK5 W0
 refine⟨obI tbl,?_⟩;rintro⟨⟨sh,th,nd,tr,ops,_⟩,⟨ps,_⟩,_⟩ _;exact aJ1 (OB sh th nd tr (List.length (α:=List (Int×Int×Unit)×Unit) ops) (fun i=>List.length (α:=Int×Int×Unit) (List.getD (α:=List (Int×Int×Unit)×Unit) ops i ([],())).1) (fun i j=>(List.getD (α:=Int×Int×Unit) (List.getD (α:=List (Int×Int×Unit)×Unit) ops i ([],())).1 j (0,0,())).1) (fun i j=>(List.getD (α:=Int×Int×Unit) (List.getD (α:=List (Int×Int×Unit)×Unit) ops i ([],())).1 j (0,0,())).2.1) (List.length (α:=Int×Int×Unit) ps) (fun i=>(List.getD (α:=Int×Int×Unit) ps i (0,0,())).1) (fun i=>(List.getD (α:=Int×Int×Unit) ps i (0,0,())).2.1) _ (aFE sh th nd tr _ _ _ _ _ _ _ _ rfl))
set_option maxRecDepth 100000 in
theorem lifted(os:Os)(started:os.Started)(H:Type)(enc:TypeId×Value->H):
 ReturnsInHanded {} Tryz.checked os 10 .any (Rows.auditCountsSpec.pre6 enc Tryz.prog Tryz.f10 Rows.auditCountsRow.domain false) (Rows.auditCountsSpec.post enc Tryz.prog Tryz.f10 false true false false):=by
 refine returnsInHanded_of_change (C:=Tryz.checked) own started (by kernel_rfl) Tryz.func10
  (ChangeSpec.witness6 (enc:=enc) (C:=Tryz.checked) false ⟨#[], #[.agg #[.int .i64 0,.int .i64 0,.int .i64 0,.int .i64 0,.slice none 0 0],.slice none 0 0],[]⟩ 8 (by kernel_rfl) (by kernel_rfl) (by kernel_rfl) (by kernel_rfl)) ?_
 intro W base args ds gs before hval0 hW hcnd _;refine Q0 (by kernel_rfl) (by kernel_rfl) (by kernel_rfl) rfl (by kernel_rfl) Tryz.underlying4 ?_ law W base args ds gs before hval0 hW
 intro ds h;rcases ds with _ | ⟨a,_ | ⟨b,_ | _⟩⟩<;>first | rfl | (simp [Tryz.params10]at h)
theorem andI{a b:Bool}(h:a=true)(k:b=true):(a&&b)=true:=by rw [h,k];rfl
theorem closed:joinedFacts Tryz.pinned.checked.prog 10 Tryz.f10 Rows.auditCountsSpec Rows.auditCountsRow=true:=by
 unfold joinedFacts
 repeat' with_reducible refine andI ?_ ?_
 all_goals (as_aux_lemma=>kernel_rfl)
theorem named:Tryz.pinned.checked.prog.funcNamed Rows.auditCountsRow.func=some 10:=by kernel_rfl
theorem over:Rows.auditCountsRow.holds Tryz.pinned (OpenSpec.ofChange Rows.auditCountsSpec):=
 OpenClaim.holds_of_wide 10 Tryz.f10 rfl rfl rfl rfl rfl rfl rfl ⟨rfl,rfl,rfl,rfl,rfl⟩ rfl rfl rfl rfl rfl named Tryz.func10 closed
  (of_decide_eq_true (by kernel_rfl)) (by unfold Func.isWrapper;first | (rw [if_pos (by decide+kernel)];kernel_rfl) | (rw [if_neg (by decide+kernel)];exact⟨rfl,rfl⟩))
  (fun os started H enc _=>lifted os started H enc)
theorem proved:Rows.AuditCountsSaid:=over
#print axioms proved
end Go.Proofs.YteindpciaceeeaaGreat.auditCounts
