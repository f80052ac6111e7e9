/- PROVED: watched alike. -/
import Derived.WalkKit
import Derived.ProofKit
import Derived.OpenShut
import Derived.Test.YteindpciaceeeaaGreatZAR0toAR3
set_option linter.all false
set_option maxHeartbeats 8000000
namespace Go.Proofs.YteindpciaceeeaaGreat.auditRuns
open Go.ChangeShapes Go.WideShapes Go.ChangeAt Go.RowKit Go.Sh
theorem own:ownKnob Tryz.prog.godebug=none:=by kernel_rfl
theorem law(W0:World): ∃I:Itp Ob,∀x:DenA [(true,[.code (some .i64),.code (some .i64),.code (some .i64),.code (some .i64),.rows [.rows [.code (some .i64),.code (some .i64)]]]),(false,[.rows [.code (some .i64),.code (some .i64)]])],okA _ x-> @aA (aMd W0) Ob I Tryz.prog 11 (s8 _ x) ([]:aB Ob) (fun v _=>v=.bool true):=by
 letI:Con:=aMd W0
 refine⟨obI tbl,?_⟩;rintro⟨⟨sh,th,nd,tr,ops,_⟩,⟨ps,_⟩,_⟩ _;exact aCX sh th nd tr (List.length (α:=List (Int×Int×Unit)×Unit) ops) (fun i=>List.length (α:=Int×Int×Unit) (List.getD (α:=List (Int×Int×Unit)×Unit) ops i ([],())).1) (fun i j=>(List.getD (α:=Int×Int×Unit) (List.getD (α:=List (Int×Int×Unit)×Unit) ops i ([],())).1 j (0,0,())).1) (fun i j=>(List.getD (α:=Int×Int×Unit) (List.getD (α:=List (Int×Int×Unit)×Unit) ops i ([],())).1 j (0,0,())).2.1) (List.length (α:=Int×Int×Unit) ps) (fun i=>(List.getD (α:=Int×Int×Unit) ps i (0,0,())).1) (fun i=>(List.getD (α:=Int×Int×Unit) ps i (0,0,())).2.1)
set_option maxRecDepth 100000 in
theorem lifted(os:Os)(started:os.Started)(H:Type)(enc:TypeId×Value->H):
 ReturnsInHanded {} Tryz.checked os 11 .any (Rows.auditRunsSpec.pre6 enc Tryz.prog Tryz.f11 Rows.auditRunsRow.domain false) (Rows.auditRunsSpec.post enc Tryz.prog Tryz.f11 false true false false):=by
 refine returnsInHanded_of_change (C:=Tryz.checked) own started (by kernel_rfl) Tryz.func11
  (ChangeSpec.witness6 (enc:=enc) (C:=Tryz.checked) false ⟨#[], #[.agg #[.int .i64 0,.int .i64 0,.int .i64 0,.int .i64 0,.slice none 0 0],.slice none 0 0],[]⟩ 8 (by kernel_rfl) (by kernel_rfl) (by kernel_rfl) (by kernel_rfl)) ?_
 intro W base args ds gs before g hW aa _;refine S4 (by kernel_rfl) (by kernel_rfl) (by kernel_rfl) rfl (by kernel_rfl) Tryz.underlying4 ?_ law W base args ds gs before g hW
 intro ds h;rcases ds with _ | ⟨a,_ | ⟨b,_ | _⟩⟩<;>first | rfl | (simp [Tryz.params11]at h)
theorem andI{a b:Bool}(h:a=true)(k:b=true):(a&&b)=true:=by rw [h,k];rfl
theorem closed:joinedFacts Tryz.pinned.checked.prog 11 Tryz.f11 Rows.auditRunsSpec Rows.auditRunsRow=true:=by
 unfold joinedFacts
 repeat' with_reducible refine andI ?_ ?_
 all_goals (as_aux_lemma=>kernel_rfl)
theorem named:Tryz.pinned.checked.prog.funcNamed Rows.auditRunsRow.func=some 11:=by kernel_rfl
theorem over:Rows.auditRunsRow.holds Tryz.pinned (OpenSpec.ofChange Rows.auditRunsSpec):=
 OpenClaim.holds_of_wide 11 Tryz.f11 rfl rfl rfl rfl rfl rfl rfl ⟨rfl,rfl,rfl,rfl,rfl⟩ rfl rfl rfl rfl rfl named Tryz.func11 closed
  (of_decide_eq_true (by kernel_rfl)) (by unfold Func.isWrapper;first | (rw [if_pos (by decide+kernel)];kernel_rfl) | (rw [if_neg (by decide+kernel)];exact⟨rfl,rfl⟩))
  (fun os started H enc _=>lifted os started H enc)
theorem proved:Rows.AuditRunsSaid:=over
#print axioms proved
end Go.Proofs.YteindpciaceeeaaGreat.auditRuns
