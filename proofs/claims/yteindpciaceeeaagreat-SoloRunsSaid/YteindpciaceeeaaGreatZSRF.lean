/- PROVED: SoloRuns holds. -/
import Derived.WalkKit
import Derived.ProofKit
import Derived.OpenShut
import Derived.Test.YteindpciaceeeaaGreatZSDtoSK
set_option linter.all false
set_option maxHeartbeats 8000000
namespace Go.Proofs.YteindpciaceeeaaGreat.soloRuns
open Go.ChangeShapes Go.WideShapes Go.ChangeAt Go.RowKit Go.Sh
theorem own:ownKnob Tryz.prog.godebug=none:=by kernel_rfl
theorem law(W0:World): ∃I:Itp Ob,∀x:DenA [(true,[.code (some .i64),.code (some .i64),.code (some .i64),.code (some .i64)]),(false,[.rows [.code (some .i64),.code (some .i64),.code (some .i64)]])],okA _ x→ @aB (aJm W0) Ob I Tryz.prog 8 (rL _ x) ([]:aC Ob) (fun v _=>v=.bool true):=by
 letI:Con:=aJm W0
 refine⟨obI tbl,?_⟩;rintro⟨⟨sh,th,nd,tr,_⟩,⟨xs,_⟩,_⟩ _;exact aCE sh th nd tr (List.length (α:=Int×Int×Int×Unit) xs) (fun i=>(List.getD (α:=Int×Int×Int×Unit) xs i (0,0,0,())).1) (fun i=>(List.getD (α:=Int×Int×Int×Unit) xs i (0,0,0,())).2.1) (fun i=>(List.getD (α:=Int×Int×Int×Unit) xs i (0,0,0,())).2.2.1)
set_option maxRecDepth 100000 in
theorem lifted(os:Os)(started:os.Started)(H:Type)(enc:TypeId×Value→H):
 ReturnsInHanded {} Tryz.checked os 8 .any (Rows.soloRunsSpec.pre6 enc Tryz.prog Tryz.f8 Rows.soloRunsRow.domain false) (Rows.soloRunsSpec.post enc Tryz.prog Tryz.f8 false true false false):=by
 refine returnsInHanded_of_change (C:=Tryz.checked) own started (by kernel_rfl) Tryz.func8
  (ChangeSpec.witness6 (enc:=enc) (C:=Tryz.checked) false ⟨#[], #[.agg #[.int .i64 0,.int .i64 0,.int .i64 0,.int .i64 0],.slice none 0 0],[]⟩ 8 (by kernel_rfl) (by kernel_rfl) (by kernel_rfl) (by kernel_rfl)) ?_
 intro W base args ds gs before hval0 hW hcnd _;refine PO (by kernel_rfl) (by kernel_rfl) (by kernel_rfl) rfl (by kernel_rfl) Tryz.underlying4 ?_ law W base args ds gs before hval0 hW
 intro ds h;rcases ds with _ | ⟨a,_ | ⟨b,_ | _⟩⟩<;>first | rfl | (simp [Tryz.params8]at h)
theorem andI{a b:Bool}(h:a=true)(k:b=true):(a&&b)=true:=by rw [h,k];rfl
theorem closed:joinedFacts Tryz.pinned.checked.prog 8 Tryz.f8 Rows.soloRunsSpec Rows.soloRunsRow=true:=by
 unfold joinedFacts
 repeat' with_reducible refine andI ?_ ?_
 all_goals (as_aux_lemma=>kernel_rfl)
theorem named:Tryz.pinned.checked.prog.funcNamed Rows.soloRunsRow.func=some 8:=by kernel_rfl
theorem over:Rows.soloRunsRow.holds Tryz.pinned (OpenSpec.ofChange Rows.soloRunsSpec):=
 OpenClaim.holds_of_wide 8 Tryz.f8 rfl rfl rfl rfl rfl rfl rfl ⟨rfl,rfl,rfl,rfl,rfl⟩ rfl rfl rfl rfl rfl named Tryz.func8 closed
  (of_decide_eq_true (by kernel_rfl)) (by unfold Func.isWrapper;first | (rw [if_pos (by decide+kernel)];kernel_rfl) | (rw [if_neg (by decide+kernel)];exact⟨rfl,rfl⟩))
  (fun os started H enc _=>lifted os started H enc)
theorem proved:Rows.SoloRunsSaid:=over
#print axioms proved
end Go.Proofs.YteindpciaceeeaaGreat.soloRuns
