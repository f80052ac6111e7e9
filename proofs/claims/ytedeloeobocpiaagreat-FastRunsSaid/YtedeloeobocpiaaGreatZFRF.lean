/- PROVED: Of any shape, operations and number of tries, FastRuns (the given Go law) returns true: operations that are tried fast alone, one behind the other (up to 20), never fail, tell what the meaning tells and leave its items; each node is free, or in just one list, or in the store. -/
import Derived.WalkKit
import Derived.ProofKit
import Derived.OpenShut
import Derived.Test.YtedeloeobocpiaaGreatZSQ2toHE7
set_option linter.all false
set_option maxHeartbeats 8000000
namespace Go.Proofs.YtedeloeobocpiaaGreat.fastRuns
open Go.ChangeShapes Go.WideShapes Go.ChangeAt Go.RowKit Go.Sh
theorem own:ownKnob Tryz.prog.godebug=none:=by kernel_rfl
theorem law(W0:World): ∃I:Itp Ob,∀x:DenA [(false,[.code (some .u8)]),(false,[.rows [.code (some .i64),.code (some .i64)]]),(false,[.code (some .u8)])],W2 _ x→ @aD (aAh W0) Ob I Tryz.prog 5 (rJ _ x) ([]:aC Ob) (fun v _=>v=.bool true):=by
 letI:Con:=aAh W0
 refine⟨obI tbl,?_⟩
 rintro⟨⟨sh,_⟩,⟨xs,_⟩,⟨most,_⟩,_⟩ ⟨⟨w1,_⟩,_,⟨w3,_⟩,_⟩
 exact GK sh (List.length (α:=Int×Int×Unit) xs) (fun i=>(List.getD (α:=Int×Int×Unit) xs i (0,0,())).1) (fun i=>(List.getD (α:=Int×Int×Unit) xs i (0,0,())).2.1) most _ (SB sh _ _ _ most _ (bounds_u8 w1) (bounds_u8 w3) rfl)
set_option maxRecDepth 100000 in
theorem lifted(os:Os)(started:os.Started)(H:Type)(enc:TypeId×Value→H):
 ReturnsInHanded {} Tryz.checked os 5 .any (Rows.fastRunsSpec.pre6 enc Tryz.prog Tryz.f5 Rows.fastRunsRow.domain false) (Rows.fastRunsSpec.post enc Tryz.prog Tryz.f5 false true false false):=by
 refine returnsInHanded_of_change (C:=Tryz.checked) own started (by kernel_rfl) Tryz.func5
  (ChangeSpec.witness6 (enc:=enc) (C:=Tryz.checked) false ⟨#[], #[.int .u8 0,.slice none 0 0,.int .u8 0],[]⟩ 8 (by kernel_rfl) (by kernel_rfl) (by kernel_rfl) (by kernel_rfl)) ?_
 intro W base args ds gs before hval0 hW hcnd _
 refine KN (by kernel_rfl) (by kernel_rfl) (by kernel_rfl) rfl (by kernel_rfl) Tryz.underlying4 ?_ law W base args ds gs before hval0 hW
 intro ds h
 rcases ds with _ | ⟨a,_ | ⟨b,_ | ⟨c,_ | _⟩⟩⟩<;>first | rfl | (simp [Tryz.params5]at h)
theorem andI{a b:Bool}(h:a=true)(k:b=true):(a&&b)=true:=by rw [h,k];rfl
theorem closed:joinedFacts Tryz.pinned.checked.prog 5 Tryz.f5 Rows.fastRunsSpec Rows.fastRunsRow=true:=by
 unfold joinedFacts
 repeat' with_reducible refine andI ?_ ?_
 all_goals (as_aux_lemma=>kernel_rfl)
theorem named:Tryz.pinned.checked.prog.funcNamed Rows.fastRunsRow.func=some 5:=by kernel_rfl
theorem over:Rows.fastRunsRow.holds Tryz.pinned (OpenSpec.ofChange Rows.fastRunsSpec):=
 OpenClaim.holds_of_wide 5 Tryz.f5 rfl rfl rfl rfl rfl rfl rfl ⟨rfl,rfl,rfl,rfl,rfl⟩ rfl rfl rfl rfl rfl named Tryz.func5 closed
  (of_decide_eq_true (by kernel_rfl)) (by unfold Func.isWrapper;first | (rw [if_pos (by decide+kernel)];kernel_rfl) | (rw [if_neg (by decide+kernel)];exact⟨rfl,rfl⟩))
  (fun os started H enc _=>lifted os started H enc)
theorem proved:Rows.FastRunsSaid:=over
#print axioms proved
end Go.Proofs.YtedeloeobocpiaaGreat.fastRuns
