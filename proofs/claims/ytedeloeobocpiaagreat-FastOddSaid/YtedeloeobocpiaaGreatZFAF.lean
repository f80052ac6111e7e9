/- PROVED: Of any task and any number of tries, FastOdd (the given Go law) returns true: a task that is not right, or that links where there is no spare node, fails in one step, and nothing changes. -/
import Derived.WalkKit
import Derived.ProofKit
import Derived.OpenShut
import Derived.Test.YtedeloeobocpiaaGreatZFR1toFA4
set_option linter.all false
set_option maxHeartbeats 8000000
namespace Go.Proofs.YtedeloeobocpiaaGreat.fastOdd
open Go.ChangeShapes Go.WideShapes Go.ChangeAt Go.RowKit Go.Sh
theorem own:ownKnob Tryz.prog.godebug=none:=by kernel_rfl
theorem law(W0:World): ∃I:Itp Ob,∀x:DenA [(true,[.code (some .i64),.code (some .i64),.code (some .i64)]),(false,[.code (some .i64)])],IA _ x→ @aC (LP W0) Ob I Tryz.prog 3 (mP _ x) ([]:aA Ob) (fun v _=>v=.bool true):=by
 letI:Con:=LP W0
 refine⟨obI tbl,?_⟩
 rintro⟨⟨sh,kd,ky,_⟩,⟨most,_⟩,_⟩ _
 exact yD sh kd ky most _ (FX sh kd ky most _ rfl)
set_option maxRecDepth 100000 in
theorem lifted(os:Os)(started:os.Started)(H:Type)(enc:TypeId×Value→H):
 ReturnsInHanded {} Tryz.checked os 3 .any (Rows.fastOddSpec.pre6 enc Tryz.prog Tryz.f3 Rows.fastOddRow.domain false) (Rows.fastOddSpec.post enc Tryz.prog Tryz.f3 false true false false):=by
 refine returnsInHanded_of_change (C:=Tryz.checked) own started (by kernel_rfl) Tryz.func3
  (ChangeSpec.witness6 (enc:=enc) (C:=Tryz.checked) false ⟨#[], #[.agg #[.int .i64 0,.int .i64 0,.int .i64 0],.int .i64 0],[]⟩ 8 (by kernel_rfl) (by kernel_rfl) (by kernel_rfl) (by kernel_rfl)) ?_
 intro W base args ds gs before hval0 hW hcnd _
 refine AF (by kernel_rfl) (by kernel_rfl) (by kernel_rfl) rfl (by kernel_rfl) Tryz.underlying4 ?_ law W base args ds gs before hval0 hW
 intro ds h
 rcases ds with _ | ⟨a,_ | ⟨b,_ | _⟩⟩<;>first | rfl | (simp [Tryz.params3]at h)
theorem andI{a b:Bool}(h:a=true)(k:b=true):(a&&b)=true:=by rw [h,k];rfl
theorem closed:joinedFacts Tryz.pinned.checked.prog 3 Tryz.f3 Rows.fastOddSpec Rows.fastOddRow=true:=by
 unfold joinedFacts
 repeat' with_reducible refine andI ?_ ?_
 all_goals (as_aux_lemma=>kernel_rfl)
theorem named:Tryz.pinned.checked.prog.funcNamed Rows.fastOddRow.func=some 3:=by kernel_rfl
theorem over:Rows.fastOddRow.holds Tryz.pinned (OpenSpec.ofChange Rows.fastOddSpec):=
 OpenClaim.holds_of_wide 3 Tryz.f3 rfl rfl rfl rfl rfl rfl rfl ⟨rfl,rfl,rfl,rfl,rfl⟩ rfl rfl rfl rfl rfl named Tryz.func3 closed
  (of_decide_eq_true (by kernel_rfl)) (by unfold Func.isWrapper;first | (rw [if_pos (by decide+kernel)];kernel_rfl) | (rw [if_neg (by decide+kernel)];exact⟨rfl,rfl⟩))
  (fun os started H enc _=>lifted os started H enc)
theorem proved:Rows.FastOddSaid:=over
#print axioms proved
end Go.Proofs.YtedeloeobocpiaaGreat.fastOdd
