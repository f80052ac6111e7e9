/- PROVED: By which number any two lists differ, and how, is told. No condition. -/
import Derived.WalkKit
import Derived.ProofKit
import Derived.OpenShut
import Derived.Test.YteindpciaceeeaaGreatZQ5toQI
set_option linter.all false
set_option maxHeartbeats 8000000
namespace Go.Proofs.YteindpciaceeeaaGreat.auditDiffs
open Go.ChangeShapes Go.WideShapes Go.ChangeAt Go.RowKit Go.Sh
theorem own:ownKnob Tryz.prog.godebug=none:=by kernel_rfl
theorem law(W0:World): ∃I:Itp Ob,∀x:DenA [(false,[.ints (some .i64)]),(false,[.ints (some .i64)])],okA _ x→ @aB (aFC W0) Ob I Tryz.prog 9 (rE _ x) ([]:aD Ob) (fun v _=>v=.bool true):=by
 letI:Con:=aFC W0
 refine⟨obI tbl,?_⟩;rintro⟨⟨a,_⟩,⟨b,_⟩,_⟩ _;exact aEA (J1 a b _ (aBD a b _ rfl))
set_option maxRecDepth 100000 in
theorem lifted(os:Os)(started:os.Started)(H:Type)(enc:TypeId×Value→H):
 ReturnsInHanded {} Tryz.checked os 9 .any (Rows.auditDiffsSpec.pre6 enc Tryz.prog Tryz.f9 Rows.auditDiffsRow.domain false) (Rows.auditDiffsSpec.post enc Tryz.prog Tryz.f9 false true false false):=by
 refine returnsInHanded_of_change (C:=Tryz.checked) own started (by kernel_rfl) Tryz.func9
  (ChangeSpec.witness6 (enc:=enc) (C:=Tryz.checked) false ⟨#[], #[.slice none 0 0,.slice none 0 0],[]⟩ 8 (by kernel_rfl) (by kernel_rfl) (by kernel_rfl) (by kernel_rfl)) ?_
 intro W base args ds gs before hval0 hW hcnd _;refine L2 (by kernel_rfl) (by kernel_rfl) (by kernel_rfl) rfl (by kernel_rfl) Tryz.underlying4 ?_ law W base args ds gs before hval0 hW
 intro ds h;rcases ds with _ | ⟨a,_ | ⟨b,_ | _⟩⟩<;>first | rfl | (simp [Tryz.params9]at h)
theorem andI{a b:Bool}(h:a=true)(k:b=true):(a&&b)=true:=by rw [h,k];rfl
theorem closed:joinedFacts Tryz.pinned.checked.prog 9 Tryz.f9 Rows.auditDiffsSpec Rows.auditDiffsRow=true:=by
 unfold joinedFacts
 repeat' with_reducible refine andI ?_ ?_
 all_goals (as_aux_lemma=>kernel_rfl)
theorem named:Tryz.pinned.checked.prog.funcNamed Rows.auditDiffsRow.func=some 9:=by kernel_rfl
theorem over:Rows.auditDiffsRow.holds Tryz.pinned (OpenSpec.ofChange Rows.auditDiffsSpec):=
 OpenClaim.holds_of_wide 9 Tryz.f9 rfl rfl rfl rfl rfl rfl rfl ⟨rfl,rfl,rfl,rfl,rfl⟩ rfl rfl rfl rfl rfl named Tryz.func9 closed
  (of_decide_eq_true (by kernel_rfl)) (by unfold Func.isWrapper;first | (rw [if_pos (by decide+kernel)];kernel_rfl) | (rw [if_neg (by decide+kernel)];exact⟨rfl,rfl⟩))
  (fun os started H enc _=>lifted os started H enc)
theorem proved:Rows.AuditDiffsSaid:=over
#print axioms proved
end Go.Proofs.YteindpciaceeeaaGreat.auditDiffs
