/- PROVED: A thread run in two parts, with its memory and its answers joined, answers as the thread run in one part. -/
import Derived.WalkKit
import Derived.ProofKit
import Derived.OpenShut
import Derived.Test.YtedeloeobocpiaaGreatZSQBtoTP6
set_option linter.all false
set_option maxHeartbeats 8000000
namespace Go.Proofs.YtedeloeobocpiaaGreat.threadParts
open Go.ChangeShapes Go.WideShapes Go.ChangeAt Go.RowKit Go.Sh
theorem own:ownKnob Tryz.prog.godebug=none:=by kernel_rfl
theorem law(W0:World): ∃I:Itp Ob,∀x:DenA [(false,[.code (some .u8)]),(false,[.rows [.code (some .i64),.code (some .i64)]]),(false,[.code (some .u8)])],okA _ x→ @aC (aDX W0) Ob I Tryz.prog 11 (sG _ x) ([]:aD Ob) (fun v _=>v=.bool true):=by
 letI:Con:=aDX W0
 refine⟨obI tbl,?_⟩
 rintro⟨⟨sh,_⟩,⟨xs,_⟩,⟨at',_⟩,_⟩ ⟨⟨w1,_⟩,_,⟨w3,_⟩,_⟩
 exact LP sh (List.length (α:=Int×Int×Unit) xs) (fun i=>(List.getD (α:=Int×Int×Unit) xs i (0,0,())).1) (fun i=>(List.getD (α:=Int×Int×Unit) xs i (0,0,())).2.1) at' _ _ _ (aAG sh _ _ _ at' _ (bounds_u8 w1) (bounds_u8 w3) rfl)
set_option maxRecDepth 100000 in
theorem lifted(os:Os)(started:os.Started)(H:Type)(enc:TypeId×Value→H):
 ReturnsInHanded {} Tryz.checked os 11 .any (Rows.threadPartsSpec.pre6 enc Tryz.prog Tryz.f11 Rows.threadPartsRow.domain false) (Rows.threadPartsSpec.post enc Tryz.prog Tryz.f11 false true false false):=by
 refine returnsInHanded_of_change (C:=Tryz.checked) own started (by kernel_rfl) Tryz.func11
  (ChangeSpec.witness6 (enc:=enc) (C:=Tryz.checked) false ⟨#[], #[.int .u8 0,.slice none 0 0,.int .u8 0],[]⟩ 8 (by kernel_rfl) (by kernel_rfl) (by kernel_rfl) (by kernel_rfl)) ?_
 intro W base args ds gs before hval0 hW hcnd _
 refine OM (by kernel_rfl) (by kernel_rfl) (by kernel_rfl) rfl (by kernel_rfl) Tryz.underlying4 ?_ law W base args ds gs before hval0 hW
 intro ds h
 rcases ds with _ | ⟨a,_ | ⟨b,_ | ⟨c,_ | _⟩⟩⟩<;>first | rfl | (simp [Tryz.params11]at h)
theorem andI{a b:Bool}(h:a=true)(k:b=true):(a&&b)=true:=by rw [h,k];rfl
theorem closed:joinedFacts Tryz.pinned.checked.prog 11 Tryz.f11 Rows.threadPartsSpec Rows.threadPartsRow=true:=by
 unfold joinedFacts
 repeat' with_reducible refine andI ?_ ?_
 all_goals (as_aux_lemma=>kernel_rfl)
theorem named:Tryz.pinned.checked.prog.funcNamed Rows.threadPartsRow.func=some 11:=by kernel_rfl
theorem over:Rows.threadPartsRow.holds Tryz.pinned (OpenSpec.ofChange Rows.threadPartsSpec):=
 OpenClaim.holds_of_wide 11 Tryz.f11 rfl rfl rfl rfl rfl rfl rfl ⟨rfl,rfl,rfl,rfl,rfl⟩ rfl rfl rfl rfl rfl named Tryz.func11 closed
  (of_decide_eq_true (by kernel_rfl)) (by unfold Func.isWrapper;first | (rw [if_pos (by decide+kernel)];kernel_rfl) | (rw [if_neg (by decide+kernel)];exact⟨rfl,rfl⟩))
  (fun os started H enc _=>lifted os started H enc)
theorem proved:Rows.ThreadPartsSaid:=over
#print axioms proved
end Go.Proofs.YtedeloeobocpiaaGreat.threadParts
