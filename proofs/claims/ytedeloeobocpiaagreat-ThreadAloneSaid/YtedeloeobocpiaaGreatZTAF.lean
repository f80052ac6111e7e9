/- PROVED: Of any shape, operations and choice of threads, ThreadAlone (the given Go law) returns true: up to 20 operations that three threads do one by one tell what the meaning tells, none is slow, and behind each the items are the meaning's, no slot is in use, nobody is pending, and each node is free, or in just one list or store. -/
import Derived.WalkKit
import Derived.ProofKit
import Derived.OpenShut
import Derived.Test.YtedeloeobocpiaaGreatZTA2
set_option linter.all false
set_option maxHeartbeats 8000000
namespace Go.Proofs.YtedeloeobocpiaaGreat.threadAlone
open Go.ChangeShapes Go.WideShapes Go.ChangeAt Go.RowKit Go.Sh
theorem own:ownKnob Tryz.prog.godebug=none:=by kernel_rfl
theorem law(W0:World): ∃I:Itp Ob,∀x:DenA [(false,[.code (some .u8)]),(false,[.rows [.code (some .i64),.code (some .i64)]]),(false,[.ints (some .u8)])],okA _ x→ @aC (aGF W0) Ob I Tryz.prog 12 (tX _ x) ([]:aD Ob) (fun v _=>v=.bool true):=by
 letI:Con:=aGF W0
 refine⟨obI tbl,?_⟩
 rintro⟨⟨sh,_⟩,⟨xs,_⟩,⟨ws,_⟩,_⟩ ⟨⟨w1,_⟩,_,⟨⟨_,w3⟩,_⟩,_⟩
 exact OS sh (List.length (α:=Int×Int×Unit) xs) (fun i=>(List.getD (α:=Int×Int×Unit) xs i (0,0,())).1) (fun i=>(List.getD (α:=Int×Int×Unit) xs i (0,0,())).2.1) ws _ _ (aCT sh _ _ _ ws _ (bounds_u8 w1) (fun x hx=>bounds_u8 (w3 x hx)) rfl)
set_option maxRecDepth 100000 in
theorem lifted(os:Os)(started:os.Started)(H:Type)(enc:TypeId×Value→H):
 ReturnsInHanded {} Tryz.checked os 12 .any (Rows.threadAloneSpec.pre6 enc Tryz.prog Tryz.f12 Rows.threadAloneRow.domain false) (Rows.threadAloneSpec.post enc Tryz.prog Tryz.f12 false true false false):=by
 refine returnsInHanded_of_change (C:=Tryz.checked) own started (by kernel_rfl) Tryz.func12
  (ChangeSpec.witness6 (enc:=enc) (C:=Tryz.checked) false ⟨#[], #[.int .u8 0,.slice none 0 0,.slice none 0 0],[]⟩ 8 (by kernel_rfl) (by kernel_rfl) (by kernel_rfl) (by kernel_rfl)) ?_
 intro W base args ds gs before hval0 hW hcnd _
 refine RL (by kernel_rfl) (by kernel_rfl) (by kernel_rfl) rfl (by kernel_rfl) Tryz.underlying4 ?_ law W base args ds gs before hval0 hW
 intro ds h
 rcases ds with _ | ⟨a,_ | ⟨b,_ | ⟨c,_ | _⟩⟩⟩<;>first | rfl | (simp [Tryz.params12]at h)
theorem andI{a b:Bool}(h:a=true)(k:b=true):(a&&b)=true:=by rw [h,k];rfl
theorem closed:joinedFacts Tryz.pinned.checked.prog 12 Tryz.f12 Rows.threadAloneSpec Rows.threadAloneRow=true:=by
 unfold joinedFacts
 repeat' with_reducible refine andI ?_ ?_
 all_goals (as_aux_lemma=>kernel_rfl)
theorem named:Tryz.pinned.checked.prog.funcNamed Rows.threadAloneRow.func=some 12:=by kernel_rfl
theorem over:Rows.threadAloneRow.holds Tryz.pinned (OpenSpec.ofChange Rows.threadAloneSpec):=
 OpenClaim.holds_of_wide 12 Tryz.f12 rfl rfl rfl rfl rfl rfl rfl ⟨rfl,rfl,rfl,rfl,rfl⟩ rfl rfl rfl rfl rfl named Tryz.func12 closed
  (of_decide_eq_true (by kernel_rfl)) (by unfold Func.isWrapper;first | (rw [if_pos (by decide+kernel)];kernel_rfl) | (rw [if_neg (by decide+kernel)];exact⟨rfl,rfl⟩))
  (fun os started H enc _=>lifted os started H enc)
theorem proved:Rows.ThreadAloneSaid:=over
#print axioms proved
end Go.Proofs.YtedeloeobocpiaaGreat.threadAlone
