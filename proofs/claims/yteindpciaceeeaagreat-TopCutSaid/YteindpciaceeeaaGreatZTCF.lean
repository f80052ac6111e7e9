/- PROVED: The run of a script's beginning is the beginning of the script's run, and what is left then leads to the same end. No condition. -/
import Derived.WalkKit
import Derived.ProofKit
import Derived.OpenShut
import Derived.Test.YteindpciaceeeaaGreatZQ5toTC1
set_option linter.all false
set_option maxHeartbeats 8000000
namespace Go.Proofs.YteindpciaceeeaaGreat.topCut
open Go.ChangeShapes Go.WideShapes Go.ChangeAt Go.RowKit Go.Sh
theorem own:ownKnob Tryz.prog.godebug=none:=by kernel_rfl
theorem law(W0:World): ∃I:Itp Ob,∀x:DenA [(true,[.code (some .i64),.code (some .i64),.code (some .i64),.code (some .i64),.rows [.rows [.code (some .i64),.code (some .i64)]]]),(false,[.rows [.code (some .i64),.code (some .i64)]]),(false,[.code (some .u8)])],okA _ x→ @aB (aIu W0) Ob I Tryz.prog 14 (sA _ x) ([]:aC Ob) (fun v _=>v=.bool true):=by
 letI:Con:=aIu W0
 refine⟨obI tbl,?_⟩;rintro⟨⟨sh,th,nd,tr,ops,_⟩,⟨ps,_⟩,⟨at',_⟩,_⟩ hok;exact aHp (RA sh th nd tr (List.length (α:=List (Int×Int×Unit)×Unit) ops) (fun i=>iT [.rows [.code (some .i64),.code (some .i64)]] (List.getD (α:=List (Int×Int×Unit)×Unit) ops i ([],()))) (List.length (α:=Int×Int×Unit) ps) (fun i=>(List.getD (α:=Int×Int×Unit) ps i (0,0,())).1) (fun i=>(List.getD (α:=Int×Int×Unit) ps i (0,0,())).2.1) at' _ _ _ _ _ _ (aFr sh th nd tr _ _ _ _ _ at' _ _ ⟨rfl⟩ (aFw hok.2.2.1.1) rfl rfl))
set_option maxRecDepth 100000 in
theorem lifted(os:Os)(started:os.Started)(H:Type)(enc:TypeId×Value→H):
 ReturnsInHanded {} Tryz.checked os 14 .any (Rows.topCutSpec.pre6 enc Tryz.prog Tryz.f14 Rows.topCutRow.domain false) (Rows.topCutSpec.post enc Tryz.prog Tryz.f14 false true false false):=by
 refine returnsInHanded_of_change (C:=Tryz.checked) own started (by kernel_rfl) Tryz.func14
  (ChangeSpec.witness6 (enc:=enc) (C:=Tryz.checked) false ⟨#[], #[.agg #[.int .i64 0,.int .i64 0,.int .i64 0,.int .i64 0,.slice none 0 0],.slice none 0 0,.int .u8 0],[]⟩ 8 (by kernel_rfl) (by kernel_rfl) (by kernel_rfl) (by kernel_rfl)) ?_
 intro W base args ds gs before hval0 hW hcnd _;refine O8 (by kernel_rfl) (by kernel_rfl) (by kernel_rfl) rfl (by kernel_rfl) Tryz.underlying4 ?_ law W base args ds gs before hval0 hW
 intro ds h;rcases ds with _ | ⟨a,_ | ⟨b,_ | ⟨c,_ | _⟩⟩⟩<;>first | rfl | (simp [Tryz.params14]at h)
theorem andI{a b:Bool}(h:a=true)(k:b=true):(a&&b)=true:=by rw [h,k];rfl
theorem closed:joinedFacts Tryz.pinned.checked.prog 14 Tryz.f14 Rows.topCutSpec Rows.topCutRow=true:=by
 unfold joinedFacts
 repeat' with_reducible refine andI ?_ ?_
 all_goals (as_aux_lemma=>kernel_rfl)
theorem named:Tryz.pinned.checked.prog.funcNamed Rows.topCutRow.func=some 14:=by kernel_rfl
theorem over:Rows.topCutRow.holds Tryz.pinned (OpenSpec.ofChange Rows.topCutSpec):=
 OpenClaim.holds_of_wide 14 Tryz.f14 rfl rfl rfl rfl rfl rfl rfl ⟨rfl,rfl,rfl,rfl,rfl⟩ rfl rfl rfl rfl rfl named Tryz.func14 closed
  (of_decide_eq_true (by kernel_rfl)) (by unfold Func.isWrapper;first | (rw [if_pos (by decide+kernel)];kernel_rfl) | (rw [if_neg (by decide+kernel)];exact⟨rfl,rfl⟩))
  (fun os started H enc _=>lifted os started H enc)
theorem proved:Rows.TopCutSaid:=over
#print axioms proved
end Go.Proofs.YteindpciaceeeaaGreat.topCut
