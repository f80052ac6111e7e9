/- PROVED: Over any memory, any task, whatever others write between its steps, a machine that tries fast does just what the list says, step by step, and tells that. -/
import Derived.WalkKit
import Derived.ProofKit
import Derived.OpenShut
import Derived.Test.YtedeloeobocpiaaGreatZFF0toFL2
set_option linter.all false
set_option maxHeartbeats 8000000
namespace Go.Proofs.YtedeloeobocpiaaGreat.fastFollows
open Go.ChangeShapes Go.WideShapes Go.ChangeAt Go.RowKit Go.Sh
theorem own:ownKnob Tryz.prog.godebug=none:=by kernel_rfl
theorem IF [Con](xs:List (Int×Int×Unit))(h: ∀x:Int×Int×Unit,List.Mem x xs→oU (some .u64) x.2.1)(i:Nat):0≤(List.getD xs i (0,0,())).2.1∧(List.getD xs i (0,0,())).2.1≤18446744073709551615:=by
 rw [gD']
 rcases Nat.lt_or_ge i xs.length with hi | hi
 ·rw [gE' hi]
  exact mV (h _ (List.getElem_mem hi))
 ·rw [List.getElem?_eq_none hi]
  exact⟨Int.le_refl 0,by decide⟩
theorem law(W0:World): ∃I:Itp Ob,∀x:DenA [(true,[.code (some .u8),.code (some .u8),.ints (some .u64)]),(true,[.code (some .u8),.code (some .u8),.ints (some .u8),.code (some .u8),.code (some .u8),.code (some .u8),.ints (some .u64)]),(false,[.rows [.code (some .i64),.code (some .u64)]])],S9 _ x→ @aC (XU W0) Ob I Tryz.prog 4 (pF _ x) ([]:aB Ob) (fun v _=>v=.bool true):=by
 letI:Con:=XU W0
 refine⟨obI tbl,?_⟩
 rintro⟨⟨t,n,ws,_⟩,⟨me,sp,ns,u,no,lim,tk,_⟩,⟨xs,_⟩,_⟩ ⟨⟨w1,w2,w3,_⟩,⟨w4,w5,w6,w8,w9,w10,w11,_⟩,⟨w7,_⟩,_⟩
 exact F9 t n me sp u no lim ws ns tk (List.length (α:=Int×Int×Unit) xs) (fun i=>(List.getD (α:=Int×Int×Unit) xs i (0,0,())).1) (fun i=>(List.getD (α:=Int×Int×Unit) xs i (0,0,())).2.1) (zU t n me sp u no lim ws ns tk (List.length (α:=Int×Int×Unit) xs) (fun i=>(List.getD (α:=Int×Int×Unit) xs i (0,0,())).1) (fun i=>(List.getD (α:=Int×Int×Unit) xs i (0,0,())).2.1) (bounds_u8 w1) (bounds_u8 w2) (bounds_u8 w4) (bounds_u8 w5) (bounds_u8 w10) ⟨fun x hx=>mV (w3.2 x hx)⟩ ⟨fun x hx=>mV (w11.2 x hx)⟩ (fun x hx=>bounds_u8 (w6.2 x hx)) (IF xs (fun x hx=>(w7.2 x hx).2.1)))
set_option maxRecDepth 100000 in
theorem lifted(os:Os)(started:os.Started)(H:Type)(enc:TypeId×Value→H):
 ReturnsInHanded {} Tryz.checked os 4 .any (Rows.fastFollowsSpec.pre6 enc Tryz.prog Tryz.f4 Rows.fastFollowsRow.domain false) (Rows.fastFollowsSpec.post enc Tryz.prog Tryz.f4 false true false false):=by
 refine returnsInHanded_of_change (C:=Tryz.checked) own started (by kernel_rfl) Tryz.func4
  (ChangeSpec.witness6 (enc:=enc) (C:=Tryz.checked) false ⟨#[], #[.agg #[.int .u8 0,.int .u8 0,.slice none 0 0],.agg #[.int .u8 0,.int .u8 0,.slice none 0 0,.int .u8 0,.int .u8 0,.int .u8 0,.slice none 0 0],.slice none 0 0],[]⟩ 8 (by kernel_rfl) (by kernel_rfl) (by kernel_rfl) (by kernel_rfl)) ?_
 intro W base args ds gs before hval0 hW hcnd _
 refine HO (by kernel_rfl) (by kernel_rfl) (by kernel_rfl) rfl (by kernel_rfl) Tryz.underlying4 ?_ law W base args ds gs before hval0 hW
 intro ds h
 rcases ds with _ | ⟨a,_ | ⟨b,_ | ⟨c,_ | _⟩⟩⟩<;>first | rfl | (simp [Tryz.params4]at h)
theorem andI{a b:Bool}(h:a=true)(k:b=true):(a&&b)=true:=by rw [h,k];rfl
theorem closed:joinedFacts Tryz.pinned.checked.prog 4 Tryz.f4 Rows.fastFollowsSpec Rows.fastFollowsRow=true:=by
 unfold joinedFacts
 repeat' with_reducible refine andI ?_ ?_
 all_goals (as_aux_lemma=>kernel_rfl)
theorem named:Tryz.pinned.checked.prog.funcNamed Rows.fastFollowsRow.func=some 4:=by kernel_rfl
theorem over:Rows.fastFollowsRow.holds Tryz.pinned (OpenSpec.ofChange Rows.fastFollowsSpec):=
 OpenClaim.holds_of_wide 4 Tryz.f4 rfl rfl rfl rfl rfl rfl rfl ⟨rfl,rfl,rfl,rfl,rfl⟩ rfl rfl rfl rfl rfl named Tryz.func4 closed
  (of_decide_eq_true (by kernel_rfl)) (by unfold Func.isWrapper;first | (rw [if_pos (by decide+kernel)];kernel_rfl) | (rw [if_neg (by decide+kernel)];exact⟨rfl,rfl⟩))
  (fun os started H enc _=>lifted os started H enc)
theorem proved:Rows.FastFollowsSaid:=over
#print axioms proved
end Go.Proofs.YtedeloeobocpiaaGreat.fastFollows
