/-
  No cell of these rows narrows 'for every input' (looked for: loops, veiled, ifaces, maps, wideKeys, modest, calm, conditions, laid).
  DERIVED. THE GIVEN ROWS OF THIS SEAT. 3 by the template 'for every input the law returns true; each argument reads behind the call as it read before'; 0 by the template 'total and deterministic' (their statements: YtkhliiajfiabnaaGreatTotals.lean).
  GIVEN WITH THE SEED: the statements are not yours to turn. If you find one false, say at which input.
  Laid BY PROGRAM, IN A SANDBOX (cutbox-rows.mjs): the forced cells as the released guide's own fill.sh prints them over the translation 942f1d92a4918cc6… (all of the seat's roots in one cut). By AI agents, Wed Nov 11 2026. No macro, syntax, notation, axiom, sorry.
-/
import Derived.Test.YtkhliiajfiabnaaGreatChecked
import GoSem.Claim
import GoSem.ClaimJoined
import GoSem.ClaimMapViews
import Derived.JoinedTies
import Derived.KernelRfl
namespace Go.Proofs.YtkhliiajfiabnaaGreat
/- THE CELL 'sum', in the pinned program and in every row, IS THE sha256 OF THE DUMP (.gsa) THAT YtkhliiajfiabnaaGreatProg.lean LOADS. Nothing in Lean hashes anything: it is a label: what it is worth is what the hold of that sum in a sandbox is worth. -/
noncomputable def Tryz.pinned : Pinned := { name := "ytkhliiajfiabnaagreat", sum := "942f1d92a4918cc661323fee91a4dd02da3cfb02c4eaf958219e985b1051ba9f", checked := Tryz.checked }
namespace Rows
def none {H : Type} : Left H := { results := [], args := [] }

/-- 'sherpalaw17.HelpOver': WHATEVER THE INPUT: true; the input reads as it did. -/
def helpOverSpec : ChangeSpec := { name := "helpOver", fn := fun _ => fun
  | [d1, d2, d3] => { results := [.lit (.bool true)], args := [d1, d2, d3] }
  | _ => none }
def helpOverRow : OpenClaim := { program := "ytkhliiajfiabnaagreat", sum := "942f1d92a4918cc661323fee91a4dd02da3cfb02c4eaf958219e985b1051ba9f", func := "sherpa/sherpalaw17.HelpOver", spec := "helpOver", unfollowed := true, recurses := true, apart := false }
def HelpOverSaid : Prop := helpOverRow.holds Tryz.pinned (OpenSpec.ofChange helpOverSpec)

/-- ITS FALSE NEIGHBOUR: 'it returns false'. Refute it at one input. -/
def helpOverWrong : ChangeSpec := { name := "helpOver", fn := fun _ => fun
  | [d1, d2, d3] => { results := [.lit (.bool false)], args := [d1, d2, d3] }
  | _ => none }
def HelpOverWrongFalsely : Prop := helpOverRow.holds Tryz.pinned (OpenSpec.ofChange helpOverWrong)

/-- 'sherpalaw18.FastFollows': WHATEVER THE INPUT: true; the input reads as it did. -/
def fastFollowsSpec : ChangeSpec := { name := "fastFollows", fn := fun _ => fun
  | [d1, d2, d3] => { results := [.lit (.bool true)], args := [d1, d2, d3] }
  | _ => none }
def fastFollowsRow : OpenClaim := { program := "ytkhliiajfiabnaagreat", sum := "942f1d92a4918cc661323fee91a4dd02da3cfb02c4eaf958219e985b1051ba9f", func := "sherpa/sherpalaw18.FastFollows", spec := "fastFollows", unfollowed := true, recurses := true, apart := false }
def FastFollowsSaid : Prop := fastFollowsRow.holds Tryz.pinned (OpenSpec.ofChange fastFollowsSpec)

/-- ITS FALSE NEIGHBOUR: 'it returns false'. Refute it at one input. -/
def fastFollowsWrong : ChangeSpec := { name := "fastFollows", fn := fun _ => fun
  | [d1, d2, d3] => { results := [.lit (.bool false)], args := [d1, d2, d3] }
  | _ => none }
def FastFollowsWrongFalsely : Prop := fastFollowsRow.holds Tryz.pinned (OpenSpec.ofChange fastFollowsWrong)

/-- 'sherpalaw18.FastOdd': WHATEVER THE INPUT: true; the input reads as it did. -/
def fastOddSpec : ChangeSpec := { name := "fastOdd", fn := fun _ => fun
  | [d1, d2] => { results := [.lit (.bool true)], args := [d1, d2] }
  | _ => none }
def fastOddRow : OpenClaim := { program := "ytkhliiajfiabnaagreat", sum := "942f1d92a4918cc661323fee91a4dd02da3cfb02c4eaf958219e985b1051ba9f", func := "sherpa/sherpalaw18.FastOdd", spec := "fastOdd", unfollowed := true, recurses := true, apart := false }
def FastOddSaid : Prop := fastOddRow.holds Tryz.pinned (OpenSpec.ofChange fastOddSpec)

/-- ITS FALSE NEIGHBOUR: 'it returns false'. Refute it at one input. -/
def fastOddWrong : ChangeSpec := { name := "fastOdd", fn := fun _ => fun
  | [d1, d2] => { results := [.lit (.bool false)], args := [d1, d2] }
  | _ => none }
def FastOddWrongFalsely : Prop := fastOddRow.holds Tryz.pinned (OpenSpec.ofChange fastOddWrong)

/- THE SECOND FORM. 'bulk': how many values and letters a reading holds, each counted each time it is reached (what is shared counts as often as it is met; a slice's spare places count too). A statement '..UptoSaid' is the law's where the arguments, and the package variables that the reading takes, are together of bulk at most 1048576: NARROWER than '..Said'. Prove '..Said' where nothing that the law and all that it calls make is longer than what came in: it says more and counts as full. Else prove '..UptoSaid'. A law counts once. -/
mutual
def uptoBulk {H : Type} : DataW H → Nat
  | .lit (.string bytes) => bytes.length + 1
  | .lit _ => 1
  | .nil => 1
  | .ptr d => uptoBulk d + 1
  | .slice elems spare => uptoBulkAll elems + uptoBulkAll spare + 1
  | .agg parts => uptoBulkAll parts + 1
  | .iface _ d => uptoBulk d + 1
  | .map entries => uptoBulkEntries entries + 1
  | .held _ => 1
def uptoBulkAll {H : Type} : List (DataW H) → Nat
  | [] => 0
  | d :: r => uptoBulk d + uptoBulkAll r
def uptoBulkEntries {H : Type} : List (Lit × DataW H) → Nat
  | [] => 0
  | x :: r => uptoBulkEntry x + uptoBulkEntries r
def uptoBulkEntry {H : Type} : Lit × DataW H → Nat
  | (.string bytes, d) => bytes.length + uptoBulk d + 1
  | (_, d) => uptoBulk d + 1
 end
def uptoSmall : (H : Type) → List (DataW H) → Bool := fun _ ds => decide (uptoBulkAll ds ≤ 1048576)
def OpenSpec.upto (s : _root_.Go.ChangeSpec) : _root_.Go.OpenSpec := { _root_.Go.OpenSpec.ofChange s with cond := some uptoSmall }

/-- 'sherpalaw17.HelpOver', WHERE WHAT IT READS IS OF BULK AT MOST 1048576: true; the input reads as it did. -/
def helpOverUptoRow : OpenClaim := { program := "ytkhliiajfiabnaagreat", sum := "942f1d92a4918cc661323fee91a4dd02da3cfb02c4eaf958219e985b1051ba9f", func := "sherpa/sherpalaw17.HelpOver", spec := "helpOver", unfollowed := true, recurses := true, apart := false, narrowed := true }
def HelpOverUptoSaid : Prop := helpOverUptoRow.holds Tryz.pinned (OpenSpec.upto helpOverSpec)

/-- 'sherpalaw18.FastFollows', WHERE WHAT IT READS IS OF BULK AT MOST 1048576: true; the input reads as it did. -/
def fastFollowsUptoRow : OpenClaim := { program := "ytkhliiajfiabnaagreat", sum := "942f1d92a4918cc661323fee91a4dd02da3cfb02c4eaf958219e985b1051ba9f", func := "sherpa/sherpalaw18.FastFollows", spec := "fastFollows", unfollowed := true, recurses := true, apart := false, narrowed := true }
def FastFollowsUptoSaid : Prop := fastFollowsUptoRow.holds Tryz.pinned (OpenSpec.upto fastFollowsSpec)

/-- 'sherpalaw18.FastOdd', WHERE WHAT IT READS IS OF BULK AT MOST 1048576: true; the input reads as it did. -/
def fastOddUptoRow : OpenClaim := { program := "ytkhliiajfiabnaagreat", sum := "942f1d92a4918cc661323fee91a4dd02da3cfb02c4eaf958219e985b1051ba9f", func := "sherpa/sherpalaw18.FastOdd", spec := "fastOdd", unfollowed := true, recurses := true, apart := false, narrowed := true }
def FastOddUptoSaid : Prop := fastOddUptoRow.holds Tryz.pinned (OpenSpec.upto fastOddSpec)

end Rows
end Go.Proofs.YtkhliiajfiabnaaGreat
