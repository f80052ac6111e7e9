/-
  No cell of these rows narrows 'for every input' (looked for: loops, veiled, ifaces, maps, wideKeys, modest, calm, conditions, laid).
  DERIVED. THE GIVEN ROWS OF THIS SEAT. 11 by the template 'for every input the law returns true; each argument reads behind the call as it read before'; 0 by the template 'total and deterministic' (their statements: YtedeloeobocpiaaGreatTotals.lean).
  GIVEN WITH THE SEED: the statements are not yours to turn. If you find one false, say at which input.
  Laid BY PROGRAM, IN A SANDBOX (cutbox-rows.mjs): the forced cells as the released guide's own fill.sh prints them over the translation dd6abf428ec12d0d… (all of the seat's roots in one cut). By AI agents, Wed Nov 11 2026. No macro, syntax, notation, axiom, sorry.
-/
import Derived.Test.YtedeloeobocpiaaGreatChecked
import GoSem.Claim
import GoSem.ClaimJoined
import GoSem.ClaimMapViews
import Derived.JoinedTies
import Derived.KernelRfl
namespace Go.Proofs.YtedeloeobocpiaaGreat
/- THE CELL 'sum', in the pinned program and in every row, IS THE sha256 OF THE DUMP (.gsa) THAT YtedeloeobocpiaaGreatProg.lean LOADS. Nothing in Lean hashes anything: it is a label: what it is worth is what the hold of that sum in a sandbox is worth. -/
noncomputable def Tryz.pinned : Pinned := { name := "ytedeloeobocpiaagreat", sum := "dd6abf428ec12d0d8cc4628cda825cd075c6088486f14ebdb6d24cd719b8d38c", checked := Tryz.checked }
namespace Rows
def none {H : Type} : Left H := { results := [], args := [] }

/-- 'sherpalaw18.FastOdd': WHATEVER THE INPUT: true; the input reads as it did. -/
def fastOddSpec : ChangeSpec := { name := "fastOdd", fn := fun _ => fun
  | [d1, d2] => { results := [.lit (.bool true)], args := [d1, d2] }
  | _ => none }
def fastOddRow : OpenClaim := { program := "ytedeloeobocpiaagreat", sum := "dd6abf428ec12d0d8cc4628cda825cd075c6088486f14ebdb6d24cd719b8d38c", func := "sherpa/sherpalaw18.FastOdd", spec := "fastOdd", unfollowed := true, recurses := true, apart := false }
def FastOddSaid : Prop := fastOddRow.holds Tryz.pinned (OpenSpec.ofChange fastOddSpec)

/-- ITS FALSE NEIGHBOUR: 'it returns false'. Refute it at one input. -/
def fastOddWrong : ChangeSpec := { name := "fastOdd", fn := fun _ => fun
  | [d1, d2] => { results := [.lit (.bool false)], args := [d1, d2] }
  | _ => none }
def FastOddWrongFalsely : Prop := fastOddRow.holds Tryz.pinned (OpenSpec.ofChange fastOddWrong)

/-- 'sherpalaw18.FastFollows': WHATEVER THE INPUT: true; the input reads as it did. -/
def fastFollowsSpec : ChangeSpec := { name := "fastFollows", fn := fun _ => fun
  | [d1, d2, d3] => { results := [.lit (.bool true)], args := [d1, d2, d3] }
  | _ => none }
def fastFollowsRow : OpenClaim := { program := "ytedeloeobocpiaagreat", sum := "dd6abf428ec12d0d8cc4628cda825cd075c6088486f14ebdb6d24cd719b8d38c", func := "sherpa/sherpalaw18.FastFollows", spec := "fastFollows", unfollowed := true, recurses := true, apart := false }
def FastFollowsSaid : Prop := fastFollowsRow.holds Tryz.pinned (OpenSpec.ofChange fastFollowsSpec)

/-- ITS FALSE NEIGHBOUR: 'it returns false'. Refute it at one input. -/
def fastFollowsWrong : ChangeSpec := { name := "fastFollows", fn := fun _ => fun
  | [d1, d2, d3] => { results := [.lit (.bool false)], args := [d1, d2, d3] }
  | _ => none }
def FastFollowsWrongFalsely : Prop := fastFollowsRow.holds Tryz.pinned (OpenSpec.ofChange fastFollowsWrong)

/-- 'sherpalaw18.FastRuns': WHATEVER THE INPUT: true; the input reads as it did. -/
def fastRunsSpec : ChangeSpec := { name := "fastRuns", fn := fun _ => fun
  | [d1, d2, d3] => { results := [.lit (.bool true)], args := [d1, d2, d3] }
  | _ => none }
def fastRunsRow : OpenClaim := { program := "ytedeloeobocpiaagreat", sum := "dd6abf428ec12d0d8cc4628cda825cd075c6088486f14ebdb6d24cd719b8d38c", func := "sherpa/sherpalaw18.FastRuns", spec := "fastRuns", unfollowed := true, recurses := true, apart := false }
def FastRunsSaid : Prop := fastRunsRow.holds Tryz.pinned (OpenSpec.ofChange fastRunsSpec)

/-- ITS FALSE NEIGHBOUR: 'it returns false'. Refute it at one input. -/
def fastRunsWrong : ChangeSpec := { name := "fastRuns", fn := fun _ => fun
  | [d1, d2, d3] => { results := [.lit (.bool false)], args := [d1, d2, d3] }
  | _ => none }
def FastRunsWrongFalsely : Prop := fastRunsRow.holds Tryz.pinned (OpenSpec.ofChange fastRunsWrong)

/-- 'sherpalaw18.FastMixes': WHATEVER THE INPUT: true; the input reads as it did. -/
def fastMixesSpec : ChangeSpec := { name := "fastMixes", fn := fun _ => fun
  | [d1, d2, d3] => { results := [.lit (.bool true)], args := [d1, d2, d3] }
  | _ => none }
def fastMixesRow : OpenClaim := { program := "ytedeloeobocpiaagreat", sum := "dd6abf428ec12d0d8cc4628cda825cd075c6088486f14ebdb6d24cd719b8d38c", func := "sherpa/sherpalaw18.FastMixes", spec := "fastMixes", unfollowed := true, recurses := true, apart := false }
def FastMixesSaid : Prop := fastMixesRow.holds Tryz.pinned (OpenSpec.ofChange fastMixesSpec)

/-- ITS FALSE NEIGHBOUR: 'it returns false'. Refute it at one input. -/
def fastMixesWrong : ChangeSpec := { name := "fastMixes", fn := fun _ => fun
  | [d1, d2, d3] => { results := [.lit (.bool false)], args := [d1, d2, d3] }
  | _ => none }
def FastMixesWrongFalsely : Prop := fastMixesRow.holds Tryz.pinned (OpenSpec.ofChange fastMixesWrong)

/-- 'sherpalaw17.HelpShort': WHATEVER THE INPUT: true; the input reads as it did. -/
def helpShortSpec : ChangeSpec := { name := "helpShort", fn := fun _ => fun
  | [d1, d2, d3] => { results := [.lit (.bool true)], args := [d1, d2, d3] }
  | _ => none }
def helpShortRow : OpenClaim := { program := "ytedeloeobocpiaagreat", sum := "dd6abf428ec12d0d8cc4628cda825cd075c6088486f14ebdb6d24cd719b8d38c", func := "sherpa/sherpalaw17.HelpShort", spec := "helpShort", unfollowed := true, recurses := true, apart := false }
def HelpShortSaid : Prop := helpShortRow.holds Tryz.pinned (OpenSpec.ofChange helpShortSpec)

/-- ITS FALSE NEIGHBOUR: 'it returns false'. Refute it at one input. -/
def helpShortWrong : ChangeSpec := { name := "helpShort", fn := fun _ => fun
  | [d1, d2, d3] => { results := [.lit (.bool false)], args := [d1, d2, d3] }
  | _ => none }
def HelpShortWrongFalsely : Prop := helpShortRow.holds Tryz.pinned (OpenSpec.ofChange helpShortWrong)

/-- 'sherpalaw17.HelpLimits': WHATEVER THE INPUT: true; the input reads as it did. -/
def helpLimitsSpec : ChangeSpec := { name := "helpLimits", fn := fun _ => fun
  | [d1, d2, d3] => { results := [.lit (.bool true)], args := [d1, d2, d3] }
  | _ => none }
def helpLimitsRow : OpenClaim := { program := "ytedeloeobocpiaagreat", sum := "dd6abf428ec12d0d8cc4628cda825cd075c6088486f14ebdb6d24cd719b8d38c", func := "sherpa/sherpalaw17.HelpLimits", spec := "helpLimits", unfollowed := true, recurses := true, apart := false }
def HelpLimitsSaid : Prop := helpLimitsRow.holds Tryz.pinned (OpenSpec.ofChange helpLimitsSpec)

/-- ITS FALSE NEIGHBOUR: 'it returns false'. Refute it at one input. -/
def helpLimitsWrong : ChangeSpec := { name := "helpLimits", fn := fun _ => fun
  | [d1, d2, d3] => { results := [.lit (.bool false)], args := [d1, d2, d3] }
  | _ => none }
def HelpLimitsWrongFalsely : Prop := helpLimitsRow.holds Tryz.pinned (OpenSpec.ofChange helpLimitsWrong)

/-- 'sherpalaw17.HelpMixes': WHATEVER THE INPUT: true; the input reads as it did. -/
def helpMixesSpec : ChangeSpec := { name := "helpMixes", fn := fun _ => fun
  | [d1, d2, d3] => { results := [.lit (.bool true)], args := [d1, d2, d3] }
  | _ => none }
def helpMixesRow : OpenClaim := { program := "ytedeloeobocpiaagreat", sum := "dd6abf428ec12d0d8cc4628cda825cd075c6088486f14ebdb6d24cd719b8d38c", func := "sherpa/sherpalaw17.HelpMixes", spec := "helpMixes", unfollowed := true, recurses := true, apart := false }
def HelpMixesSaid : Prop := helpMixesRow.holds Tryz.pinned (OpenSpec.ofChange helpMixesSpec)

/-- ITS FALSE NEIGHBOUR: 'it returns false'. Refute it at one input. -/
def helpMixesWrong : ChangeSpec := { name := "helpMixes", fn := fun _ => fun
  | [d1, d2, d3] => { results := [.lit (.bool false)], args := [d1, d2, d3] }
  | _ => none }
def HelpMixesWrongFalsely : Prop := helpMixesRow.holds Tryz.pinned (OpenSpec.ofChange helpMixesWrong)

/-- 'sherpalaw19.ThreadFull': WHATEVER THE INPUT: true; the input reads as it did. -/
def threadFullSpec : ChangeSpec := { name := "threadFull", fn := fun _ => fun
  | [d1, d2, d3] => { results := [.lit (.bool true)], args := [d1, d2, d3] }
  | _ => none }
def threadFullRow : OpenClaim := { program := "ytedeloeobocpiaagreat", sum := "dd6abf428ec12d0d8cc4628cda825cd075c6088486f14ebdb6d24cd719b8d38c", func := "sherpa/sherpalaw19.ThreadFull", spec := "threadFull", unfollowed := true, recurses := true, apart := false }
def ThreadFullSaid : Prop := threadFullRow.holds Tryz.pinned (OpenSpec.ofChange threadFullSpec)

/-- ITS FALSE NEIGHBOUR: 'it returns false'. Refute it at one input. -/
def threadFullWrong : ChangeSpec := { name := "threadFull", fn := fun _ => fun
  | [d1, d2, d3] => { results := [.lit (.bool false)], args := [d1, d2, d3] }
  | _ => none }
def ThreadFullWrongFalsely : Prop := threadFullRow.holds Tryz.pinned (OpenSpec.ofChange threadFullWrong)

/-- 'sherpalaw19.ThreadParts': WHATEVER THE INPUT: true; the input reads as it did. -/
def threadPartsSpec : ChangeSpec := { name := "threadParts", fn := fun _ => fun
  | [d1, d2, d3] => { results := [.lit (.bool true)], args := [d1, d2, d3] }
  | _ => none }
def threadPartsRow : OpenClaim := { program := "ytedeloeobocpiaagreat", sum := "dd6abf428ec12d0d8cc4628cda825cd075c6088486f14ebdb6d24cd719b8d38c", func := "sherpa/sherpalaw19.ThreadParts", spec := "threadParts", unfollowed := true, recurses := true, apart := false }
def ThreadPartsSaid : Prop := threadPartsRow.holds Tryz.pinned (OpenSpec.ofChange threadPartsSpec)

/-- ITS FALSE NEIGHBOUR: 'it returns false'. Refute it at one input. -/
def threadPartsWrong : ChangeSpec := { name := "threadParts", fn := fun _ => fun
  | [d1, d2, d3] => { results := [.lit (.bool false)], args := [d1, d2, d3] }
  | _ => none }
def ThreadPartsWrongFalsely : Prop := threadPartsRow.holds Tryz.pinned (OpenSpec.ofChange threadPartsWrong)

/-- 'sherpalaw19.ThreadAlone': WHATEVER THE INPUT: true; the input reads as it did. -/
def threadAloneSpec : ChangeSpec := { name := "threadAlone", fn := fun _ => fun
  | [d1, d2, d3] => { results := [.lit (.bool true)], args := [d1, d2, d3] }
  | _ => none }
def threadAloneRow : OpenClaim := { program := "ytedeloeobocpiaagreat", sum := "dd6abf428ec12d0d8cc4628cda825cd075c6088486f14ebdb6d24cd719b8d38c", func := "sherpa/sherpalaw19.ThreadAlone", spec := "threadAlone", unfollowed := true, recurses := true, apart := false }
def ThreadAloneSaid : Prop := threadAloneRow.holds Tryz.pinned (OpenSpec.ofChange threadAloneSpec)

/-- ITS FALSE NEIGHBOUR: 'it returns false'. Refute it at one input. -/
def threadAloneWrong : ChangeSpec := { name := "threadAlone", fn := fun _ => fun
  | [d1, d2, d3] => { results := [.lit (.bool false)], args := [d1, d2, d3] }
  | _ => none }
def ThreadAloneWrongFalsely : Prop := threadAloneRow.holds Tryz.pinned (OpenSpec.ofChange threadAloneWrong)

/-- 'sherpalaw19.ThreadMixes': WHATEVER THE INPUT: true; the input reads as it did. -/
def threadMixesSpec : ChangeSpec := { name := "threadMixes", fn := fun _ => fun
  | [d1, d2, d3] => { results := [.lit (.bool true)], args := [d1, d2, d3] }
  | _ => none }
def threadMixesRow : OpenClaim := { program := "ytedeloeobocpiaagreat", sum := "dd6abf428ec12d0d8cc4628cda825cd075c6088486f14ebdb6d24cd719b8d38c", func := "sherpa/sherpalaw19.ThreadMixes", spec := "threadMixes", unfollowed := true, recurses := true, apart := false }
def ThreadMixesSaid : Prop := threadMixesRow.holds Tryz.pinned (OpenSpec.ofChange threadMixesSpec)

/-- ITS FALSE NEIGHBOUR: 'it returns false'. Refute it at one input. -/
def threadMixesWrong : ChangeSpec := { name := "threadMixes", fn := fun _ => fun
  | [d1, d2, d3] => { results := [.lit (.bool false)], args := [d1, d2, d3] }
  | _ => none }
def ThreadMixesWrongFalsely : Prop := threadMixesRow.holds Tryz.pinned (OpenSpec.ofChange threadMixesWrong)

/- THE SECOND FORM. 'bulk': how many values and letters a reading holds, each counted each time it is reached (what is shared counts as often as it is met; a slice's spare places count too). A statement '..UptoSaid' is the law's where the arguments, and the package variables that the reading takes, are together of bulk at most 1048576: NARROWER than '..Said'. Prove '..Said' where nothing that the law and all that it calls make is longer than what came in: it says more and counts as full. Else prove '..UptoSaid'. A law counts once. -/
mutual
def uptoBulk {H : Type} : DataW H → Nat
  | .lit (.string bytes) => bytes.length + 1
  | .lit _ => 1
  | .nil => 1
  | .ptr d => uptoBulk d + 1
  | .slice elems spare => uptoBulkAll elems + uptoBulkAll spare + 1
  | .agg parts => uptoBulkAll parts + 1
  | .iface _ d => uptoBulk d + 1
  | .map entries => uptoBulkEntries entries + 1
  | .held _ => 1
def uptoBulkAll {H : Type} : List (DataW H) → Nat
  | [] => 0
  | d :: r => uptoBulk d + uptoBulkAll r
def uptoBulkEntries {H : Type} : List (Lit × DataW H) → Nat
  | [] => 0
  | x :: r => uptoBulkEntry x + uptoBulkEntries r
def uptoBulkEntry {H : Type} : Lit × DataW H → Nat
  | (.string bytes, d) => bytes.length + uptoBulk d + 1
  | (_, d) => uptoBulk d + 1
 end
def uptoSmall : (H : Type) → List (DataW H) → Bool := fun _ ds => decide (uptoBulkAll ds ≤ 1048576)
def OpenSpec.upto (s : _root_.Go.ChangeSpec) : _root_.Go.OpenSpec := { _root_.Go.OpenSpec.ofChange s with cond := some uptoSmall }

/-- 'sherpalaw18.FastOdd', WHERE WHAT IT READS IS OF BULK AT MOST 1048576: true; the input reads as it did. -/
def fastOddUptoRow : OpenClaim := { program := "ytedeloeobocpiaagreat", sum := "dd6abf428ec12d0d8cc4628cda825cd075c6088486f14ebdb6d24cd719b8d38c", func := "sherpa/sherpalaw18.FastOdd", spec := "fastOdd", unfollowed := true, recurses := true, apart := false, narrowed := true }
def FastOddUptoSaid : Prop := fastOddUptoRow.holds Tryz.pinned (OpenSpec.upto fastOddSpec)

/-- 'sherpalaw18.FastFollows', WHERE WHAT IT READS IS OF BULK AT MOST 1048576: true; the input reads as it did. -/
def fastFollowsUptoRow : OpenClaim := { program := "ytedeloeobocpiaagreat", sum := "dd6abf428ec12d0d8cc4628cda825cd075c6088486f14ebdb6d24cd719b8d38c", func := "sherpa/sherpalaw18.FastFollows", spec := "fastFollows", unfollowed := true, recurses := true, apart := false, narrowed := true }
def FastFollowsUptoSaid : Prop := fastFollowsUptoRow.holds Tryz.pinned (OpenSpec.upto fastFollowsSpec)

/-- 'sherpalaw18.FastRuns', WHERE WHAT IT READS IS OF BULK AT MOST 1048576: true; the input reads as it did. -/
def fastRunsUptoRow : OpenClaim := { program := "ytedeloeobocpiaagreat", sum := "dd6abf428ec12d0d8cc4628cda825cd075c6088486f14ebdb6d24cd719b8d38c", func := "sherpa/sherpalaw18.FastRuns", spec := "fastRuns", unfollowed := true, recurses := true, apart := false, narrowed := true }
def FastRunsUptoSaid : Prop := fastRunsUptoRow.holds Tryz.pinned (OpenSpec.upto fastRunsSpec)

/-- 'sherpalaw18.FastMixes', WHERE WHAT IT READS IS OF BULK AT MOST 1048576: true; the input reads as it did. -/
def fastMixesUptoRow : OpenClaim := { program := "ytedeloeobocpiaagreat", sum := "dd6abf428ec12d0d8cc4628cda825cd075c6088486f14ebdb6d24cd719b8d38c", func := "sherpa/sherpalaw18.FastMixes", spec := "fastMixes", unfollowed := true, recurses := true, apart := false, narrowed := true }
def FastMixesUptoSaid : Prop := fastMixesUptoRow.holds Tryz.pinned (OpenSpec.upto fastMixesSpec)

/-- 'sherpalaw17.HelpShort', WHERE WHAT IT READS IS OF BULK AT MOST 1048576: true; the input reads as it did. -/
def helpShortUptoRow : OpenClaim := { program := "ytedeloeobocpiaagreat", sum := "dd6abf428ec12d0d8cc4628cda825cd075c6088486f14ebdb6d24cd719b8d38c", func := "sherpa/sherpalaw17.HelpShort", spec := "helpShort", unfollowed := true, recurses := true, apart := false, narrowed := true }
def HelpShortUptoSaid : Prop := helpShortUptoRow.holds Tryz.pinned (OpenSpec.upto helpShortSpec)

/-- 'sherpalaw17.HelpLimits', WHERE WHAT IT READS IS OF BULK AT MOST 1048576: true; the input reads as it did. -/
def helpLimitsUptoRow : OpenClaim := { program := "ytedeloeobocpiaagreat", sum := "dd6abf428ec12d0d8cc4628cda825cd075c6088486f14ebdb6d24cd719b8d38c", func := "sherpa/sherpalaw17.HelpLimits", spec := "helpLimits", unfollowed := true, recurses := true, apart := false, narrowed := true }
def HelpLimitsUptoSaid : Prop := helpLimitsUptoRow.holds Tryz.pinned (OpenSpec.upto helpLimitsSpec)

/-- 'sherpalaw17.HelpMixes', WHERE WHAT IT READS IS OF BULK AT MOST 1048576: true; the input reads as it did. -/
def helpMixesUptoRow : OpenClaim := { program := "ytedeloeobocpiaagreat", sum := "dd6abf428ec12d0d8cc4628cda825cd075c6088486f14ebdb6d24cd719b8d38c", func := "sherpa/sherpalaw17.HelpMixes", spec := "helpMixes", unfollowed := true, recurses := true, apart := false, narrowed := true }
def HelpMixesUptoSaid : Prop := helpMixesUptoRow.holds Tryz.pinned (OpenSpec.upto helpMixesSpec)

/-- 'sherpalaw19.ThreadFull', WHERE WHAT IT READS IS OF BULK AT MOST 1048576: true; the input reads as it did. -/
def threadFullUptoRow : OpenClaim := { program := "ytedeloeobocpiaagreat", sum := "dd6abf428ec12d0d8cc4628cda825cd075c6088486f14ebdb6d24cd719b8d38c", func := "sherpa/sherpalaw19.ThreadFull", spec := "threadFull", unfollowed := true, recurses := true, apart := false, narrowed := true }
def ThreadFullUptoSaid : Prop := threadFullUptoRow.holds Tryz.pinned (OpenSpec.upto threadFullSpec)

/-- 'sherpalaw19.ThreadParts', WHERE WHAT IT READS IS OF BULK AT MOST 1048576: true; the input reads as it did. -/
def threadPartsUptoRow : OpenClaim := { program := "ytedeloeobocpiaagreat", sum := "dd6abf428ec12d0d8cc4628cda825cd075c6088486f14ebdb6d24cd719b8d38c", func := "sherpa/sherpalaw19.ThreadParts", spec := "threadParts", unfollowed := true, recurses := true, apart := false, narrowed := true }
def ThreadPartsUptoSaid : Prop := threadPartsUptoRow.holds Tryz.pinned (OpenSpec.upto threadPartsSpec)

/-- 'sherpalaw19.ThreadAlone', WHERE WHAT IT READS IS OF BULK AT MOST 1048576: true; the input reads as it did. -/
def threadAloneUptoRow : OpenClaim := { program := "ytedeloeobocpiaagreat", sum := "dd6abf428ec12d0d8cc4628cda825cd075c6088486f14ebdb6d24cd719b8d38c", func := "sherpa/sherpalaw19.ThreadAlone", spec := "threadAlone", unfollowed := true, recurses := true, apart := false, narrowed := true }
def ThreadAloneUptoSaid : Prop := threadAloneUptoRow.holds Tryz.pinned (OpenSpec.upto threadAloneSpec)

/-- 'sherpalaw19.ThreadMixes', WHERE WHAT IT READS IS OF BULK AT MOST 1048576: true; the input reads as it did. -/
def threadMixesUptoRow : OpenClaim := { program := "ytedeloeobocpiaagreat", sum := "dd6abf428ec12d0d8cc4628cda825cd075c6088486f14ebdb6d24cd719b8d38c", func := "sherpa/sherpalaw19.ThreadMixes", spec := "threadMixes", unfollowed := true, recurses := true, apart := false, narrowed := true }
def ThreadMixesUptoSaid : Prop := threadMixesUptoRow.holds Tryz.pinned (OpenSpec.upto threadMixesSpec)

end Rows
end Go.Proofs.YtedeloeobocpiaaGreat
