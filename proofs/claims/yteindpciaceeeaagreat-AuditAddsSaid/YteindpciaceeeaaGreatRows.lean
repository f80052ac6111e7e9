/-
  No cell of these rows narrows 'for every input' (looked for: loops, veiled, ifaces, maps, wideKeys, modest, calm, conditions, laid).
  DERIVED. THE GIVEN ROWS OF THIS SEAT. 12 by the template 'for every input the law returns true; each argument reads behind the call as it read before'; 0 by the template 'total and deterministic' (their statements: YteindpciaceeeaaGreatTotals.lean).
  GIVEN WITH THE SEED: the statements are not yours to turn. If you find one false, say at which input.
  Laid BY PROGRAM, IN A SANDBOX (cutbox-rows.mjs): the forced cells as the released guide's own fill.sh prints them over the translation 285abe3637b81e9d… (all of the seat's roots in one cut). By AI agents, Wed Nov 11 2026. No macro, syntax, notation, axiom, sorry.
-/
import Derived.Test.YteindpciaceeeaaGreatChecked
import GoSem.Claim
import GoSem.ClaimJoined
import GoSem.ClaimMapViews
import Derived.JoinedTies
import Derived.KernelRfl
namespace Go.Proofs.YteindpciaceeeaaGreat
/- THE CELL 'sum', in the pinned program and in every row, IS THE sha256 OF THE DUMP (.gsa) THAT YteindpciaceeeaaGreatProg.lean LOADS. Nothing in Lean hashes anything: it is a label: what it is worth is what the hold of that sum in a sandbox is worth. -/
noncomputable def Tryz.pinned : Pinned := { name := "yteindpciaceeeaagreat", sum := "285abe3637b81e9deb139348870d5916d98e8ce1f0798b09c015710e7e103571", checked := Tryz.checked }
namespace Rows
def none {H : Type} : Left H := { results := [], args := [] }

/-- 'sherpalaw24.SoloWrong': WHATEVER THE INPUT: true; the input reads as it did. -/
def soloWrongSpec : ChangeSpec := { name := "soloWrong", fn := fun _ => fun
  | [d1, d2] => { results := [.lit (.bool true)], args := [d1, d2] }
  | _ => none }
def soloWrongRow : OpenClaim := { program := "yteindpciaceeeaagreat", sum := "285abe3637b81e9deb139348870d5916d98e8ce1f0798b09c015710e7e103571", func := "sherpa/sherpalaw24.SoloWrong", spec := "soloWrong", inPlace := ["slices.overlaps[int]"], unfollowed := true, recurses := true, apart := false }
def SoloWrongSaid : Prop := soloWrongRow.holds Tryz.pinned (OpenSpec.ofChange soloWrongSpec)

/-- ITS FALSE NEIGHBOUR: 'it returns false'. Refute it at one input. -/
def soloWrongWrong : ChangeSpec := { name := "soloWrong", fn := fun _ => fun
  | [d1, d2] => { results := [.lit (.bool false)], args := [d1, d2] }
  | _ => none }
def SoloWrongWrongFalsely : Prop := soloWrongRow.holds Tryz.pinned (OpenSpec.ofChange soloWrongWrong)

/-- 'sherpalaw21.EngineCounts': WHATEVER THE INPUT: true; the input reads as it did. -/
def engineCountsSpec : ChangeSpec := { name := "engineCounts", fn := fun _ => fun
  | [d1, d2] => { results := [.lit (.bool true)], args := [d1, d2] }
  | _ => none }
def engineCountsRow : OpenClaim := { program := "yteindpciaceeeaagreat", sum := "285abe3637b81e9deb139348870d5916d98e8ce1f0798b09c015710e7e103571", func := "sherpa/sherpalaw21.EngineCounts", spec := "engineCounts", unfollowed := true, recurses := true, apart := false }
def EngineCountsSaid : Prop := engineCountsRow.holds Tryz.pinned (OpenSpec.ofChange engineCountsSpec)

/-- ITS FALSE NEIGHBOUR: 'it returns false'. Refute it at one input. -/
def engineCountsWrong : ChangeSpec := { name := "engineCounts", fn := fun _ => fun
  | [d1, d2] => { results := [.lit (.bool false)], args := [d1, d2] }
  | _ => none }
def EngineCountsWrongFalsely : Prop := engineCountsRow.holds Tryz.pinned (OpenSpec.ofChange engineCountsWrong)

/-- 'sherpalaw21.EngineTickets': WHATEVER THE INPUT: true; the input reads as it did. -/
def engineTicketsSpec : ChangeSpec := { name := "engineTickets", fn := fun _ => fun
  | [d1, d2] => { results := [.lit (.bool true)], args := [d1, d2] }
  | _ => none }
def engineTicketsRow : OpenClaim := { program := "yteindpciaceeeaagreat", sum := "285abe3637b81e9deb139348870d5916d98e8ce1f0798b09c015710e7e103571", func := "sherpa/sherpalaw21.EngineTickets", spec := "engineTickets", unfollowed := true, recurses := true, apart := false }
def EngineTicketsSaid : Prop := engineTicketsRow.holds Tryz.pinned (OpenSpec.ofChange engineTicketsSpec)

/-- ITS FALSE NEIGHBOUR: 'it returns false'. Refute it at one input. -/
def engineTicketsWrong : ChangeSpec := { name := "engineTickets", fn := fun _ => fun
  | [d1, d2] => { results := [.lit (.bool false)], args := [d1, d2] }
  | _ => none }
def EngineTicketsWrongFalsely : Prop := engineTicketsRow.holds Tryz.pinned (OpenSpec.ofChange engineTicketsWrong)

/-- 'sherpalaw21.EngineTells': WHATEVER THE INPUT: true; the input reads as it did. -/
def engineTellsSpec : ChangeSpec := { name := "engineTells", fn := fun _ => fun
  | [d1, d2] => { results := [.lit (.bool true)], args := [d1, d2] }
  | _ => none }
def engineTellsRow : OpenClaim := { program := "yteindpciaceeeaagreat", sum := "285abe3637b81e9deb139348870d5916d98e8ce1f0798b09c015710e7e103571", func := "sherpa/sherpalaw21.EngineTells", spec := "engineTells", unfollowed := true, recurses := true, apart := false }
def EngineTellsSaid : Prop := engineTellsRow.holds Tryz.pinned (OpenSpec.ofChange engineTellsSpec)

/-- ITS FALSE NEIGHBOUR: 'it returns false'. Refute it at one input. -/
def engineTellsWrong : ChangeSpec := { name := "engineTells", fn := fun _ => fun
  | [d1, d2] => { results := [.lit (.bool false)], args := [d1, d2] }
  | _ => none }
def EngineTellsWrongFalsely : Prop := engineTellsRow.holds Tryz.pinned (OpenSpec.ofChange engineTellsWrong)

/-- 'sherpalaw21.EngineRuns': WHATEVER THE INPUT: true; the input reads as it did. -/
def engineRunsSpec : ChangeSpec := { name := "engineRuns", fn := fun _ => fun
  | [d1, d2] => { results := [.lit (.bool true)], args := [d1, d2] }
  | _ => none }
def engineRunsRow : OpenClaim := { program := "yteindpciaceeeaagreat", sum := "285abe3637b81e9deb139348870d5916d98e8ce1f0798b09c015710e7e103571", func := "sherpa/sherpalaw21.EngineRuns", spec := "engineRuns", unfollowed := true, recurses := true, apart := false }
def EngineRunsSaid : Prop := engineRunsRow.holds Tryz.pinned (OpenSpec.ofChange engineRunsSpec)

/-- ITS FALSE NEIGHBOUR: 'it returns false'. Refute it at one input. -/
def engineRunsWrong : ChangeSpec := { name := "engineRuns", fn := fun _ => fun
  | [d1, d2] => { results := [.lit (.bool false)], args := [d1, d2] }
  | _ => none }
def EngineRunsWrongFalsely : Prop := engineRunsRow.holds Tryz.pinned (OpenSpec.ofChange engineRunsWrong)

/-- 'sherpalaw24.SoloRuns': WHATEVER THE INPUT: true; the input reads as it did. -/
def soloRunsSpec : ChangeSpec := { name := "soloRuns", fn := fun _ => fun
  | [d1, d2] => { results := [.lit (.bool true)], args := [d1, d2] }
  | _ => none }
def soloRunsRow : OpenClaim := { program := "yteindpciaceeeaagreat", sum := "285abe3637b81e9deb139348870d5916d98e8ce1f0798b09c015710e7e103571", func := "sherpa/sherpalaw24.SoloRuns", spec := "soloRuns", unfollowed := true, recurses := true, apart := false }
def SoloRunsSaid : Prop := soloRunsRow.holds Tryz.pinned (OpenSpec.ofChange soloRunsSpec)

/-- ITS FALSE NEIGHBOUR: 'it returns false'. Refute it at one input. -/
def soloRunsWrong : ChangeSpec := { name := "soloRuns", fn := fun _ => fun
  | [d1, d2] => { results := [.lit (.bool false)], args := [d1, d2] }
  | _ => none }
def SoloRunsWrongFalsely : Prop := soloRunsRow.holds Tryz.pinned (OpenSpec.ofChange soloRunsWrong)

/-- 'sherpalaw22.AuditDiffs': WHATEVER THE INPUT: true; the input reads as it did. -/
def auditDiffsSpec : ChangeSpec := { name := "auditDiffs", fn := fun _ => fun
  | [d1, d2] => { results := [.lit (.bool true)], args := [d1, d2] }
  | _ => none }
def auditDiffsRow : OpenClaim := { program := "yteindpciaceeeaagreat", sum := "285abe3637b81e9deb139348870d5916d98e8ce1f0798b09c015710e7e103571", func := "sherpa/sherpalaw22.AuditDiffs", spec := "auditDiffs", unfollowed := true, recurses := true, apart := false }
def AuditDiffsSaid : Prop := auditDiffsRow.holds Tryz.pinned (OpenSpec.ofChange auditDiffsSpec)

/-- ITS FALSE NEIGHBOUR: 'it returns false'. Refute it at one input. -/
def auditDiffsWrong : ChangeSpec := { name := "auditDiffs", fn := fun _ => fun
  | [d1, d2] => { results := [.lit (.bool false)], args := [d1, d2] }
  | _ => none }
def AuditDiffsWrongFalsely : Prop := auditDiffsRow.holds Tryz.pinned (OpenSpec.ofChange auditDiffsWrong)

/-- 'sherpalaw22.AuditCounts': WHATEVER THE INPUT: true; the input reads as it did. -/
def auditCountsSpec : ChangeSpec := { name := "auditCounts", fn := fun _ => fun
  | [d1, d2] => { results := [.lit (.bool true)], args := [d1, d2] }
  | _ => none }
def auditCountsRow : OpenClaim := { program := "yteindpciaceeeaagreat", sum := "285abe3637b81e9deb139348870d5916d98e8ce1f0798b09c015710e7e103571", func := "sherpa/sherpalaw22.AuditCounts", spec := "auditCounts", unfollowed := true, recurses := true, apart := false }
def AuditCountsSaid : Prop := auditCountsRow.holds Tryz.pinned (OpenSpec.ofChange auditCountsSpec)

/-- ITS FALSE NEIGHBOUR: 'it returns false'. Refute it at one input. -/
def auditCountsWrong : ChangeSpec := { name := "auditCounts", fn := fun _ => fun
  | [d1, d2] => { results := [.lit (.bool false)], args := [d1, d2] }
  | _ => none }
def AuditCountsWrongFalsely : Prop := auditCountsRow.holds Tryz.pinned (OpenSpec.ofChange auditCountsWrong)

/-- 'sherpalaw22.AuditRuns': WHATEVER THE INPUT: true; the input reads as it did. -/
def auditRunsSpec : ChangeSpec := { name := "auditRuns", fn := fun _ => fun
  | [d1, d2] => { results := [.lit (.bool true)], args := [d1, d2] }
  | _ => none }
def auditRunsRow : OpenClaim := { program := "yteindpciaceeeaagreat", sum := "285abe3637b81e9deb139348870d5916d98e8ce1f0798b09c015710e7e103571", func := "sherpa/sherpalaw22.AuditRuns", spec := "auditRuns", unfollowed := true, recurses := true, apart := false }
def AuditRunsSaid : Prop := auditRunsRow.holds Tryz.pinned (OpenSpec.ofChange auditRunsSpec)

/-- ITS FALSE NEIGHBOUR: 'it returns false'. Refute it at one input. -/
def auditRunsWrong : ChangeSpec := { name := "auditRuns", fn := fun _ => fun
  | [d1, d2] => { results := [.lit (.bool false)], args := [d1, d2] }
  | _ => none }
def AuditRunsWrongFalsely : Prop := auditRunsRow.holds Tryz.pinned (OpenSpec.ofChange auditRunsWrong)

/-- 'sherpalaw22.AuditAdds': WHATEVER THE INPUT: true; the input reads as it did. -/
def auditAddsSpec : ChangeSpec := { name := "auditAdds", fn := fun _ => fun
  | [d1, d2, d3] => { results := [.lit (.bool true)], args := [d1, d2, d3] }
  | _ => none }
def auditAddsRow : OpenClaim := { program := "yteindpciaceeeaagreat", sum := "285abe3637b81e9deb139348870d5916d98e8ce1f0798b09c015710e7e103571", func := "sherpa/sherpalaw22.AuditAdds", spec := "auditAdds", unfollowed := true, recurses := true, apart := false }
def AuditAddsSaid : Prop := auditAddsRow.holds Tryz.pinned (OpenSpec.ofChange auditAddsSpec)

/-- ITS FALSE NEIGHBOUR: 'it returns false'. Refute it at one input. -/
def auditAddsWrong : ChangeSpec := { name := "auditAdds", fn := fun _ => fun
  | [d1, d2, d3] => { results := [.lit (.bool false)], args := [d1, d2, d3] }
  | _ => none }
def AuditAddsWrongFalsely : Prop := auditAddsRow.holds Tryz.pinned (OpenSpec.ofChange auditAddsWrong)

/-- 'sherpatop.TopSame': WHATEVER THE INPUT: true; the input reads as it did. -/
def topSameSpec : ChangeSpec := { name := "topSame", fn := fun _ => fun
  | [d1, d2, d3] => { results := [.lit (.bool true)], args := [d1, d2, d3] }
  | _ => none }
def topSameRow : OpenClaim := { program := "yteindpciaceeeaagreat", sum := "285abe3637b81e9deb139348870d5916d98e8ce1f0798b09c015710e7e103571", func := "sherpa/sherpatop.TopSame", spec := "topSame", unfollowed := true, recurses := true, apart := false }
def TopSameSaid : Prop := topSameRow.holds Tryz.pinned (OpenSpec.ofChange topSameSpec)

/-- ITS FALSE NEIGHBOUR: 'it returns false'. Refute it at one input. -/
def topSameWrong : ChangeSpec := { name := "topSame", fn := fun _ => fun
  | [d1, d2, d3] => { results := [.lit (.bool false)], args := [d1, d2, d3] }
  | _ => none }
def TopSameWrongFalsely : Prop := topSameRow.holds Tryz.pinned (OpenSpec.ofChange topSameWrong)

/-- 'sherpatop.TopCut': WHATEVER THE INPUT: true; the input reads as it did. -/
def topCutSpec : ChangeSpec := { name := "topCut", fn := fun _ => fun
  | [d1, d2, d3] => { results := [.lit (.bool true)], args := [d1, d2, d3] }
  | _ => none }
def topCutRow : OpenClaim := { program := "yteindpciaceeeaagreat", sum := "285abe3637b81e9deb139348870d5916d98e8ce1f0798b09c015710e7e103571", func := "sherpa/sherpatop.TopCut", spec := "topCut", unfollowed := true, recurses := true, apart := false }
def TopCutSaid : Prop := topCutRow.holds Tryz.pinned (OpenSpec.ofChange topCutSpec)

/-- ITS FALSE NEIGHBOUR: 'it returns false'. Refute it at one input. -/
def topCutWrong : ChangeSpec := { name := "topCut", fn := fun _ => fun
  | [d1, d2, d3] => { results := [.lit (.bool false)], args := [d1, d2, d3] }
  | _ => none }
def TopCutWrongFalsely : Prop := topCutRow.holds Tryz.pinned (OpenSpec.ofChange topCutWrong)

/- THE SECOND FORM. 'bulk': how many values and letters a reading holds, each counted each time it is reached (what is shared counts as often as it is met; a slice's spare places count too). A statement '..UptoSaid' is the law's where the arguments, and the package variables that the reading takes, are together of bulk at most 1048576: NARROWER than '..Said'. Prove '..Said' where nothing that the law and all that it calls make is longer than what came in: it says more and counts as full. Else prove '..UptoSaid'. A law counts once. -/
mutual
def uptoBulk {H : Type} : DataW H → Nat
  | .lit (.string bytes) => bytes.length + 1
  | .lit _ => 1
  | .nil => 1
  | .ptr d => uptoBulk d + 1
  | .slice elems spare => uptoBulkAll elems + uptoBulkAll spare + 1
  | .agg parts => uptoBulkAll parts + 1
  | .iface _ d => uptoBulk d + 1
  | .map entries => uptoBulkEntries entries + 1
  | .held _ => 1
def uptoBulkAll {H : Type} : List (DataW H) → Nat
  | [] => 0
  | d :: r => uptoBulk d + uptoBulkAll r
def uptoBulkEntries {H : Type} : List (Lit × DataW H) → Nat
  | [] => 0
  | x :: r => uptoBulkEntry x + uptoBulkEntries r
def uptoBulkEntry {H : Type} : Lit × DataW H → Nat
  | (.string bytes, d) => bytes.length + uptoBulk d + 1
  | (_, d) => uptoBulk d + 1
 end
def uptoSmall : (H : Type) → List (DataW H) → Bool := fun _ ds => decide (uptoBulkAll ds ≤ 1048576)
def OpenSpec.upto (s : _root_.Go.ChangeSpec) : _root_.Go.OpenSpec := { _root_.Go.OpenSpec.ofChange s with cond := some uptoSmall }

/-- 'sherpalaw24.SoloWrong', WHERE WHAT IT READS IS OF BULK AT MOST 1048576: true; the input reads as it did. -/
def soloWrongUptoRow : OpenClaim := { program := "yteindpciaceeeaagreat", sum := "285abe3637b81e9deb139348870d5916d98e8ce1f0798b09c015710e7e103571", func := "sherpa/sherpalaw24.SoloWrong", spec := "soloWrong", inPlace := ["slices.overlaps[int]"], unfollowed := true, recurses := true, apart := false, narrowed := true }
def SoloWrongUptoSaid : Prop := soloWrongUptoRow.holds Tryz.pinned (OpenSpec.upto soloWrongSpec)

/-- 'sherpalaw21.EngineCounts', WHERE WHAT IT READS IS OF BULK AT MOST 1048576: true; the input reads as it did. -/
def engineCountsUptoRow : OpenClaim := { program := "yteindpciaceeeaagreat", sum := "285abe3637b81e9deb139348870d5916d98e8ce1f0798b09c015710e7e103571", func := "sherpa/sherpalaw21.EngineCounts", spec := "engineCounts", unfollowed := true, recurses := true, apart := false, narrowed := true }
def EngineCountsUptoSaid : Prop := engineCountsUptoRow.holds Tryz.pinned (OpenSpec.upto engineCountsSpec)

/-- 'sherpalaw21.EngineTickets', WHERE WHAT IT READS IS OF BULK AT MOST 1048576: true; the input reads as it did. -/
def engineTicketsUptoRow : OpenClaim := { program := "yteindpciaceeeaagreat", sum := "285abe3637b81e9deb139348870d5916d98e8ce1f0798b09c015710e7e103571", func := "sherpa/sherpalaw21.EngineTickets", spec := "engineTickets", unfollowed := true, recurses := true, apart := false, narrowed := true }
def EngineTicketsUptoSaid : Prop := engineTicketsUptoRow.holds Tryz.pinned (OpenSpec.upto engineTicketsSpec)

/-- 'sherpalaw21.EngineTells', WHERE WHAT IT READS IS OF BULK AT MOST 1048576: true; the input reads as it did. -/
def engineTellsUptoRow : OpenClaim := { program := "yteindpciaceeeaagreat", sum := "285abe3637b81e9deb139348870d5916d98e8ce1f0798b09c015710e7e103571", func := "sherpa/sherpalaw21.EngineTells", spec := "engineTells", unfollowed := true, recurses := true, apart := false, narrowed := true }
def EngineTellsUptoSaid : Prop := engineTellsUptoRow.holds Tryz.pinned (OpenSpec.upto engineTellsSpec)

/-- 'sherpalaw21.EngineRuns', WHERE WHAT IT READS IS OF BULK AT MOST 1048576: true; the input reads as it did. -/
def engineRunsUptoRow : OpenClaim := { program := "yteindpciaceeeaagreat", sum := "285abe3637b81e9deb139348870d5916d98e8ce1f0798b09c015710e7e103571", func := "sherpa/sherpalaw21.EngineRuns", spec := "engineRuns", unfollowed := true, recurses := true, apart := false, narrowed := true }
def EngineRunsUptoSaid : Prop := engineRunsUptoRow.holds Tryz.pinned (OpenSpec.upto engineRunsSpec)

/-- 'sherpalaw24.SoloRuns', WHERE WHAT IT READS IS OF BULK AT MOST 1048576: true; the input reads as it did. -/
def soloRunsUptoRow : OpenClaim := { program := "yteindpciaceeeaagreat", sum := "285abe3637b81e9deb139348870d5916d98e8ce1f0798b09c015710e7e103571", func := "sherpa/sherpalaw24.SoloRuns", spec := "soloRuns", unfollowed := true, recurses := true, apart := false, narrowed := true }
def SoloRunsUptoSaid : Prop := soloRunsUptoRow.holds Tryz.pinned (OpenSpec.upto soloRunsSpec)

/-- 'sherpalaw22.AuditDiffs', WHERE WHAT IT READS IS OF BULK AT MOST 1048576: true; the input reads as it did. -/
def auditDiffsUptoRow : OpenClaim := { program := "yteindpciaceeeaagreat", sum := "285abe3637b81e9deb139348870d5916d98e8ce1f0798b09c015710e7e103571", func := "sherpa/sherpalaw22.AuditDiffs", spec := "auditDiffs", unfollowed := true, recurses := true, apart := false, narrowed := true }
def AuditDiffsUptoSaid : Prop := auditDiffsUptoRow.holds Tryz.pinned (OpenSpec.upto auditDiffsSpec)

/-- 'sherpalaw22.AuditCounts', WHERE WHAT IT READS IS OF BULK AT MOST 1048576: true; the input reads as it did. -/
def auditCountsUptoRow : OpenClaim := { program := "yteindpciaceeeaagreat", sum := "285abe3637b81e9deb139348870d5916d98e8ce1f0798b09c015710e7e103571", func := "sherpa/sherpalaw22.AuditCounts", spec := "auditCounts", unfollowed := true, recurses := true, apart := false, narrowed := true }
def AuditCountsUptoSaid : Prop := auditCountsUptoRow.holds Tryz.pinned (OpenSpec.upto auditCountsSpec)

/-- 'sherpalaw22.AuditRuns', WHERE WHAT IT READS IS OF BULK AT MOST 1048576: true; the input reads as it did. -/
def auditRunsUptoRow : OpenClaim := { program := "yteindpciaceeeaagreat", sum := "285abe3637b81e9deb139348870d5916d98e8ce1f0798b09c015710e7e103571", func := "sherpa/sherpalaw22.AuditRuns", spec := "auditRuns", unfollowed := true, recurses := true, apart := false, narrowed := true }
def AuditRunsUptoSaid : Prop := auditRunsUptoRow.holds Tryz.pinned (OpenSpec.upto auditRunsSpec)

/-- 'sherpalaw22.AuditAdds', WHERE WHAT IT READS IS OF BULK AT MOST 1048576: true; the input reads as it did. -/
def auditAddsUptoRow : OpenClaim := { program := "yteindpciaceeeaagreat", sum := "285abe3637b81e9deb139348870d5916d98e8ce1f0798b09c015710e7e103571", func := "sherpa/sherpalaw22.AuditAdds", spec := "auditAdds", unfollowed := true, recurses := true, apart := false, narrowed := true }
def AuditAddsUptoSaid : Prop := auditAddsUptoRow.holds Tryz.pinned (OpenSpec.upto auditAddsSpec)

/-- 'sherpatop.TopSame', WHERE WHAT IT READS IS OF BULK AT MOST 1048576: true; the input reads as it did. -/
def topSameUptoRow : OpenClaim := { program := "yteindpciaceeeaagreat", sum := "285abe3637b81e9deb139348870d5916d98e8ce1f0798b09c015710e7e103571", func := "sherpa/sherpatop.TopSame", spec := "topSame", unfollowed := true, recurses := true, apart := false, narrowed := true }
def TopSameUptoSaid : Prop := topSameUptoRow.holds Tryz.pinned (OpenSpec.upto topSameSpec)

/-- 'sherpatop.TopCut', WHERE WHAT IT READS IS OF BULK AT MOST 1048576: true; the input reads as it did. -/
def topCutUptoRow : OpenClaim := { program := "yteindpciaceeeaagreat", sum := "285abe3637b81e9deb139348870d5916d98e8ce1f0798b09c015710e7e103571", func := "sherpa/sherpatop.TopCut", spec := "topCut", unfollowed := true, recurses := true, apart := false, narrowed := true }
def TopCutUptoSaid : Prop := topCutUptoRow.holds Tryz.pinned (OpenSpec.upto topCutSpec)

end Rows
end Go.Proofs.YteindpciaceeeaaGreat
