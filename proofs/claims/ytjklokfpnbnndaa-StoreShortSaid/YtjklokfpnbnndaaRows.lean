/-
  No cell of these rows narrows 'for every input' (looked for: loops, veiled, ifaces, maps, wideKeys, modest, calm, conditions, laid).
  DERIVED. THE GIVEN ROWS OF THIS SEAT. 11 by the template 'for every input the law returns true; each argument reads behind the call as it read before'; 0 by the template 'total and deterministic' (their statements: YtjklokfpnbnndaaTotals.lean).
  GIVEN WITH THE SEED: the statements are not yours to turn. If you find one false, say at which input.
  Laid BY PROGRAM, IN A SANDBOX (cutbox-rows.mjs): the forced cells as the released guide's own fill.sh prints them over the translation fcfee7e4f249dcfe… (all of the seat's roots in one cut). By AI agents, Wed Nov 11 2026. No macro, syntax, notation, axiom, sorry.
-/
import Derived.Test.YtjklokfpnbnndaaChecked
import GoSem.Claim
import GoSem.ClaimJoined
import GoSem.ClaimMapViews
import Derived.JoinedTies
import Derived.KernelRfl
namespace Go.Proofs.Ytjklokfpnbnndaa
/- THE CELL 'sum', in the pinned program and in every row, IS THE sha256 OF THE DUMP (.gsa) THAT YtjklokfpnbnndaaProg.lean LOADS. Nothing in Lean hashes anything: it is a label: what it is worth is what the hold of that sum in a sandbox is worth. -/
noncomputable def Try.pinned : Pinned := { name := "ytjklokfpnbnndaa", sum := "fcfee7e4f249dcfe29db1e944c049de2f485acbdb87bbafac168a3c73cb2e4f4", checked := Try.checked }
namespace Rows
def none {H : Type} : Left H := { results := [], args := [] }

/-- 'sherpalaw13.StoreGives': WHATEVER THE INPUT: true; the input reads as it did. -/
def storeGivesSpec : ChangeSpec := { name := "storeGives", fn := fun _ => fun
  | [d1, d2] => { results := [.lit (.bool true)], args := [d1, d2] }
  | _ => none }
def storeGivesRow : OpenClaim := { program := "ytjklokfpnbnndaa", sum := "fcfee7e4f249dcfe29db1e944c049de2f485acbdb87bbafac168a3c73cb2e4f4", func := "sherpa/sherpalaw13.StoreGives", spec := "storeGives", unfollowed := true, recurses := true, apart := false }
def StoreGivesSaid : Prop := storeGivesRow.holds Try.pinned (OpenSpec.ofChange storeGivesSpec)

/-- ITS FALSE NEIGHBOUR: 'it returns false'. Refute it at one input. -/
def storeGivesWrong : ChangeSpec := { name := "storeGives", fn := fun _ => fun
  | [d1, d2] => { results := [.lit (.bool false)], args := [d1, d2] }
  | _ => none }
def StoreGivesWrongFalsely : Prop := storeGivesRow.holds Try.pinned (OpenSpec.ofChange storeGivesWrong)

/-- 'sherpalaw13.StoreEnsures': WHATEVER THE INPUT: true; the input reads as it did. -/
def storeEnsuresSpec : ChangeSpec := { name := "storeEnsures", fn := fun _ => fun
  | [d1, d2, d3] => { results := [.lit (.bool true)], args := [d1, d2, d3] }
  | _ => none }
def storeEnsuresRow : OpenClaim := { program := "ytjklokfpnbnndaa", sum := "fcfee7e4f249dcfe29db1e944c049de2f485acbdb87bbafac168a3c73cb2e4f4", func := "sherpa/sherpalaw13.StoreEnsures", spec := "storeEnsures", unfollowed := true, recurses := true, apart := false }
def StoreEnsuresSaid : Prop := storeEnsuresRow.holds Try.pinned (OpenSpec.ofChange storeEnsuresSpec)

/-- ITS FALSE NEIGHBOUR: 'it returns false'. Refute it at one input. -/
def storeEnsuresWrong : ChangeSpec := { name := "storeEnsures", fn := fun _ => fun
  | [d1, d2, d3] => { results := [.lit (.bool false)], args := [d1, d2, d3] }
  | _ => none }
def StoreEnsuresWrongFalsely : Prop := storeEnsuresRow.holds Try.pinned (OpenSpec.ofChange storeEnsuresWrong)

/-- 'sherpalaw13.StoreSweeps': WHATEVER THE INPUT: true; the input reads as it did. -/
def storeSweepsSpec : ChangeSpec := { name := "storeSweeps", fn := fun _ => fun
  | [d1, d2, d3] => { results := [.lit (.bool true)], args := [d1, d2, d3] }
  | _ => none }
def storeSweepsRow : OpenClaim := { program := "ytjklokfpnbnndaa", sum := "fcfee7e4f249dcfe29db1e944c049de2f485acbdb87bbafac168a3c73cb2e4f4", func := "sherpa/sherpalaw13.StoreSweeps", spec := "storeSweeps", unfollowed := true, recurses := true, apart := false }
def StoreSweepsSaid : Prop := storeSweepsRow.holds Try.pinned (OpenSpec.ofChange storeSweepsSpec)

/-- ITS FALSE NEIGHBOUR: 'it returns false'. Refute it at one input. -/
def storeSweepsWrong : ChangeSpec := { name := "storeSweeps", fn := fun _ => fun
  | [d1, d2, d3] => { results := [.lit (.bool false)], args := [d1, d2, d3] }
  | _ => none }
def StoreSweepsWrongFalsely : Prop := storeSweepsRow.holds Try.pinned (OpenSpec.ofChange storeSweepsWrong)

/-- 'sherpalaw13.StoreHolds': WHATEVER THE INPUT: true; the input reads as it did. -/
def storeHoldsSpec : ChangeSpec := { name := "storeHolds", fn := fun _ => fun
  | [d1, d2] => { results := [.lit (.bool true)], args := [d1, d2] }
  | _ => none }
def storeHoldsRow : OpenClaim := { program := "ytjklokfpnbnndaa", sum := "fcfee7e4f249dcfe29db1e944c049de2f485acbdb87bbafac168a3c73cb2e4f4", func := "sherpa/sherpalaw13.StoreHolds", spec := "storeHolds", unfollowed := true, recurses := true, apart := false }
def StoreHoldsSaid : Prop := storeHoldsRow.holds Try.pinned (OpenSpec.ofChange storeHoldsSpec)

/-- ITS FALSE NEIGHBOUR: 'it returns false'. Refute it at one input. -/
def storeHoldsWrong : ChangeSpec := { name := "storeHolds", fn := fun _ => fun
  | [d1, d2] => { results := [.lit (.bool false)], args := [d1, d2] }
  | _ => none }
def StoreHoldsWrongFalsely : Prop := storeHoldsRow.holds Try.pinned (OpenSpec.ofChange storeHoldsWrong)

/-- 'sherpalaw13.StorePrepares': WHATEVER THE INPUT: true; the input reads as it did. -/
def storePreparesSpec : ChangeSpec := { name := "storePrepares", fn := fun _ => fun
  | [d1, d2, d3] => { results := [.lit (.bool true)], args := [d1, d2, d3] }
  | _ => none }
def storePreparesRow : OpenClaim := { program := "ytjklokfpnbnndaa", sum := "fcfee7e4f249dcfe29db1e944c049de2f485acbdb87bbafac168a3c73cb2e4f4", func := "sherpa/sherpalaw13.StorePrepares", spec := "storePrepares", unfollowed := true, recurses := true, apart := false }
def StorePreparesSaid : Prop := storePreparesRow.holds Try.pinned (OpenSpec.ofChange storePreparesSpec)

/-- ITS FALSE NEIGHBOUR: 'it returns false'. Refute it at one input. -/
def storePreparesWrong : ChangeSpec := { name := "storePrepares", fn := fun _ => fun
  | [d1, d2, d3] => { results := [.lit (.bool false)], args := [d1, d2, d3] }
  | _ => none }
def StorePreparesWrongFalsely : Prop := storePreparesRow.holds Try.pinned (OpenSpec.ofChange storePreparesWrong)

/-- 'sherpalaw13.StoreShort': WHATEVER THE INPUT: true; the input reads as it did. -/
def storeShortSpec : ChangeSpec := { name := "storeShort", fn := fun _ => fun
  | [d1, d2] => { results := [.lit (.bool true)], args := [d1, d2] }
  | _ => none }
def storeShortRow : OpenClaim := { program := "ytjklokfpnbnndaa", sum := "fcfee7e4f249dcfe29db1e944c049de2f485acbdb87bbafac168a3c73cb2e4f4", func := "sherpa/sherpalaw13.StoreShort", spec := "storeShort", unfollowed := true, recurses := true, apart := false }
def StoreShortSaid : Prop := storeShortRow.holds Try.pinned (OpenSpec.ofChange storeShortSpec)

/-- ITS FALSE NEIGHBOUR: 'it returns false'. Refute it at one input. -/
def storeShortWrong : ChangeSpec := { name := "storeShort", fn := fun _ => fun
  | [d1, d2] => { results := [.lit (.bool false)], args := [d1, d2] }
  | _ => none }
def StoreShortWrongFalsely : Prop := storeShortRow.holds Try.pinned (OpenSpec.ofChange storeShortWrong)

/-- 'sherpalaw14.RecordRaces': WHATEVER THE INPUT: true; the input reads as it did. -/
def recordRacesSpec : ChangeSpec := { name := "recordRaces", fn := fun _ => fun
  | [d1, d2, d3] => { results := [.lit (.bool true)], args := [d1, d2, d3] }
  | _ => none }
def recordRacesRow : OpenClaim := { program := "ytjklokfpnbnndaa", sum := "fcfee7e4f249dcfe29db1e944c049de2f485acbdb87bbafac168a3c73cb2e4f4", func := "sherpa/sherpalaw14.RecordRaces", spec := "recordRaces", unfollowed := true, recurses := true, apart := false }
def RecordRacesSaid : Prop := recordRacesRow.holds Try.pinned (OpenSpec.ofChange recordRacesSpec)

/-- ITS FALSE NEIGHBOUR: 'it returns false'. Refute it at one input. -/
def recordRacesWrong : ChangeSpec := { name := "recordRaces", fn := fun _ => fun
  | [d1, d2, d3] => { results := [.lit (.bool false)], args := [d1, d2, d3] }
  | _ => none }
def RecordRacesWrongFalsely : Prop := recordRacesRow.holds Try.pinned (OpenSpec.ofChange recordRacesWrong)

/-- 'sherpalaw14.RecordTells': WHATEVER THE INPUT: true; the input reads as it did. -/
def recordTellsSpec : ChangeSpec := { name := "recordTells", fn := fun _ => fun
  | [d1, d2, d3] => { results := [.lit (.bool true)], args := [d1, d2, d3] }
  | _ => none }
def recordTellsRow : OpenClaim := { program := "ytjklokfpnbnndaa", sum := "fcfee7e4f249dcfe29db1e944c049de2f485acbdb87bbafac168a3c73cb2e4f4", func := "sherpa/sherpalaw14.RecordTells", spec := "recordTells", unfollowed := true, recurses := true, apart := false }
def RecordTellsSaid : Prop := recordTellsRow.holds Try.pinned (OpenSpec.ofChange recordTellsSpec)

/-- ITS FALSE NEIGHBOUR: 'it returns false'. Refute it at one input. -/
def recordTellsWrong : ChangeSpec := { name := "recordTells", fn := fun _ => fun
  | [d1, d2, d3] => { results := [.lit (.bool false)], args := [d1, d2, d3] }
  | _ => none }
def RecordTellsWrongFalsely : Prop := recordTellsRow.holds Try.pinned (OpenSpec.ofChange recordTellsWrong)

/-- 'sherpalaw14.RecordAnnounces': WHATEVER THE INPUT: true; the input reads as it did. -/
def recordAnnouncesSpec : ChangeSpec := { name := "recordAnnounces", fn := fun _ => fun
  | [d1, d2, d3] => { results := [.lit (.bool true)], args := [d1, d2, d3] }
  | _ => none }
def recordAnnouncesRow : OpenClaim := { program := "ytjklokfpnbnndaa", sum := "fcfee7e4f249dcfe29db1e944c049de2f485acbdb87bbafac168a3c73cb2e4f4", func := "sherpa/sherpalaw14.RecordAnnounces", spec := "recordAnnounces", unfollowed := true, recurses := true, apart := false }
def RecordAnnouncesSaid : Prop := recordAnnouncesRow.holds Try.pinned (OpenSpec.ofChange recordAnnouncesSpec)

/-- ITS FALSE NEIGHBOUR: 'it returns false'. Refute it at one input. -/
def recordAnnouncesWrong : ChangeSpec := { name := "recordAnnounces", fn := fun _ => fun
  | [d1, d2, d3] => { results := [.lit (.bool false)], args := [d1, d2, d3] }
  | _ => none }
def RecordAnnouncesWrongFalsely : Prop := recordAnnouncesRow.holds Try.pinned (OpenSpec.ofChange recordAnnouncesWrong)

/-- 'sherpalaw14.RecordAsks': WHATEVER THE INPUT: true; the input reads as it did. -/
def recordAsksSpec : ChangeSpec := { name := "recordAsks", fn := fun _ => fun
  | [d1, d2] => { results := [.lit (.bool true)], args := [d1, d2] }
  | _ => none }
def recordAsksRow : OpenClaim := { program := "ytjklokfpnbnndaa", sum := "fcfee7e4f249dcfe29db1e944c049de2f485acbdb87bbafac168a3c73cb2e4f4", func := "sherpa/sherpalaw14.RecordAsks", spec := "recordAsks", unfollowed := true, recurses := true, apart := false }
def RecordAsksSaid : Prop := recordAsksRow.holds Try.pinned (OpenSpec.ofChange recordAsksSpec)

/-- ITS FALSE NEIGHBOUR: 'it returns false'. Refute it at one input. -/
def recordAsksWrong : ChangeSpec := { name := "recordAsks", fn := fun _ => fun
  | [d1, d2] => { results := [.lit (.bool false)], args := [d1, d2] }
  | _ => none }
def RecordAsksWrongFalsely : Prop := recordAsksRow.holds Try.pinned (OpenSpec.ofChange recordAsksWrong)

/-- 'sherpalaw14.RecordAll': WHATEVER THE INPUT: true; the input reads as it did. -/
def recordAllSpec : ChangeSpec := { name := "recordAll", fn := fun _ => fun
  | [d1, d2, d3] => { results := [.lit (.bool true)], args := [d1, d2, d3] }
  | _ => none }
def recordAllRow : OpenClaim := { program := "ytjklokfpnbnndaa", sum := "fcfee7e4f249dcfe29db1e944c049de2f485acbdb87bbafac168a3c73cb2e4f4", func := "sherpa/sherpalaw14.RecordAll", spec := "recordAll", unfollowed := true, recurses := true, apart := false }
def RecordAllSaid : Prop := recordAllRow.holds Try.pinned (OpenSpec.ofChange recordAllSpec)

/-- ITS FALSE NEIGHBOUR: 'it returns false'. Refute it at one input. -/
def recordAllWrong : ChangeSpec := { name := "recordAll", fn := fun _ => fun
  | [d1, d2, d3] => { results := [.lit (.bool false)], args := [d1, d2, d3] }
  | _ => none }
def RecordAllWrongFalsely : Prop := recordAllRow.holds Try.pinned (OpenSpec.ofChange recordAllWrong)

/- THE SECOND FORM. 'bulk': how many values and letters a reading holds, each counted each time it is reached (what is shared counts as often as it is met; a slice's spare places count too). A statement '..UptoSaid' is the law's where the arguments, and the package variables that the reading takes, are together of bulk at most 1048576: NARROWER than '..Said'. Prove '..Said' where nothing that the law and all that it calls make is longer than what came in: it says more and counts as full. Else prove '..UptoSaid'. A law counts once. -/
mutual
def uptoBulk {H : Type} : DataW H → Nat
  | .lit (.string bytes) => bytes.length + 1
  | .lit _ => 1
  | .nil => 1
  | .ptr d => uptoBulk d + 1
  | .slice elems spare => uptoBulkAll elems + uptoBulkAll spare + 1
  | .agg parts => uptoBulkAll parts + 1
  | .iface _ d => uptoBulk d + 1
  | .map entries => uptoBulkEntries entries + 1
  | .held _ => 1
def uptoBulkAll {H : Type} : List (DataW H) → Nat
  | [] => 0
  | d :: r => uptoBulk d + uptoBulkAll r
def uptoBulkEntries {H : Type} : List (Lit × DataW H) → Nat
  | [] => 0
  | x :: r => uptoBulkEntry x + uptoBulkEntries r
def uptoBulkEntry {H : Type} : Lit × DataW H → Nat
  | (.string bytes, d) => bytes.length + uptoBulk d + 1
  | (_, d) => uptoBulk d + 1
 end
def uptoSmall : (H : Type) → List (DataW H) → Bool := fun _ ds => decide (uptoBulkAll ds ≤ 1048576)
def OpenSpec.upto (s : _root_.Go.ChangeSpec) : _root_.Go.OpenSpec := { _root_.Go.OpenSpec.ofChange s with cond := some uptoSmall }

/-- 'sherpalaw13.StoreGives', WHERE WHAT IT READS IS OF BULK AT MOST 1048576: true; the input reads as it did. -/
def storeGivesUptoRow : OpenClaim := { program := "ytjklokfpnbnndaa", sum := "fcfee7e4f249dcfe29db1e944c049de2f485acbdb87bbafac168a3c73cb2e4f4", func := "sherpa/sherpalaw13.StoreGives", spec := "storeGives", unfollowed := true, recurses := true, apart := false, narrowed := true }
def StoreGivesUptoSaid : Prop := storeGivesUptoRow.holds Try.pinned (OpenSpec.upto storeGivesSpec)

/-- 'sherpalaw13.StoreEnsures', WHERE WHAT IT READS IS OF BULK AT MOST 1048576: true; the input reads as it did. -/
def storeEnsuresUptoRow : OpenClaim := { program := "ytjklokfpnbnndaa", sum := "fcfee7e4f249dcfe29db1e944c049de2f485acbdb87bbafac168a3c73cb2e4f4", func := "sherpa/sherpalaw13.StoreEnsures", spec := "storeEnsures", unfollowed := true, recurses := true, apart := false, narrowed := true }
def StoreEnsuresUptoSaid : Prop := storeEnsuresUptoRow.holds Try.pinned (OpenSpec.upto storeEnsuresSpec)

/-- 'sherpalaw13.StoreSweeps', WHERE WHAT IT READS IS OF BULK AT MOST 1048576: true; the input reads as it did. -/
def storeSweepsUptoRow : OpenClaim := { program := "ytjklokfpnbnndaa", sum := "fcfee7e4f249dcfe29db1e944c049de2f485acbdb87bbafac168a3c73cb2e4f4", func := "sherpa/sherpalaw13.StoreSweeps", spec := "storeSweeps", unfollowed := true, recurses := true, apart := false, narrowed := true }
def StoreSweepsUptoSaid : Prop := storeSweepsUptoRow.holds Try.pinned (OpenSpec.upto storeSweepsSpec)

/-- 'sherpalaw13.StoreHolds', WHERE WHAT IT READS IS OF BULK AT MOST 1048576: true; the input reads as it did. -/
def storeHoldsUptoRow : OpenClaim := { program := "ytjklokfpnbnndaa", sum := "fcfee7e4f249dcfe29db1e944c049de2f485acbdb87bbafac168a3c73cb2e4f4", func := "sherpa/sherpalaw13.StoreHolds", spec := "storeHolds", unfollowed := true, recurses := true, apart := false, narrowed := true }
def StoreHoldsUptoSaid : Prop := storeHoldsUptoRow.holds Try.pinned (OpenSpec.upto storeHoldsSpec)

/-- 'sherpalaw13.StorePrepares', WHERE WHAT IT READS IS OF BULK AT MOST 1048576: true; the input reads as it did. -/
def storePreparesUptoRow : OpenClaim := { program := "ytjklokfpnbnndaa", sum := "fcfee7e4f249dcfe29db1e944c049de2f485acbdb87bbafac168a3c73cb2e4f4", func := "sherpa/sherpalaw13.StorePrepares", spec := "storePrepares", unfollowed := true, recurses := true, apart := false, narrowed := true }
def StorePreparesUptoSaid : Prop := storePreparesUptoRow.holds Try.pinned (OpenSpec.upto storePreparesSpec)

/-- 'sherpalaw13.StoreShort', WHERE WHAT IT READS IS OF BULK AT MOST 1048576: true; the input reads as it did. -/
def storeShortUptoRow : OpenClaim := { program := "ytjklokfpnbnndaa", sum := "fcfee7e4f249dcfe29db1e944c049de2f485acbdb87bbafac168a3c73cb2e4f4", func := "sherpa/sherpalaw13.StoreShort", spec := "storeShort", unfollowed := true, recurses := true, apart := false, narrowed := true }
def StoreShortUptoSaid : Prop := storeShortUptoRow.holds Try.pinned (OpenSpec.upto storeShortSpec)

/-- 'sherpalaw14.RecordRaces', WHERE WHAT IT READS IS OF BULK AT MOST 1048576: true; the input reads as it did. -/
def recordRacesUptoRow : OpenClaim := { program := "ytjklokfpnbnndaa", sum := "fcfee7e4f249dcfe29db1e944c049de2f485acbdb87bbafac168a3c73cb2e4f4", func := "sherpa/sherpalaw14.RecordRaces", spec := "recordRaces", unfollowed := true, recurses := true, apart := false, narrowed := true }
def RecordRacesUptoSaid : Prop := recordRacesUptoRow.holds Try.pinned (OpenSpec.upto recordRacesSpec)

/-- 'sherpalaw14.RecordTells', WHERE WHAT IT READS IS OF BULK AT MOST 1048576: true; the input reads as it did. -/
def recordTellsUptoRow : OpenClaim := { program := "ytjklokfpnbnndaa", sum := "fcfee7e4f249dcfe29db1e944c049de2f485acbdb87bbafac168a3c73cb2e4f4", func := "sherpa/sherpalaw14.RecordTells", spec := "recordTells", unfollowed := true, recurses := true, apart := false, narrowed := true }
def RecordTellsUptoSaid : Prop := recordTellsUptoRow.holds Try.pinned (OpenSpec.upto recordTellsSpec)

/-- 'sherpalaw14.RecordAnnounces', WHERE WHAT IT READS IS OF BULK AT MOST 1048576: true; the input reads as it did. -/
def recordAnnouncesUptoRow : OpenClaim := { program := "ytjklokfpnbnndaa", sum := "fcfee7e4f249dcfe29db1e944c049de2f485acbdb87bbafac168a3c73cb2e4f4", func := "sherpa/sherpalaw14.RecordAnnounces", spec := "recordAnnounces", unfollowed := true, recurses := true, apart := false, narrowed := true }
def RecordAnnouncesUptoSaid : Prop := recordAnnouncesUptoRow.holds Try.pinned (OpenSpec.upto recordAnnouncesSpec)

/-- 'sherpalaw14.RecordAsks', WHERE WHAT IT READS IS OF BULK AT MOST 1048576: true; the input reads as it did. -/
def recordAsksUptoRow : OpenClaim := { program := "ytjklokfpnbnndaa", sum := "fcfee7e4f249dcfe29db1e944c049de2f485acbdb87bbafac168a3c73cb2e4f4", func := "sherpa/sherpalaw14.RecordAsks", spec := "recordAsks", unfollowed := true, recurses := true, apart := false, narrowed := true }
def RecordAsksUptoSaid : Prop := recordAsksUptoRow.holds Try.pinned (OpenSpec.upto recordAsksSpec)

/-- 'sherpalaw14.RecordAll', WHERE WHAT IT READS IS OF BULK AT MOST 1048576: true; the input reads as it did. -/
def recordAllUptoRow : OpenClaim := { program := "ytjklokfpnbnndaa", sum := "fcfee7e4f249dcfe29db1e944c049de2f485acbdb87bbafac168a3c73cb2e4f4", func := "sherpa/sherpalaw14.RecordAll", spec := "recordAll", unfollowed := true, recurses := true, apart := false, narrowed := true }
def RecordAllUptoSaid : Prop := recordAllUptoRow.holds Try.pinned (OpenSpec.upto recordAllSpec)

end Rows
end Go.Proofs.Ytjklokfpnbnndaa
