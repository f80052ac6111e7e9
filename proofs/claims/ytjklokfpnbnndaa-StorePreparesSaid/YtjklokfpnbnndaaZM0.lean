/- The shared memory: its state, as the contracts tell it. -/
import Derived.Test.YtjklokfpnbnndaaRows
import Derived.IntWalk
import Derived.Test.YtjklokfpnbnndaaZSh19
set_option linter.all false
set_option linter.unusedVariables false
set_option linter.unusedSectionVars false
namespace Go.Sh
open Go Go.Proofs
variable [Con]
abbrev W (x : Int) : Int := IntKind.wrap IntKind.i64 x
abbrev WU (x : Int) : Int := IntKind.wrap IntKind.u64 x
theorem W_in {x : Int} (h : -9223372036854775808 ≤ x ∧ x ≤ 9223372036854775807) : IntKind.wrap IntKind.i64 x = x := IntWalk.i64_in x h

/-- memory: how many threads and nodes, the words, how many actions, the last one -/
structure MS where
  t : Int
  n : Int
  xs : List Int
  c : Int
  k : Int
  a : Int
  o : Int
  w : Int
  ok : Bool
def memH (s : MS) : Heap Unit := [some (.cells [.int .i64 s.t, .int .i64 s.n, .slice 1 0 s.xs.length 1, .int .i64 s.c, .int .i64 s.k, .int .i64 s.a, .int .u64 s.o, .int .u64 s.w, .bool s.ok]), some (.ints (some .u64) s.xs)]

noncomputable def E0 : Env Unit Try.prog where
  I := fun _ _ _ => False
  cps := fun _ => none
  det := fun _ => none
  meth := methOf Try.prog
  cpsOk := by intro f S h; cases h
  detOk := by intro f S h; cases h
  methOk := fun t n f h v w _ => methOf_run h v w
end Go.Sh
