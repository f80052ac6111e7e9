/- The small-heap evaluator, part 0: the comparisons it never looks into. -/
import Derived.Orders
set_option linter.all false
namespace Go.Sh
open Go
def ilt (a b : Int) : Bool := decide (a < b)
def ile (a b : Int) : Bool := decide (a ≤ b)
def ieq (a b : Int) : Bool := a == b
def seq (a b : ByteArray) : Bool := a.toList == b.toList
theorem ilt_eq (a b : Int) : ilt a b = decide (a < b) := rfl
theorem ile_eq (a b : Int) : ile a b = decide (a ≤ b) := rfl
theorem ieq_eq (a b : Int) : ieq a b = (a == b) := rfl
theorem seq_eq (a b : ByteArray) : seq a b = (a.toList == b.toList) := rfl
end Go.Sh
