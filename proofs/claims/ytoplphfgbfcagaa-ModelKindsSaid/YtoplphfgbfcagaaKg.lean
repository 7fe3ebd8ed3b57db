/-
slices.Grow of nothing: the shelf's contract, laid at this program.
Conditions: none.
-/
import Derived.Shelf.Spec.SlicesGrow
import Derived.Test.YtoplphfgbfcagaaProg
namespace Go.Proofs
open Go.Shelf
shelf_lay_g Lays8.n4 Nm8 4 at Try 37 as Try.growI
end Go.Proofs
