/- Ytkfemiloehkmhaa: a text of our own, by an AI agent: Sr1H -/
import Derived.Test.YtkfemiloehkmhaaProg
import Derived.Shelf.Sort.Plain
import Derived.Shelf.Slices.In.SortNone
import Derived.Sort.OwnSortedInts
import Derived.Shelf.Lay
namespace Go.Proofs
open Go Go.RowKit Go.Shelf
shelf_lay Lays.n189 Nm 189 at Try as Try.lSort
#check @Try.lSort
end Go.Proofs
