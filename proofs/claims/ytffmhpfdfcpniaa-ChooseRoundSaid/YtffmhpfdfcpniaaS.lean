/- The library's slices at this program: the shelf's contracts, laid. -/
import Derived.Shelf.Lay
import Derived.Shelf.LaySoft
import Derived.Shelf.Small.Bits
import Derived.Shelf.SlicesE.IndexFunc
import Derived.Shelf.SlicesE.DeleteFunc
import Derived.Shelf.SlSortCmp.NoneTotal
import Derived.Shelf.SlicesG.Cmp
import Derived.Ground.SlgfProg
import Derived.Ground.SlsfProg
import Derived.Ground.SlgcProg
import Derived.Test.YtffmhpfdfcpniaaProg
namespace Go.Proofs
open Go.Shelf
shelf_lay_g SlLaysH.n8 Slgf 8 at Try 43 as Try.layContains
shelf_lay_g SlLaysH.n10 Slgf 10 at Try 35 as Try.layDelete
shelf_lay_g SlLaysF.n6 Slsf 6 at Try 31 as Try.laySort
shelf_lay_g SlLaysC2.n5 Slgc 5 at Try 34 as Try.layCompare
end Go.Proofs
