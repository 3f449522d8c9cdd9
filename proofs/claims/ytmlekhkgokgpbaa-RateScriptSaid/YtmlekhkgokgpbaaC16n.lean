/- Layer 16: the sort of keys, laid off the kit's shelf. -/
import Derived.Test.YtmlekhkgokgpbaaC16m
import Derived.Shelf.SlSortCmp.NoneTotal
import Derived.Shelf.Lay
import Derived.Ground.SlsfProg
namespace Go.Proofs.Ytmlekhkgokgpbaa
open Go.Shelf Go.RowKit Go.Lib Go.Sort
 shelf_lay_g SlLaysF0.n6 Slsf 6 at Try 47 as Try.sortK16
end Go.Proofs.Ytmlekhkgokgpbaa
