/- The stable sort's insertion sort at both element types: laid from the library. -/
import Derived.Test.YtcmgfmpmapnckaaReg
import Derived.Shelf.SlSortCmp.KitK
import Derived.Shelf.Lay
import Derived.Ground.SlsfProg
namespace Go.Proofs.Ytcmgfmpmapnckaa
open Go.Shelf Go.RowKit Go.Lib Go.Sort
set_option linter.unusedVariables false
set_option linter.unusedSimpArgs false
shelf_lay_g SlLaysF0.n20 Slsf 20 at Try 142 as Try.insP
shelf_lay_g SlLaysF0.n20 Slsf 20 at Try 132 as Try.insG
end Go.Proofs.Ytcmgfmpmapnckaa
