/- math/bits.Mul of small numbers.  -/
import Derived.Test.YtjnjoclpimcblaaDoorLib
import Derived.Shelf.Bits.Mul64
namespace Go.Proofs.YtjnjoclpimcblaaDoor
open Go.RowKit
set_option linter.unusedVariables false

end Go.Proofs.YtjnjoclpimcblaaDoor
