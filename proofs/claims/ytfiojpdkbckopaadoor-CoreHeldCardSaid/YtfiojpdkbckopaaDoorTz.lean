/-
  math/bits.TrailingZeros32 in this program: the kit's arithmetic (Lib.ctz), the table in its variable.
-/
import Derived.Test.YtfiojpdkbckopaaDoorProg
import Derived.Test.YtfiojpdkbckopaaDoorJ55314620
import Derived.Shelf.Spec.TrailingZeros
set_option linter.unusedSimpArgs false
set_option linter.unusedVariables false
namespace Go.Proofs.YtfiojpdkbckopaaDoor
open Go.RowKit

namespace Otp
end Otp
end Go.Proofs.YtfiojpdkbckopaaDoor
