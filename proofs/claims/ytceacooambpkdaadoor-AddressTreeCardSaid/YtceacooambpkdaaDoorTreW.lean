/- AddressTree: two valid prefixes are disjoint or one covers the other, that halves divide a prefix, and that Common is the longest prefix of both addresses: for every input, with no condition. -/
import Derived.Test.YtceacooambpkdaaDoorParE
import Derived.Test.YtceacooambpkdaaDoorTreLaw
namespace Go.Proofs.YtceacooambpkdaaDoor
open Eng
theorem tree_holds : Rows.AddressTreeCardSaid := tree_of (awakeC Frm.nil)
end Go.Proofs.YtceacooambpkdaaDoor
