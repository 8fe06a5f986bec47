import Derived.Shelf.Lay
import Derived.Shelf.LaySoft

import Derived.Test.YtbpagdgbehefkaaProg
namespace Go.Proofs
open Go.Shelf
shelf_tried
end Go.Proofs
