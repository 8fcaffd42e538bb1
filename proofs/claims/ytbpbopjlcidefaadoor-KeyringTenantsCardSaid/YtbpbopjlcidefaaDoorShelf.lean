/-
  The library contracts of this seat, in plain words: written by the kit's lay-shelf.mjs and lay-plain.mjs, cut down to what is used.
-/
import Derived.Shelf.Strconv.Itoa0
import Derived.Shelf.Strconv.Itoa1
import Derived.Shelf.LaysM
import Derived.Shelf.Strconv.Itoa2
import Derived.Shelf.Strconv.Itoa3
import Derived.Shelf.Sort.Plain
import Derived.Shelf.Slices.In.SortNone
import Derived.Test.YtbpbopjlcidefaaDoorProg
namespace Go.Proofs
open Go.Shelf
end Go.Proofs
