/- The shelf's contracts for strings at this program's numbers. -/
import Derived.Test.YtklcceccadlgkaaDoorProg
import Derived.WalkKit
import Derived.Ground.NamesProg
import Derived.Ground.GgwProg
import Derived.Shelf.Lay
import Derived.Shelf.Strings.SlTrimAscii
import Derived.Shelf.Strings.FuncGrows
import Derived.Shelf.Small.Wraps
import Derived.Shelf.Strings.OnBuilder
import Derived.Shelf.Strings.Search3
namespace Go.Proofs
open Go.Shelf
shelf_lay Lays.n160 Nm 160 at Tryd as Tryd.lays160
shelf_lay Lays.n103 Nm 103 at Tryd as Tryd.lays103
shelf_lay Lays.n150 Nm 150 at Tryd as Tryd.lays150
shelf_lay LaysGw.n17 Ggw 17 at Tryd as Tryd.lays17
shelf_lay Lays.n143 Nm 143 at Tryd as Tryd.lays143
end Go.Proofs
