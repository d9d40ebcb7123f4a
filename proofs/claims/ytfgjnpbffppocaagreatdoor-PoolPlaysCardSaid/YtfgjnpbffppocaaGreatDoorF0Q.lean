/- A fact laid away. -/
import Derived.Lib.Hide
namespace Go.Proofs.YtfgjnpbffppocaaGreatDoor
open Go.RowKit
theorem jq{p:Prop}(h:p):Hid p := Lib.hid h
end Go.Proofs.YtfgjnpbffppocaaGreatDoor
