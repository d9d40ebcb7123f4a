/- A fact laid away. -/
import Derived.Lib.Hide
namespace Go.Proofs.YtndkohocgfmamaaGreatDoor
open Go.RowKit
theorem jq{p:Prop}(h:p):Hid p := Lib.hid h
end Go.Proofs.YtndkohocgfmamaaGreatDoor
