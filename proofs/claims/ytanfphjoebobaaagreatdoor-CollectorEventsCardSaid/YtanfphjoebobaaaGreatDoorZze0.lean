/- Short names for values. No conditions. -/
import Derived.Lib.Hide
import Derived.WalkKit
namespace Go.Proofs.YtanfphjoebobaaaGreatDoor
theorem au {p:Prop} (h:p):RowKit.Hid p:=h
abbrev ah (x:Int):Value:=.int .i64 x
abbrev aj (b:Nat):Value:=.pointer (some ⟨b,0,none⟩)
end Go.Proofs.YtanfphjoebobaaaGreatDoor
