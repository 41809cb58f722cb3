/-
Appending a text, and appending bytes, at a step of a region that draws its order.
-/
import Derived.Test.YtihldginolbooaaGreatDoorP26
import Derived.Test.YtihldginolbooaaGreatDoorP34
namespace Go.Proofs.YtihldginolbooaaGreatDoor
open Go.RowKit

theorem Ext.conv {w w1 : World} (h : Ext w w1) (e : TypeId) (u : ByteArray) : Ext w (Go.Lib.bytesWorld w1 e u) := h.trans (ext_bytesWorld _ _ _)

end Go.Proofs.YtihldginolbooaaGreatDoor
