/-
Taking a value, in plain words; what is put is taken as it was, and from no other bytes; cut anywhere it is too short.
-/
import Derived.Deep.CutBlock
import Derived.Deep.AppendLies
import Derived.Test.YtgmphpccpfaapaaGreatDoorP44
import Derived.Test.YtgmphpccpfaapaaGreatDoorP1
import Derived.Test.YtgmphpccpfaapaaGreatDoorP36
import Derived.Test.YtgmphpccpfaapaaGreatDoorP4
import Derived.Test.YtgmphpccpfaapaaGreatDoorP2
set_option maxRecDepth 100000
set_option maxHeartbeats 16000000
namespace Go.Proofs.YtgmphpccpfaapaaGreatDoor
open Go.RowKit
def V.put (v:V) (ver:Int):List Int:=putL v.ty v.n v.x v.y v.s ver
theorem Tch.trans' {g:Nat} {a b c:World} (h:Tch g a b) (k:Below a.heap.size b c):Tch g a c:=
 ⟨k.os.trans h.os,k.tape.trans h.tape,k.output.trans h.output,Nat.le_trans h.size k.size,fun i hi hg=>(k.block i hi).trans (h.block i hi hg)⟩
theorem Tch.setNew {g h:Nat} {w w' :World} (ht:Tch g w w') (hh:w.heap.size≤h) (i:Nat) (v:Value):Tch g w (w'.setCell ⟨h,i,none⟩ v):=
 ht.trans' ⟨rfl,rfl,rfl,by simp [World.setCell],fun k hk=>Below.heap_setCell _ _ _ _ (by simp;omega)⟩
end Go.Proofs.YtgmphpccpfaapaaGreatDoor
