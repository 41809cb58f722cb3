/-
Readers, in plain words: runs of sevens; from no other bytes; cut anywhere too short.
-/
import Derived.Test.YtgmphpccpfaapaaGreatDoorP45
import Derived.Test.YtgmphpccpfaapaaGreatDoorP2
set_option maxRecDepth 100000
set_option maxHeartbeats 16000000
namespace Go.Proofs.YtgmphpccpfaapaaGreatDoor
open Go.RowKit
theorem OB.cap {w:World} {base g cap n:Nat} {l:List Int} (h:OB w base (.slice (some ⟨g,0,none⟩) n cap) l):n≤cap:=by
 rcases h.2 with ⟨hv,_⟩|⟨g',cap',cur,hv,_,_,hn,_⟩
 ·cases hv
 ·simp only [Value.slice.injEq] at hv
  obtain ⟨_,rfl,rfl⟩:=hv
  exact hn
end Go.Proofs.YtgmphpccpfaapaaGreatDoor
