import Derived.Test.YtodbhliidbclcaaGreatP25
set_option maxRecDepth 100000
set_option maxHeartbeats 16000000

namespace Go.Proofs.YtodbhliidbclcaaGreat
open Go.RowKit
structure RCat (ps:List RR):Prop where
 ok:CatOk (ps.map RR.r)
 wb:∀p∈ps,p.r.wb
theorem RCat.n16 {ps:List RR} (h:RCat ps) {p:RR} (hp:p∈ps):p.r.cols.length≤16:=Rl.cols_le (h.ok.right _ (List.mem_map_of_mem hp))
end Go.Proofs.YtodbhliidbclcaaGreat
