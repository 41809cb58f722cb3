import Derived.Test.YtodbhliidbclcaaGreatP10
set_option maxRecDepth 100000
set_option maxHeartbeats 16000000

namespace Go.Proofs.YtodbhliidbclcaaGreat
open Go.RowKit Go.Shelf
attribute [local go_sem] Oper.semAt_some
end Go.Proofs.YtodbhliidbclcaaGreat
namespace Go.Proofs.YtodbhliidbclcaaGreat
open Go.RowKit
open Go.RowKit Go.Shelf
attribute [local go_sem] Oper.semAt_some
theorem run_equalIn_func_nil {P:Program} (w:World) (d:Nat) (t:TypeId) (f:Fn) (xs ys:Array Value) {p:Array TypeId} {r:Array TypeId} {v:Bool} (h:P.underlying t=some (.func p r v)):(Op.equalIn (d+1) t (.func f xs ys) .nilFunc).run P w= .ok false w:=by
 simp [Op.equalIn,run_underlying h]
@[go_sem] theorem run_eql_func_nil {P:Program} (w:World) (t:TypeId) (f:Fn) (xs ys:Array Value) {p:Array TypeId} {r:Array TypeId} {v:Bool} (h:P.underlying t=some (.func p r v)):(binOp .eql t (.func f xs ys) .nilFunc).run P w= .ok (.bool false) w:=by
 have e:(Op.equal t (.func f xs ys) .nilFunc).run P w= .ok false w:=by
  exact run_equalIn_func_nil w 9999 t f xs ys h
 simp [binOp,e]
end Go.Proofs.YtodbhliidbclcaaGreat
namespace Go.Proofs.YtodbhliidbclcaaGreat
open Go.RowKit
theorem cget_is {N g:Nat} {c:Value} {ps:List RR} {o v:Int} {w:World} (hc:Ca w N g c ps) {x:Rl} (h:getR o v (ps.map RR.r)=some x):
 Calls Tryz.prog 52 #[.pointer (some ⟨g,0,none⟩), .agg #[.int .u32 o, .int .u32 v]] w fun e w' =>∃q:RR,e= .returned (.tuple #[.agg #[.int .u32 x.oid, .int .u32 x.ver, .string x.nm, .int .u8 x.id, .slice q.a x.cols.length q.c], .bool true])∧q.r=x∧q.owned w.heap.size w'∧Ext w w' :=by
 refine (cget_any N g c ps o v w hc).mono fun e w' hq=> ?_
 obtain ⟨q,h1,h2,h3,h4⟩:=hq
 have hh:hasR o v (ps.map RR.r)=true:=by
  cases e2:hasR o v (ps.map RR.r) with
  |true=>rfl
  |false=>rw [getR_none.2 e2] at h;cases h
 have hg:(getP o v ps).map RR.r=some x:=(getP_map o v ps).trans h
 obtain ⟨p,hp,hpx⟩:=Option.map_eq_some_iff.1 hg
 rw [hp,Option.getD_some,hpx] at h2
 refine ⟨q, ?_,h2,h3,h4⟩
 rw [h1,hh]
 unfold RR.agg
 rw [h2]
end Go.Proofs.YtodbhliidbclcaaGreat
