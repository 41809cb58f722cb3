/-
The laws' Back of a value; a value against itself.
-/
import Derived.Test.YtmpnopjkpamhaaaTake
namespace Go.Proofs.Ytmpnopjkpamhaaa
open Go.RowKit

set_option maxRecDepth 100000 in set_option maxHeartbeats 1600000 in
theorem vback_any (ty n : Int) (x y : Nat) (s : ByteArray) (w : World) :
    Calls Try.prog 40 #[.agg #[.int .u8 ty, .int .i64 n, .complex .f64 x y, .string s]] w fun e w' =>
      e = .returned (.agg #[.int .u8 ty, .int .i64 n, .int .u64 x, .int .u64 y, .string s]) ∧ Ext w w' := by
  go_enter Try.func40, Try.ntmps40
  go_wp2_with (go_at_call 47; refine (vbits_any x y _).mono ?_; rintro e w1 ⟨rfl, rfl⟩)
  refine bodyPost_ret (v := .agg #[.int .u8 ty, .int .i64 n, .int .u64 x, .int .u64 y, .string s]) (by simp [results, Try.results40, go_sem]) rfl ⟨rfl, by (repeat (with_reducible (first | exact Ext.refl _ | assumption | exact held_left (by assumption) | apply Ext.drewN | apply Ext.drew | apply Ext.alloc | (refine Ext.setCell ?_ (by first | (simp; done) | (simp; omega) | omega) _) | (refine Ext.trans ?_ (by assumption)) | (refine Ext.trans ?_ (held_left (by assumption))))))⟩

set_option maxRecDepth 20000 in
theorem neq_val (ty n : Int) (x y : Nat) (s : ByteArray) (w : World) :
    (binOp .neq 24 (.agg #[.int .u8 ty, .int .i64 n, .int .u64 x, .int .u64 y, .string s]) (.agg #[.int .u8 ty, .int .i64 n, .int .u64 x, .int .u64 y, .string s])).run Try.prog w = .ok (.bool false) w := by
  simp [go_sem]

end Go.Proofs.Ytmpnopjkpamhaaa
