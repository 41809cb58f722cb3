/-
Equality of two values of the document.
-/
import Derived.Test.YtkofnmbkfaebcaaVal
namespace Go.Proofs.Ytkofnmbkfaebcaa
open Go.RowKit

theorem toList_inj2 {s t : ByteArray} (h : s.toList = t.toList) : s = t := by
  have := str_beq s t
  rw [h, beq_self_eq_true] at this
  exact of_decide_eq_true this.symm
set_option maxRecDepth 20000 in
theorem eq_val2 (ty n : Int) (x y : Nat) (s : ByteArray) (w : World) :
    (binOp .eql 42 (.agg #[.int .u8 ty, .int .i64 n, .int .u64 x, .int .u64 y, .string s]) (.agg #[.int .u8 ty, .int .i64 n, .int .u64 x, .int .u64 y, .string s])).run Try.prog w = .ok (.bool true) w := by
  simp [go_sem]

end Go.Proofs.Ytkofnmbkfaebcaa
