/-
A value of the arguments, opened.
-/
import Derived.Test.YtkofnmbkfaebcaaOpenG
import Derived.Test.YtkofnmbkfaebcaaOpenV
namespace Go.Proofs.Ytkofnmbkfaebcaa
open Go.RowKit Go.ChangeShapes Go.WideShapes Go.ChangeAt

section
variable {H : Type} {enc : TypeId × Value → H} {w : World} {base : Nat} {spare : Nat → Bool} {held : Bool} {r : Reach} {base2 : Nat} {v : Value} {d : DataW H} {ps : List MemPlace}
set_option maxRecDepth 20000 in
theorem openG_val (h : DataW.Trod enc Try.prog w base spare held 42 v d ps) (hv : Value.okWide Try.prog w r base2 42 v) :
    ∃ (ty m : Int) (a b : Nat) (s : ByteArray), v = .agg #[.int .u8 ty, .int .i64 m, .int .u64 a, .int .u64 b, .string s] ∧ (-9223372036854775808 ≤ m ∧ m < 9223372036854775808) ∧ a < 2 ^ 64 ∧ b < 2 ^ 64 ∧ s.size ≤ 9223372036854775807 := by
  obtain ⟨cs, rfl, _⟩ := okWide_struct Try.underlying42 hv
  obtain ⟨n, hn⟩ := h
  obtain ⟨ty, m, x, y, s, hr, hm, hx, hy, hs⟩ := open_Val hn
  exact ⟨ty, m, x, y, s, by rw [show cs = #[.int .u8 ty, .int .i64 m, .int .u64 x, .int .u64 y, .string s] from Array.toList_inj.1 hr], hm, hx, hy, hs⟩
end

end Go.Proofs.Ytkofnmbkfaebcaa
