/-
Values of the arguments, opened.
-/
import Derived.Test.YtkofnmbkfaebcaaBase
import Derived.Test.YtkofnmbkfaebcaaOpen
namespace Go.Proofs.Ytkofnmbkfaebcaa
open Go.RowKit Go.ChangeShapes Go.WideShapes Go.ChangeAt

theorem wfu64 {n : Int} (h : (Lit.int .u64 n).wf = true) : 0 ≤ n ∧ n < 2 ^ 64 := by
  simp [Lit.wf, IntKind.min, IntKind.max, IntKind.signed, IntKind.bits] at h; omega
theorem wfi64 {n : Int} (h : (Lit.int .i64 n).wf = true) : -9223372036854775808 ≤ n ∧ n < 9223372036854775808 := by
  simp [Lit.wf, IntKind.min, IntKind.max, IntKind.signed, IntKind.bits] at h; omega
theorem Try.flatVal : flat Try.prog 4 42 = some [5, 2, 40, 40, 9] := by kernel_rfl

section
variable {H : Type} {enc : TypeId × Value → H} {w : World} {base : Nat} {spare : Nat → Bool} {held : Bool}
theorem open_Val {n : Nat} {cs : List Value} {x : DataW H × List MemPlace} (h : DataW.trod enc Try.prog w base spare held n 42 cs = some x) : ∃ (ty m : Int) (a b : Nat) (s : ByteArray), cs = [.int .u8 ty, .int .i64 m, .int .u64 a, .int .u64 b, .string s] ∧ (-9223372036854775808 ≤ m ∧ m < 9223372036854775808) ∧ a < 2 ^ 64 ∧ b < 2 ^ 64 ∧ s.size ≤ 9223372036854775807 := by
  have hl := flat_open 4 _ _ n cs x Try.flatVal h
  match cs, hl with
  | [c0, c1, c2, c3, c4], ⟨l0, l1, l2, l3, l4, _⟩ =>
    obtain ⟨ty, rfl, h0⟩ := l0.int Try.underlying5
    obtain ⟨m, rfl, h1⟩ := l1.int Try.underlying2
    obtain ⟨a, rfl, h2⟩ := l2.int Try.underlying40
    obtain ⟨b, rfl, h3⟩ := l3.int Try.underlying40
    obtain ⟨s, rfl, h4⟩ := l4.string Try.underlying9
    obtain ⟨a, rfl⟩ := Int.eq_ofNat_of_zero_le (wfu64 h2).1
    obtain ⟨b, rfl⟩ := Int.eq_ofNat_of_zero_le (wfu64 h3).1
    exact ⟨ty, m, a, b, s, rfl, wfi64 h1, by have := (wfu64 h2).2; omega, by have := (wfu64 h3).2; omega, h4⟩
end

end Go.Proofs.Ytkofnmbkfaebcaa
