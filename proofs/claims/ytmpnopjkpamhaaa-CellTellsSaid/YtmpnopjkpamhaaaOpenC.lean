/-
Cells of the arguments, opened.
-/
import Derived.Test.YtmpnopjkpamhaaaOpenG
namespace Go.Proofs.Ytmpnopjkpamhaaa
open Go.RowKit Go.ChangeShapes Go.WideShapes Go.ChangeAt

theorem Try.flatCellG : flat Try.prog 4 26 = some [5, 5, 2, 22, 22, 9] := by kernel_rfl
section
variable {H : Type} {enc : TypeId × Value → H} {w : World} {base : Nat} {spare : Nat → Bool} {held : Bool} {r : Reach} {base2 : Nat} {v : Value} {d : DataW H} {ps : List MemPlace}
set_option maxRecDepth 20000 in
theorem openC_list {n : Nat} {cs : List Value} {x : DataW H × List MemPlace} (h : DataW.trod enc Try.prog w base spare held n 26 cs = some x) :
    ∃ (k ty m : Int) (a b : Nat) (s : ByteArray), cs = [.int .u8 k, .int .u8 ty, .int .i64 m, .int .u64 a, .int .u64 b, .string s] ∧ (0 ≤ k ∧ k < 256) ∧ (0 ≤ ty ∧ ty < 256) ∧ (-9223372036854775808 ≤ m ∧ m < 9223372036854775808) ∧ a < 2 ^ 64 ∧ b < 2 ^ 64 ∧ s.size ≤ 9223372036854775807 := by
  have hl := flat_open 4 _ _ n cs x Try.flatCellG h
  match cs, hl with
  | [c0, c1, c2, c3, c4, c5], ⟨l0, l1, l2, l3, l4, l5, _⟩ =>
    obtain ⟨k, rfl, h0⟩ := l0.int Try.underlying5
    obtain ⟨ty, rfl, h1⟩ := l1.int Try.underlying5
    obtain ⟨m, rfl, h2⟩ := l2.int Try.underlying2
    obtain ⟨a, rfl, h3⟩ := l3.int Try.underlying22
    obtain ⟨b, rfl, h4⟩ := l4.int Try.underlying22
    obtain ⟨s, rfl, h5⟩ := l5.string Try.underlying9
    obtain ⟨a, rfl⟩ := Int.eq_ofNat_of_zero_le (wfG_u64 h3).1
    obtain ⟨b, rfl⟩ := Int.eq_ofNat_of_zero_le (wfG_u64 h4).1
    exact ⟨k, ty, m, a, b, s, rfl, wfG_u8 h0, wfG_u8 h1, wfG_i64 h2, by have := (wfG_u64 h3).2; omega, by have := (wfG_u64 h4).2; omega, h5⟩
set_option maxRecDepth 20000 in
theorem openG_cell (h : DataW.Trod enc Try.prog w base spare held 26 v d ps) (hv : Value.okWide Try.prog w r base2 26 v) :
    ∃ (k ty m : Int) (a b : Nat) (s : ByteArray), v = .agg #[.int .u8 k, .int .u8 ty, .int .i64 m, .int .u64 a, .int .u64 b, .string s] ∧ (0 ≤ k ∧ k < 256) ∧ (0 ≤ ty ∧ ty < 256) ∧ (-9223372036854775808 ≤ m ∧ m < 9223372036854775808) ∧ a < 2 ^ 64 ∧ b < 2 ^ 64 ∧ s.size ≤ 9223372036854775807 := by
  obtain ⟨cs, rfl, _⟩ := okWide_struct Try.underlying26 hv
  obtain ⟨n, hn⟩ := h
  obtain ⟨k, ty, m, x, y, s, hr, h0, h1, hm, hx, hy, hs⟩ := openC_list hn
  exact ⟨k, ty, m, x, y, s, by rw [show cs = #[.int .u8 k, .int .u8 ty, .int .i64 m, .int .u64 x, .int .u64 y, .string s] from Array.toList_inj.1 hr], h0, h1, hm, hx, hy, hs⟩
end

end Go.Proofs.Ytmpnopjkpamhaaa
