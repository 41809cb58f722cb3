/-
A column's type and a version of the arguments, opened.
-/
import Derived.Test.YtmpnopjkpamhaaaOpenG
namespace Go.Proofs.Ytmpnopjkpamhaaa
open Go.RowKit Go.ChangeShapes Go.WideShapes Go.ChangeAt

theorem Try.flatPlaceG : flat Try.prog 4 28 = some [5, 5] := by kernel_rfl
section
variable {H : Type} {enc : TypeId × Value → H} {w : World} {base : Nat} {spare : Nat → Bool} {held : Bool} {r : Reach} {base2 : Nat} {v : Value} {d : DataW H} {ps : List MemPlace}
set_option maxRecDepth 20000 in
theorem openG_place (h : DataW.Trod enc Try.prog w base spare held 28 v d ps) (hv : Value.okWide Try.prog w r base2 28 v) :
    ∃ (k ty : Int), v = .agg #[.int .u8 k, .int .u8 ty] ∧ (0 ≤ k ∧ k < 256) ∧ (0 ≤ ty ∧ ty < 256) := by
  obtain ⟨cs, rfl, _⟩ := okWide_struct Try.underlying28 hv
  obtain ⟨n, hn⟩ := h
  have hl := flat_open 4 _ _ n _ _ Try.flatPlaceG hn
  obtain ⟨l, hcs⟩ : ∃ l, cs = List.toArray l := ⟨cs.toList, by simp⟩
  subst hcs
  have hl2 := hl
  simp only [Value.cells] at hl2
  match l, hl2 with
  | [c0, c1], ⟨l0, l1, _⟩ =>
    obtain ⟨k, rfl, h0⟩ := l0.int Try.underlying5
    obtain ⟨ty, rfl, h1⟩ := l1.int Try.underlying5
    exact ⟨k, ty, rfl, wfG_u8 h0, wfG_u8 h1⟩
end

end Go.Proofs.Ytmpnopjkpamhaaa
