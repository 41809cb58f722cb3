/-
Cells and lists of cells of the arguments, opened.
-/
import Derived.Test.YtkofnmbkfaebcaaTells
import Derived.Test.YtkofnmbkfaebcaaOpen
namespace Go.Proofs.Ytkofnmbkfaebcaa
open Go.RowKit Go.ChangeShapes Go.WideShapes Go.ChangeAt

theorem Try.own : ownKnob Try.prog.godebug = none := by kernel_rfl
theorem Try.laidOut : laidOutB Try.prog = true := by kernel_rfl
theorem Try.flatR : flat Try.prog 4 51 = some [5, 5, 2, 40, 40, 9] := by kernel_rfl
theorem Try.cellsR : Try.prog.cellsOf 51 = 6 := by kernel_rfl

theorem wf_u8 {n : Int} (h : (Lit.int .u8 n).wf = true) : 0 ≤ n ∧ n ≤ 255 := by
  simp [Lit.wf, IntKind.min, IntKind.max, IntKind.signed, IntKind.bits] at h; omega
theorem wf_u64 {n : Int} (h : (Lit.int .u64 n).wf = true) : 0 ≤ n ∧ n < 2 ^ 64 := by
  simp [Lit.wf, IntKind.min, IntKind.max, IntKind.signed, IntKind.bits] at h; omega
theorem wf_i64 {n : Int} (h : (Lit.int .i64 n).wf = true) : wrap64 n = n := by
  simp [Lit.wf, IntKind.min, IntKind.max, IntKind.signed, IntKind.bits] at h; unfold wrap64; omega

section
variable {H : Type} {enc : TypeId × Value → H} {w : World} {base : Nat} {spare : Nat → Bool} {held : Bool}
/-- A cell of the document, opened. -/
theorem open_R {n : Nat} {cs : List Value} {x : DataW H × List MemPlace} (h : DataW.trod enc Try.prog w base spare held n 51 cs = some x) : ∃ r : R, cs = r.cells ∧ r.tw := by
  have hl := flat_open 4 _ _ n cs x Try.flatR h
  match cs, hl with
  | [c0, c1, c2, c3, c4, c5], ⟨l0, l1, l2, l3, l4, l5, _⟩ =>
    obtain ⟨k, rfl, h0⟩ := l0.int Try.underlying5
    obtain ⟨ty, rfl, h1⟩ := l1.int Try.underlying5
    obtain ⟨m, rfl, h2⟩ := l2.int Try.underlying2
    obtain ⟨a, rfl, h3⟩ := l3.int Try.underlying40
    obtain ⟨b, rfl, h4⟩ := l4.int Try.underlying40
    obtain ⟨s, rfl, h5⟩ := l5.string Try.underlying9
    exact ⟨⟨k, ty, m, a, b, s⟩, rfl, (wf_u8 h0).1, wf_u64 h3, wf_u64 h4, wf_i64 h2, h5⟩

/-- A list of cells of the document, opened. -/
theorem open_Rs {v : Value} {d : DataW H} {ps : List MemPlace} (h : DataW.Trod enc Try.prog w base spare held 49 v d ps) (hv : ∃ a len cap, v = .slice a len cap) : ∃ l : List R, Sl w v 6 (l.map R.cells) ∧ l.length ≤ 9223372036854775807 ∧ ∀ r ∈ l, r.tw := by
  obtain ⟨n, hn⟩ := h
  obtain ⟨a, len, cap, rfl⟩ := hv
  obtain ⟨v', xss, hcs, hsl, hlen, hx⟩ := trod_sl Try.underlying49 Try.cellsR (by decide) hn
  have e : v' = .slice a len cap := by simpa [Value.cells] using hcs.symm
  obtain ⟨l, rfl, hl⟩ := exists_map (f := R.cells) (p := R.tw) xss (fun xs hxs => by
    obtain ⟨_, n, x, h⟩ := hx xs hxs
    exact open_R h)
  rw [e] at hsl
  exact ⟨l, hsl, by simpa using hlen, hl⟩
end


end Go.Proofs.Ytkofnmbkfaebcaa
