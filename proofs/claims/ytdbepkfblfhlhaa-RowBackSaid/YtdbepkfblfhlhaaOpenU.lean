/-
A version, bytes and a place of the arguments, opened.
-/
import Derived.Test.YtdbepkfblfhlhaaP16
namespace Go.Proofs.Ytdbepkfblfhlhaa
open Go.RowKit Go.ChangeShapes Go.WideShapes Go.ChangeAt

theorem Try.flatCutG : flat Try.prog 4 118 = some [5, 80, 116] := by kernel_rfl
section
variable {H : Type} {enc : TypeId × Value → H} {w : World} {base : Nat} {spare : Nat → Bool} {held : Bool} {r : Reach} {base2 : Nat} {v : Value} {d : DataW H} {ps : List MemPlace}
theorem Lf.bytes {c : Value} (h : Lf enc Try.prog w base spare held 80 c) : ∃ (l : List Int) (a : Option Addr) (cap : Nat), c = .slice a l.length cap ∧ Sl w (.slice a l.length cap) 1 (l.map bcell) ∧ l.length ≤ 9223372036854775807 ∧ isB l := by
  obtain ⟨m, x, h4⟩ := h
  obtain ⟨v', xss, hcs, hsl, hlen, hx⟩ := trod_sl Try.underlying80 Try.cellsU8 (by decide) h4
  obtain rfl : c = v' := by simpa using hcs
  obtain ⟨l, rfl, hl⟩ := exists_map (f := bcell) (p := fun x => 0 ≤ x ∧ x < 256) xss (fun xs hxs => by
    obtain ⟨_, n, x, h⟩ := hx xs hxs
    have hl := flat_open 4 _ _ n xs x Try.flatU8 h
    match xs, hl with
    | [c0], ⟨l0, _⟩ =>
      obtain ⟨ty, rfl, h0⟩ := l0.int Try.underlying5
      exact ⟨ty, rfl, wfG_u8 h0⟩)
  obtain ⟨a, cap, rfl, hshape⟩ := hsl.shape (n := l.length) (by simp)
  exact ⟨l, a, cap, rfl, hsl, by simpa using hlen, hl⟩
set_option maxRecDepth 20000 in
theorem openG_cut (h : DataW.Trod enc Try.prog w base spare held 118 v d ps) (hv : Value.okWide Try.prog w r base2 118 v) :
    ∃ (vr : Int) (lb : List Int) (ab : Option Addr) (cb : Nat) (at0 : Int), v = .agg #[.int .u8 vr, .slice ab lb.length cb, .int .u16 at0] ∧ (0 ≤ vr ∧ vr < 256) ∧ Sl w (.slice ab lb.length cb) 1 (lb.map bcell) ∧ lb.length ≤ 9223372036854775807 ∧ isB lb ∧ (0 ≤ at0 ∧ at0 < 65536) := by
  obtain ⟨cs, rfl, _⟩ := okWide_struct Try.underlying118 hv
  obtain ⟨n, hn⟩ := h
  have hl := flat_open 4 _ _ n _ _ Try.flatCutG hn
  have hl' : Lfs enc Try.prog w base spare held [5, 80, 116] cs.toList := hl
  obtain ⟨cl, hcl2⟩ : ∃ cl, cs.toList = cl := ⟨_, rfl⟩
  rw [hcl2] at hl'
  match cl, hl' with
  | [c0, c1, c2], ⟨l0, l1, l2, _⟩ =>
    obtain ⟨vr, rfl, h0⟩ := l0.int Try.underlying5
    obtain ⟨lb, ab, cb, rfl, b1, b2, b3⟩ := l1.bytes
    obtain ⟨at0, rfl, h2⟩ := l2.int Try.underlying116
    have e : cs = #[.int .u8 vr, .slice ab lb.length cb, .int .u16 at0] := Array.toList_inj.1 hcl2
    exact ⟨vr, lb, ab, cb, at0, by rw [e], wfG_u8 h0, b1, b2, b3, wfG_u16 h2⟩
end

end Go.Proofs.Ytdbepkfblfhlhaa
