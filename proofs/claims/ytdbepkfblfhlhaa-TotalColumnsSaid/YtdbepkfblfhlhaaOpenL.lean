/-
Rows of rows of the arguments, opened.
-/
import Derived.Test.YtdbepkfblfhlhaaP16
import Derived.Test.YtdbepkfblfhlhaaCols
namespace Go.Proofs.Ytdbepkfblfhlhaa
open Go.RowKit Go.ChangeShapes Go.WideShapes Go.ChangeAt

theorem Try.cellsRowG : Try.prog.cellsOf 31 = 1 := by kernel_rfl
section
variable {H : Type} {enc : TypeId × Value → H} {w : World} {base : Nat} {spare : Nat → Bool} {held : Bool} {r : Reach} {base2 : Nat} {v : Value} {d : DataW H} {ps : List MemPlace}
set_option maxRecDepth 20000 in
theorem openG_rows (h : DataW.Trod enc Try.prog w base spare held 28 v d ps) (hv : Value.okWide Try.prog w r base2 28 v) :
    ∃ (l : List PR) (a : Option Addr) (cap : Nat), v = .slice a l.length cap ∧ Sl w (.slice a l.length cap) 1 (l.map PR.cell) ∧ l.length ≤ 9223372036854775807 ∧ ∀ p ∈ l, Sl w (.slice p.a p.l.length p.c) 6 (p.l.map K.rc) ∧ p.l.length ≤ 9223372036854775807 ∧ ∀ c ∈ p.l, c.tw := by
  obtain ⟨l, hsl, hl, hx⟩ := openG_slice (f := PR.cell) (p := fun p => Sl w (.slice p.a p.l.length p.c) 6 (p.l.map K.rc) ∧ p.l.length ≤ 9223372036854775807 ∧ ∀ c ∈ p.l, c.tw) Try.underlying28 Try.cellsRowG (by decide) (fun n xs x hx => by
    obtain ⟨v', xss, hcs, hsl, hlen, hx⟩ := trod_sl Try.underlying31 Try.cellsCellG (by decide) hx
    obtain ⟨l, rfl, hl⟩ := exists_map (f := K.rc) (p := K.tw) xss (fun xs hxs => by
      obtain ⟨_, n, x, h⟩ := hx xs hxs
      obtain ⟨k, ty, m, a, b, s, rfl, hk, ht, hm, hx, hy, hs⟩ := openC_list h
      exact ⟨⟨k, ⟨ty, m, a, b, s⟩⟩, rfl, ⟨⟨hk.1, hs⟩, hm, hx, hy⟩⟩)
    obtain ⟨a, cap, rfl, hshape⟩ := hsl.shape (n := l.length) (by simp)
    exact ⟨⟨l, a, cap⟩, hcs, hsl, by simpa using hlen, hl⟩) h hv
  obtain ⟨a, cap, rfl, hshape⟩ := hsl.shape (n := l.length) (by simp)
  exact ⟨l, a, cap, rfl, hsl, hl, hx⟩
end

end Go.Proofs.Ytdbepkfblfhlhaa
