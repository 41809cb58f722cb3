/-
Events and transactions of the arguments, opened.
-/
import Derived.Test.YtjnafppkbhldlaaGreatP25
set_option maxRecDepth 100000
set_option maxHeartbeats 16000000
namespace Go.Proofs.YtjnafppkbhldlaaGreat
open Go.RowKit Go.ChangeShapes Go.WideShapes Go.ChangeAt
theorem Tryz.flatEv13 : flat Tryz.prog 4 111 = some [5, 42, 42, 5, 73, 73, 109, 5] := by kernel_rfl
section
variable {H : Type} {enc : TypeId × Value → H} {w : World} {base : Nat} {spare : Nat → Bool} {held : Bool} {r : Reach} {base2 : Nat} {v : Value} {d : DataW H} {ps : List MemPlace}
theorem EL.agg_of {cs : Array Value} {p : EL} (h : cs.toList = p.vals) : Value.agg cs = p.agg := by
  unfold EL.agg
  rw [show cs = #[.int .u8 p.e.kind, .int .u32 p.e.ao, .int .u32 p.e.av, .int .u8 p.e.old, .slice p.ba p.e.b.length p.bc, .slice p.aa p.e.a.length p.ac, .slice p.ra p.e.rs.length p.rc, .int .u8 p.e.fl] from Array.toList_inj.1 h]
end
end Go.Proofs.YtjnafppkbhldlaaGreat
namespace Go.Proofs.YtjnafppkbhldlaaGreat
open Go.RowKit Go.ChangeShapes Go.WideShapes Go.ChangeAt
section
variable {H : Type} {enc : TypeId × Value → H} {w : World} {base : Nat} {spare : Nat → Bool} {held : Bool} {r : Reach} {base2 : Nat} {v : Value} {d : DataW H} {ps : List MemPlace}
theorem Lf.rowEw {c : Value} (h : Lf enc Tryz.prog w base spare held 73 c) : ∃ (l : List K) (a : Option Addr) (cap : Nat), c = .slice a l.length cap ∧ Sl w (.slice a l.length cap) 6 (l.map K.rc) ∧ l.length ≤ 9223372036854775807 ∧ ∀ c ∈ l, c.tw := by
  obtain ⟨m, x, h4⟩ := h
  obtain ⟨v', xss, hcs, hsl, hlen, hx⟩ := trod_sl Tryz.underlying73 Tryz.cellsCellG (by decide) h4
  obtain rfl : c = v' := by simpa using hcs
  obtain ⟨l, rfl, hl⟩ := exists_map (f := K.rc) (p := K.tw) xss (fun xs hxs => by
    obtain ⟨_, n, x, h⟩ := hx xs hxs
    obtain ⟨k, ty, m, a, b, s, rfl, hk, ht, hm, hx, hy, hs⟩ := openC_list h
    exact ⟨⟨k, ⟨ty, m, a, b, s⟩⟩, rfl, ⟨⟨hk.1, hs⟩, hm, hx, hy⟩⟩)
  obtain ⟨a, cap, rfl, hshape⟩ := hsl.shape (n := l.length) (by simp)
  exact ⟨l, a, cap, rfl, hsl, by simpa using hlen, hl⟩
theorem Lf.refsEw {c : Value} (h : Lf enc Tryz.prog w base spare held 109 c) : ∃ (l : List Rf) (a : Option Addr) (cap : Nat), c = .slice a l.length cap ∧ Sl w (.slice a l.length cap) 2 (l.map Rf.cells) ∧ l.length ≤ 9223372036854775807 ∧ ∀ r ∈ l, r.u32 := by
  obtain ⟨m, x, h4⟩ := h
  obtain ⟨v', xss, hcs, hsl, hlen, hx⟩ := trod_sl Tryz.underlying109 Tryz.cellsRefG (by decide) h4
  obtain rfl : c = v' := by simpa using hcs
  obtain ⟨l, rfl, hl⟩ := exists_map (f := Rf.cells) (p := Rf.u32) xss (fun xs hxs => by
    obtain ⟨_, n, x, h⟩ := hx xs hxs
    have hl := flat_open 4 _ _ n xs x Tryz.flatRefG h
    match xs, hl with
    | [c0, c1], ⟨l0, l1, _⟩ =>
      obtain ⟨c, rfl, g0⟩ := l0.int Tryz.underlying42
      obtain ⟨m, rfl, g1⟩ := l1.int Tryz.underlying42
      exact ⟨⟨c, m⟩, rfl, ⟨wfG_u32 g0, wfG_u32 g1⟩⟩)
  obtain ⟨a, cap, rfl, hshape⟩ := hsl.shape (n := l.length) (by simp)
  exact ⟨l, a, cap, rfl, hsl, by simpa using hlen, hl⟩
theorem openE_oneW {n : Nat} {cs : List Value} {x : DataW H × List MemPlace} (h : DataW.trod enc Tryz.prog w base spare held n 111 cs = some x) : ∃ p : EL, cs = p.vals ∧ p.at 6 K.rc w ∧ p.e.sz ∧ p.e.tw := by
  have hl := flat_open 4 _ _ n cs x Tryz.flatEv13 h
  match cs, hl with
  | [c0, c1, c2, c3, c4, c5, c6, c7], ⟨l0, l1, l2, l3, l4, l5, l6, l7, _⟩ =>
    obtain ⟨kind, rfl, h0⟩ := l0.int Tryz.underlying5
    obtain ⟨ao, rfl, h1⟩ := l1.int Tryz.underlying42
    obtain ⟨av, rfl, h2⟩ := l2.int Tryz.underlying42
    obtain ⟨old, rfl, h3⟩ := l3.int Tryz.underlying5
    obtain ⟨lb, ab, cb, rfl, b1, b2, b3⟩ := l4.rowEw
    obtain ⟨la, aa, ca, rfl, a1, a2, a3⟩ := l5.rowEw
    obtain ⟨lr, ar, cr, rfl, r1, r2, r3⟩ := l6.refsEw
    obtain ⟨fl, rfl, h7⟩ := l7.int Tryz.underlying5
    exact ⟨⟨⟨kind, ao, av, old, lb, la, lr, fl⟩, ab, cb, aa, ca, ar, cr⟩, rfl, ⟨b1, a1, r1⟩, ⟨b2, a2, r2, fun c hc => (b3 c hc).towk, fun c hc => (a3 c hc).towk, wfG_u8 h0, wfG_u8 h3, wfG_u8 h7⟩, ⟨b3, a3, r3, ⟨wfG_u32 h1, wfG_u32 h2⟩⟩⟩
theorem openG_ev13w (h : DataW.Trod enc Tryz.prog w base spare held 111 v d ps) (hv : Value.okWide Tryz.prog w r base2 111 v) : ∃ p : EL, v = p.agg ∧ p.at 6 K.rc w ∧ p.e.sz ∧ p.e.tw := by
  obtain ⟨cs, rfl, _⟩ := okWide_struct Tryz.underlying111 hv
  obtain ⟨n, hn⟩ := h
  obtain ⟨p, h1, h2, h3⟩ := openE_oneW hn
  exact ⟨p, EL.agg_of h1, h2, h3⟩
end
end Go.Proofs.YtjnafppkbhldlaaGreat
namespace Go.Proofs.YtjnafppkbhldlaaGreat
open Go.RowKit Go.ChangeShapes Go.WideShapes Go.ChangeAt
section
variable {H : Type} {enc : TypeId × Value → H} {w : World} {base : Nat} {spare : Nat → Bool} {held : Bool} {r : Reach} {base2 : Nat} {v : Value} {d : DataW H} {ps : List MemPlace}
theorem Tryz.flatU8 : flat Tryz.prog 4 5 = some [5] := by kernel_rfl
theorem Tryz.cellsU8 : Tryz.prog.cellsOf 5 = 1 := by kernel_rfl
end
end Go.Proofs.YtjnafppkbhldlaaGreat
namespace Go.Proofs.YtjnafppkbhldlaaGreat
open Go.RowKit Go.ChangeShapes Go.WideShapes Go.ChangeAt
theorem Tryz.flatStrG : flat Tryz.prog 4 9 = some [9] := by kernel_rfl
theorem Tryz.cellsStrG : Tryz.prog.cellsOf 9 = 1 := by kernel_rfl
section
variable {H : Type} {enc : TypeId × Value → H} {w : World} {base : Nat} {spare : Nat → Bool} {held : Bool} {r : Reach} {base2 : Nat} {v : Value} {d : DataW H} {ps : List MemPlace}
end
end Go.Proofs.YtjnafppkbhldlaaGreat
namespace Go.Proofs.YtjnafppkbhldlaaGreat
open Go.RowKit Go.ChangeShapes Go.WideShapes Go.ChangeAt
section
variable {H : Type} {enc : TypeId × Value → H} {w : World} {base : Nat} {spare : Nat → Bool} {held : Bool} {r : Reach} {base2 : Nat} {v : Value} {d : DataW H} {ps : List MemPlace}
theorem Lf.bytes {c : Value} (h : Lf enc Tryz.prog w base spare held 27 c) : ∃ (l : List Int) (a : Option Addr) (cap : Nat), c = .slice a l.length cap ∧ Sl w (.slice a l.length cap) 1 (l.map bcell) ∧ l.length ≤ 9223372036854775807 ∧ isB l := by
  obtain ⟨m, x, h4⟩ := h
  obtain ⟨v', xss, hcs, hsl, hlen, hx⟩ := trod_sl Tryz.underlying27 Tryz.cellsU8 (by decide) h4
  obtain rfl : c = v' := by simpa using hcs
  obtain ⟨l, rfl, hl⟩ := exists_map (f := bcell) (p := fun x => 0 ≤ x ∧ x < 256) xss (fun xs hxs => by
    obtain ⟨_, n, x, h⟩ := hx xs hxs
    have hl := flat_open 4 _ _ n xs x Tryz.flatU8 h
    match xs, hl with
    | [c0], ⟨l0, _⟩ =>
      obtain ⟨ty, rfl, h0⟩ := l0.int Tryz.underlying5
      exact ⟨ty, rfl, wfG_u8 h0⟩)
  obtain ⟨a, cap, rfl, hshape⟩ := hsl.shape (n := l.length) (by simp)
  exact ⟨l, a, cap, rfl, hsl, by simpa using hlen, hl⟩
end
end Go.Proofs.YtjnafppkbhldlaaGreat
namespace Go.Proofs.YtjnafppkbhldlaaGreat
open Go.RowKit
theorem cl_laid : laidOutB Tryz.prog = true := by kernel_rfl
theorem cl_rowed : mapsRowed Tryz.prog = true := by kernel_rfl
theorem cl_plain : Tryz.prog.plainKeys = false := by kernel_rfl
theorem cl_heard : Tryz.prog.stopsHeard = true := by kernel_rfl
end Go.Proofs.YtjnafppkbhldlaaGreat
