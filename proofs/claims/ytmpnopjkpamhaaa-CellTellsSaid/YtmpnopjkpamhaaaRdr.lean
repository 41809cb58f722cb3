/-
The program's reader.
-/
import Derived.Test.YtmpnopjkpamhaaaRead
import Derived.Test.YtmpnopjkpamhaaaConv
namespace Go.Proofs.Ytmpnopjkpamhaaa
open Go.RowKit

/-- Of the blocks that there were only block g may have been written. -/
structure Tch (g : Nat) (w w' : World) : Prop where
  os : w'.os = w.os
  tape : w'.tape = w.tape
  output : w'.output = w.output
  size : w.heap.size ≤ w'.heap.size
  block : ∀ k, k < w.heap.size → k ≠ g → w'.heap[k]? = w.heap[k]?
theorem Tch.refl (g : Nat) (w : World) : Tch g w w := ⟨rfl, rfl, rfl, Nat.le_refl _, fun _ _ _ => rfl⟩
theorem Tch.trans {g : Nat} {a b c : World} (h : Tch g a b) (k : Tch g b c) : Tch g a c :=
  ⟨k.os.trans h.os, k.tape.trans h.tape, k.output.trans h.output, Nat.le_trans h.size k.size, fun i hi hg => (k.block i (Nat.lt_of_lt_of_le hi h.size) hg).trans (h.block i hi hg)⟩
theorem Tch.of_ext {g : Nat} {w w' : World} (h : Ext w w') : Tch g w w' := ⟨h.os, h.tape, h.output, h.size, fun k hk _ => h.block k hk⟩
theorem Tch.ext {g : Nat} {W w w' : World} (hE : Ext W w) (hg : W.heap.size ≤ g) (h : Tch g w w') : Ext W w' :=
  Below.trans hE ⟨h.os, h.tape, h.output, h.size, fun k hk => h.block k (Nat.lt_of_lt_of_le hk hE.size) (by omega)⟩
theorem Tch.set {g : Nat} {w w' : World} (h : Tch g w w') (i : Nat) (v : Value) : Tch g w (w'.setCell ⟨g, i, none⟩ v) :=
  h.trans ⟨rfl, rfl, rfl, by simp [World.setCell], fun k _ hg => Below.heap_setCell _ _ _ _ hg⟩
theorem Tch.alloc {g : Nat} {w w' : World} (h : Tch g w w') (o : Obj) : Tch g w (w'.alloc o) := h.trans (Tch.of_ext ((Ext.refl _).alloc o))
theorem Tch.drewN {g : Nat} {w w' : World} (h : Tch g w w') (n : Nat) : Tch g w (w'.drewN n) := h.trans (Tch.of_ext ((Ext.refl _).drewN n))
theorem Blk.tch {w w1 : World} {b g : Nat} {cs : Array Value} {t : TypeId} (h : Blk w b cs t) (he : Tch g w w1) (hne : b ≠ g) : Blk w1 b cs t := (he.block b h.lt hne).trans h

/-- The slice v reads as bytes; they lie in a block from d on, below g. -/
def SB (w : World) (g d : Nat) (v : Value) (l : List Int) : Prop :=
  ∃ a cap, v = .slice a l.length cap ∧ l.length ≤ cap ∧ (a = none → cap = 0) ∧ (l = [] ∨ ∃ b o, a = some ⟨b, o, none⟩ ∧ b < w.heap.size ∧ (d ≤ b ∧ b < g) ∧ ∀ i, i < l.length → w.cell? ⟨b, o + i, none⟩ = some (.int .u8 (l.getD i 0)))
theorem Tch.cell {g : Nat} {w w1 : World} (he : Tch g w w1) {b : Nat} (hb : b < w.heap.size) (hne : b ≠ g) (o : Nat) : w1.cell? ⟨b, o, none⟩ = w.cell? ⟨b, o, none⟩ :=
  World.cell?_of_block (w := w) (he.block b hb hne)
theorem SB.tch {w w1 : World} {g d h : Nat} {v : Value} {l : List Int} (hs : SB w g d v l) (he : Tch h w w1) (hh : h < d ∨ g ≤ h) : SB w1 g d v l := by
  obtain ⟨a, cap, rfl, h1, h2, hs⟩ := hs
  refine ⟨a, cap, rfl, h1, h2, hs.imp id ?_⟩
  rintro ⟨b, o, ha, hb, hd, hc⟩
  exact ⟨b, o, ha, Nat.lt_of_lt_of_le hb he.size, hd, fun i hi => (he.cell hb (by omega) _).trans (hc i hi)⟩
theorem SB.ext {w w1 : World} {g d : Nat} {v : Value} {l : List Int} (h : SB w g d v l) (he : Ext w w1) : SB w1 g d v l := by
  obtain ⟨a, cap, rfl, h1, h2, h⟩ := h
  refine ⟨a, cap, rfl, h1, h2, h.imp id ?_⟩
  rintro ⟨b, o, ha, hb, hd, hc⟩
  exact ⟨b, o, ha, Nat.lt_of_lt_of_le hb he.size, hd, fun i hi => (he.cells.1 b _ hb).trans (hc i hi)⟩
theorem SB.sl {w : World} {g d : Nat} {v : Value} {l : List Int} (h : SB w g d v l) : Sl w v 1 (l.map bcell) := by
  obtain ⟨a, cap, rfl, -, -, h⟩ := h
  refine ⟨a, cap, by simp, ?_⟩
  rcases h with rfl | ⟨b, o, ha, hb, hne, hc⟩
  · exact .inl rfl
  · refine .inr ⟨b, o, ha, hb, fun i hi j hj => ?_⟩
    obtain rfl : j = 0 := by omega
    have hi' : i < l.length := by simpa using hi
    rw [Nat.mul_one, Nat.add_zero, hc i hi']
    simp [bcell, List.getD, List.getElem?_map, List.getElem?_eq_getElem hi']
theorem SB.nil (w : World) (g d : Nat) : SB w g d (.slice none 0 0) [] := ⟨none, 0, rfl, Nat.le_refl _, fun _ => rfl, .inl rfl⟩
theorem SB.zero (w : World) (g d : Nat) (a : Option Addr) (cap : Nat) (h : a = none → cap = 0) : SB w g d (.slice a 0 cap) [] := ⟨a, cap, rfl, Nat.zero_le _, h, .inl rfl⟩
theorem SB.of_own {w : World} {g base : Nat} {v : Value} {l : List Int} (h : OB w base v l) (hg : w.heap.size ≤ g) : SB w g base v l := by
  have hs := h.sl
  rcases h.2 with ⟨rfl, h0⟩ | ⟨k, cap, cur, rfl, hb, hk, hn, _⟩
  · have : l = [] := List.length_eq_zero_iff.1 h0
    subst this; exact SB.nil _ _ _
  · refine ⟨_, cap, rfl, hn, fun h => (by cases h), ?_⟩
    rcases Nat.eq_zero_or_pos l.length with h0 | h0
    · exact .inl (List.length_eq_zero_iff.1 h0)
    · obtain ⟨h1, _, h2⟩ := Sl.bytes hs h0
      exact .inr ⟨k, 0, rfl, h1, ⟨hb, by omega⟩, h2⟩
/-- A part of a slice. -/
theorem SB.drop {w : World} {g d : Nat} {b o : Nat} {l : List Int} {len cap n : Nat} (h : SB w g d (.slice (some ⟨b, o, none⟩) len cap) l) (hn : n ≤ l.length) (len' cap' : Nat) (hlen : len' = l.length - n) (hcap : cap' = cap - n) : SB w g d (.slice (some ⟨b, o + n, none⟩) len' cap') (l.drop n) := by
  obtain ⟨a, c, hv, h1, h2, h⟩ := h
  simp only [Value.slice.injEq] at hv
  obtain ⟨rfl, rfl, rfl⟩ := hv
  subst hlen hcap
  refine ⟨some ⟨b, o + n, none⟩, cap - n, by simp, by simp; omega, fun h => (by cases h), ?_⟩
  rcases h with rfl | ⟨b', o', ha, hb, hne, hc⟩
  · exact .inl (by simp)
  · cases ha
    refine .inr ⟨b, o + n, rfl, hb, hne, fun i hi => ?_⟩
    simp only [List.length_drop] at hi
    rw [Nat.add_assoc, hc (n + i) (by omega)]
    simp [List.getD]
theorem SB.take {w : World} {g d : Nat} {a : Option Addr} {l : List Int} {len cap n : Nat} (h : SB w g d (.slice a len cap) l) (hn : n ≤ l.length) : SB w g d (.slice a n cap) (l.take n) := by
  obtain ⟨a', c, hv, h1, h2, h⟩ := h
  simp only [Value.slice.injEq] at hv
  obtain ⟨rfl, rfl, rfl⟩ := hv
  refine ⟨a, cap, by simp; omega, by simp; omega, h2, ?_⟩
  rcases h with rfl | ⟨b', o', ha, hb, hne, hc⟩
  · exact .inl (by simp)
  · refine .inr ⟨b', o', ha, hb, hne, fun i hi => ?_⟩
    simp only [List.length_take] at hi
    rw [hc i (by omega)]
    simp [List.getD, show i < n by omega]

/-- The program's reader in block g, its bytes in a block from d on, below g. -/
def RD (w : World) (g d : Nat) (st : RS) : Prop := ∃ v, Blk w g #[v, .int .i64 st.e] 79 ∧ SB w g d v st.l ∧ st.ok ∧ st.l.length ≤ 1000000
theorem RD.tch {w w1 : World} {g d h : Nat} {st : RS} (hr : RD w g d st) (he : Tch h w w1) (hg : h ≠ g) (hd : h < d ∨ g ≤ h) : RD w1 g d st := by
  obtain ⟨v, h1, h2, h3⟩ := hr
  exact ⟨v, h1.tch he hg.symm, h2.tch he hd, h3⟩
theorem RD.ext {w w1 : World} {g d : Nat} {st : RS} (hr : RD w g d st) (he : Ext w w1) : RD w1 g d st := by
  obtain ⟨v, h1, h2, h3⟩ := hr
  exact ⟨v, h1.ext he, h2.ext he, h3⟩
theorem RD.lt {w : World} {g d : Nat} {st : RS} (hr : RD w g d st) : g < w.heap.size := by obtain ⟨v, h1, _⟩ := hr; exact h1.lt

def RPost (g d : Nat) (w : World) (r : Value) (st : RS) (e : Ending) (w' : World) : Prop := e = .returned r ∧ RD w' g d st ∧ Tch g w w'

set_option maxRecDepth 100000 in set_option maxHeartbeats 1600000 in
theorem giveUp_any (g d : Nat) (st : RS) (x : Int) (w : World) (h : RD w g d st) (hx : x ≠ 0) :
    Calls Try.prog 67 #[.pointer (some ⟨g, 0, none⟩), .int .i64 x] w (RPost g d w (.tuple #[]) (giveS st x)) := by
  obtain ⟨v, hb, hsb, hok, hlen⟩ := h
  have hc := hb.cell
  have hf := hb.frozen
  have hlt := hb.lt
  have H1 := Hid.mk' hb
  have H2 := Hid.mk' hsb
  clear hb hsb
  by_cases he : st.e = 0
  · rw [he] at hc H1
    go_enter Try.func67, Try.ntmps67
    go_wp2
    go_end0
    refine ⟨rfl, ?_, ?_⟩
    · unfold giveS; rw [if_pos he]
      exact ⟨_, (H1.out.set 1 _).set 0 _, SB.nil _ _ _, ⟨fun _ => rfl, isB.nil⟩, Nat.zero_le _⟩
    · exact ((Tch.refl g w).set 1 _).set 0 _
  · go_enter Try.func67, Try.ntmps67
    go_wp2
    go_end0
    refine ⟨rfl, ?_, Tch.refl g w⟩
    unfold giveS; rw [if_neg he]
    exact ⟨v, H1.out, H2.out, hok, hlen⟩

end Go.Proofs.Ytmpnopjkpamhaaa
