/-
The program's reader.
-/
import Derived.Scope
import Derived.WalkMore
import Derived.Test.YtlobghojjfkchaaGreatP12
namespace Go.Proofs.YtlobghojjfkchaaGreat
open Go.RowKit

/-- Of the blocks that there were only block g may have been written. -/
structure Tch (g : Nat) (w w' : World) : Prop where
  os : w'.os = w.os
  tape : w'.tape = w.tape
  output : w'.output = w.output
  size : w.heap.size ≤ w'.heap.size
  block : ∀ k, k < w.heap.size → k ≠ g → w'.heap[k]? = w.heap[k]?
theorem Tch.refl (g : Nat) (w : World) : Tch g w w := ⟨rfl, rfl, rfl, Nat.le_refl _, fun _ _ _ => rfl⟩
theorem Tch.trans {g : Nat} {a b c : World} (h : Tch g a b) (k : Tch g b c) : Tch g a c :=
  ⟨k.os.trans h.os, k.tape.trans h.tape, k.output.trans h.output, Nat.le_trans h.size k.size, fun i hi hg => (k.block i (Nat.lt_of_lt_of_le hi h.size) hg).trans (h.block i hi hg)⟩
theorem Tch.of_ext {g : Nat} {w w' : World} (h : Ext w w') : Tch g w w' := ⟨h.os, h.tape, h.output, h.size, fun k hk _ => h.block k hk⟩
theorem Tch.ext {g : Nat} {W w w' : World} (hE : Ext W w) (hg : W.heap.size ≤ g) (h : Tch g w w') : Ext W w' :=
  Below.trans hE ⟨h.os, h.tape, h.output, h.size, fun k hk => h.block k (Nat.lt_of_lt_of_le hk hE.size) (by omega)⟩
theorem Tch.set {g : Nat} {w w' : World} (h : Tch g w w') (i : Nat) (v : Value) : Tch g w (w'.setCell ⟨g, i, none⟩ v) :=
  h.trans ⟨rfl, rfl, rfl, by simp [World.setCell], fun k _ hg => Below.heap_setCell _ _ _ _ hg⟩
theorem Tch.alloc {g : Nat} {w w' : World} (h : Tch g w w') (o : Obj) : Tch g w (w'.alloc o) := h.trans (Tch.of_ext ((Ext.refl _).alloc o))
theorem Tch.drewN {g : Nat} {w w' : World} (h : Tch g w w') (n : Nat) : Tch g w (w'.drewN n) := h.trans (Tch.of_ext ((Ext.refl _).drewN n))
theorem Blk.tch {w w1 : World} {b g : Nat} {cs : Array Value} {t : TypeId} (h : Blk w b cs t) (he : Tch g w w1) (hne : b ≠ g) : Blk w1 b cs t := (he.block b h.lt hne).trans h

/-- The slice v reads as bytes; they lie in a block from d on, below g. -/
def SB (w : World) (g d : Nat) (v : Value) (l : List Int) : Prop :=
  ∃ a cap, v = .slice a l.length cap ∧ l.length ≤ cap ∧ (a = none → cap = 0) ∧ (l = [] ∨ ∃ b o, a = some ⟨b, o, none⟩ ∧ b < w.heap.size ∧ (d ≤ b ∧ b < g) ∧ ∀ i, i < l.length → w.cell? ⟨b, o + i, none⟩ = some (.int .u8 (l.getD i 0)))
theorem Tch.cell {g : Nat} {w w1 : World} (he : Tch g w w1) {b : Nat} (hb : b < w.heap.size) (hne : b ≠ g) (o : Nat) : w1.cell? ⟨b, o, none⟩ = w.cell? ⟨b, o, none⟩ :=
  World.cell?_of_block (w := w) (he.block b hb hne)
theorem SB.tch {w w1 : World} {g d h : Nat} {v : Value} {l : List Int} (hs : SB w g d v l) (he : Tch h w w1) (hh : h < d ∨ g ≤ h) : SB w1 g d v l := by
  obtain ⟨a, cap, rfl, h1, h2, hs⟩ := hs
  refine ⟨a, cap, rfl, h1, h2, hs.imp id ?_⟩
  rintro ⟨b, o, ha, hb, hd, hc⟩
  exact ⟨b, o, ha, Nat.lt_of_lt_of_le hb he.size, hd, fun i hi => (he.cell hb (by omega) _).trans (hc i hi)⟩
theorem SB.ext {w w1 : World} {g d : Nat} {v : Value} {l : List Int} (h : SB w g d v l) (he : Ext w w1) : SB w1 g d v l := by
  obtain ⟨a, cap, rfl, h1, h2, h⟩ := h
  refine ⟨a, cap, rfl, h1, h2, h.imp id ?_⟩
  rintro ⟨b, o, ha, hb, hd, hc⟩
  exact ⟨b, o, ha, Nat.lt_of_lt_of_le hb he.size, hd, fun i hi => (he.cells.1 b _ hb).trans (hc i hi)⟩
theorem SB.sl {w : World} {g d : Nat} {v : Value} {l : List Int} (h : SB w g d v l) : Sl w v 1 (l.map bcell) := by
  obtain ⟨a, cap, rfl, -, -, h⟩ := h
  refine ⟨a, cap, by simp, ?_⟩
  rcases h with rfl | ⟨b, o, ha, hb, hne, hc⟩
  · exact .inl rfl
  · refine .inr ⟨b, o, ha, hb, fun i hi j hj => ?_⟩
    obtain rfl : j = 0 := by omega
    have hi' : i < l.length := by simpa using hi
    rw [Nat.mul_one, Nat.add_zero, hc i hi']
    simp [bcell, List.getD, List.getElem?_map, List.getElem?_eq_getElem hi']
theorem SB.nil (w : World) (g d : Nat) : SB w g d (.slice none 0 0) [] := ⟨none, 0, rfl, Nat.le_refl _, fun _ => rfl, .inl rfl⟩
theorem SB.zero (w : World) (g d : Nat) (a : Option Addr) (cap : Nat) (h : a = none → cap = 0) : SB w g d (.slice a 0 cap) [] := ⟨a, cap, rfl, Nat.zero_le _, h, .inl rfl⟩
theorem SB.of_own {w : World} {g base : Nat} {v : Value} {l : List Int} (h : OB w base v l) (hg : w.heap.size ≤ g) : SB w g base v l := by
  have hs := h.sl
  rcases h.2 with ⟨rfl, h0⟩ | ⟨k, cap, cur, rfl, hb, hk, hn, _⟩
  · have : l = [] := List.length_eq_zero_iff.1 h0
    subst this; exact SB.nil _ _ _
  · refine ⟨_, cap, rfl, hn, fun h => (by cases h), ?_⟩
    rcases Nat.eq_zero_or_pos l.length with h0 | h0
    · exact .inl (List.length_eq_zero_iff.1 h0)
    · obtain ⟨h1, _, h2⟩ := Sl.bytes hs h0
      exact .inr ⟨k, 0, rfl, h1, ⟨hb, by omega⟩, h2⟩
/-- A part of a slice. -/
theorem SB.drop {w : World} {g d : Nat} {b o : Nat} {l : List Int} {len cap n : Nat} (h : SB w g d (.slice (some ⟨b, o, none⟩) len cap) l) (hn : n ≤ l.length) (len' cap' : Nat) (hlen : len' = l.length - n) (hcap : cap' = cap - n) : SB w g d (.slice (some ⟨b, o + n, none⟩) len' cap') (l.drop n) := by
  obtain ⟨a, c, hv, h1, h2, h⟩ := h
  simp only [Value.slice.injEq] at hv
  obtain ⟨rfl, rfl, rfl⟩ := hv
  subst hlen hcap
  refine ⟨some ⟨b, o + n, none⟩, cap - n, by simp, by simp; omega, fun h => (by cases h), ?_⟩
  rcases h with rfl | ⟨b', o', ha, hb, hne, hc⟩
  · exact .inl (by simp)
  · cases ha
    refine .inr ⟨b, o + n, rfl, hb, hne, fun i hi => ?_⟩
    simp only [List.length_drop] at hi
    rw [Nat.add_assoc, hc (n + i) (by omega)]
    simp [List.getD]
theorem SB.take {w : World} {g d : Nat} {a : Option Addr} {l : List Int} {len cap n : Nat} (h : SB w g d (.slice a len cap) l) (hn : n ≤ l.length) : SB w g d (.slice a n cap) (l.take n) := by
  obtain ⟨a', c, hv, h1, h2, h⟩ := h
  simp only [Value.slice.injEq] at hv
  obtain ⟨rfl, rfl, rfl⟩ := hv
  refine ⟨a, cap, by simp; omega, by simp; omega, h2, ?_⟩
  rcases h with rfl | ⟨b', o', ha, hb, hne, hc⟩
  · exact .inl (by simp)
  · refine .inr ⟨b', o', ha, hb, hne, fun i hi => ?_⟩
    simp only [List.length_take] at hi
    rw [hc i (by omega)]
    simp [List.getD, show i < n by omega]

/-- The program's reader in block g, its bytes in a block from d on, below g. -/
def RD (w : World) (g d : Nat) (st : RS) : Prop := ∃ v, Blk w g #[v, .int .i64 st.e] 206 ∧ SB w g d v st.l ∧ st.ok ∧ st.l.length ≤ 1000000
theorem RD.tch {w w1 : World} {g d h : Nat} {st : RS} (hr : RD w g d st) (he : Tch h w w1) (hg : h ≠ g) (hd : h < d ∨ g ≤ h) : RD w1 g d st := by
  obtain ⟨v, h1, h2, h3⟩ := hr
  exact ⟨v, h1.tch he hg.symm, h2.tch he hd, h3⟩
theorem RD.ext {w w1 : World} {g d : Nat} {st : RS} (hr : RD w g d st) (he : Ext w w1) : RD w1 g d st := by
  obtain ⟨v, h1, h2, h3⟩ := hr
  exact ⟨v, h1.ext he, h2.ext he, h3⟩
theorem RD.lt {w : World} {g d : Nat} {st : RS} (hr : RD w g d st) : g < w.heap.size := by obtain ⟨v, h1, _⟩ := hr; exact h1.lt

end Go.Proofs.YtlobghojjfkchaaGreat

/-
A scope in which the run jumps to more than one label.
-/
namespace Go.Proofs.YtlobghojjfkchaaGreat
open Go.RowKit

/-- By a goto to label l: J l; else as Q. -/
def jumps (J : Nat → Act → World → Prop) (Q : Exit → Act → World → Prop) : Exit → Act → World → Prop
  | .goto l, a, w => J l a w
  | e, a, w => Q e a w

end Go.Proofs.YtlobghojjfkchaaGreat

/-
The program's reader: what it tells; its digits.
-/
namespace Go.Proofs.YtlobghojjfkchaaGreat
open Go.RowKit

end Go.Proofs.YtlobghojjfkchaaGreat

/-
The program's reader: the digits of a number.
-/
namespace Go.Proofs.YtlobghojjfkchaaGreat
open Go.RowKit

end Go.Proofs.YtlobghojjfkchaaGreat

/-
The program's reader: numbers, bytes, texts, words.
-/
namespace Go.Proofs.YtlobghojjfkchaaGreat
open Go.RowKit

end Go.Proofs.YtlobghojjfkchaaGreat

/-
The program's reader: texts, bytes, words, numbers with a sign.
-/
namespace Go.Proofs.YtlobghojjfkchaaGreat
open Go.RowKit

theorem i64_wrap (n : Int) : IntKind.i64.wrap n = (n + 9223372036854775808) % 18446744073709551616 - 9223372036854775808 := by
  simp [IntKind.wrap, IntKind.signed, IntKind.bits]; split <;> omega
end Go.Proofs.YtlobghojjfkchaaGreat

/-
The program's map of bits: counted, Size, Pack, a row's nulls; the reference's Size and Pack.
-/
namespace Go.Proofs.YtlobghojjfkchaaGreat
open Go.RowKit

def boolC (b : Bool) : List Value := [.bool b]
theorem boolC_at {w wr : World} {b o : Nat} {l : List Bool} {k : Nat} (hk : k < l.length) (hc : ∀ j, j < 1 → w.cell? ⟨b, o + k * 1 + j, none⟩ = ((l.map boolC).getD k [])[j]?) (hb : b < w.heap.size) (hE : Ext w wr) :
    wr.cell? ⟨b, o + k, none⟩ = some (.bool l[k]) := by
  rw [getD_map boolC l hk] at hc
  have := hc 0 (by omega)
  rw [Nat.mul_one, Nat.add_zero] at this
  exact (hE.cells.1 b _ hb).trans this

set_option maxRecDepth 20000 in set_option maxHeartbeats 400000 in
theorem counted_yes (n : Nat) (w : World) (h : n ≤ 16) : Calls Tryz.prog 172 #[.int .i64 n] w fun e w' => e = .returned (.bool true) ∧ w = w' := by
  go_enter Tryz.func172, Tryz.ntmps172
  go_wp2
  go_ret
  exact ⟨ret_bool (by first | (simp; done) | (simp; omega)), rfl⟩
set_option maxRecDepth 20000 in set_option maxHeartbeats 400000 in
theorem msize_any (n : Nat) (w : World) (h : n ≤ 16) : Calls Tryz.prog 173 #[.int .i64 n] w fun e w' => e = .returned (.int .i64 (mapSize n : Nat)) ∧ w = w' := by
  have HC := Hid.mk' (fun w => counted_yes n w h)
  go_enter Tryz.func173, Tryz.ntmps173
  go_wp2_with (go_at_call 172; refine (HC.out _).mono ?_; rintro e w1 ⟨rfl, rfl⟩)
  go_ret
  exact ⟨ret_int (by unfold mapSize; omega), rfl⟩
set_option maxRecDepth 20000 in set_option maxHeartbeats 400000 in
theorem rmsize_any (n : Nat) (w : World) (h : n ≤ 16) : Calls Tryz.prog 119 #[.int .i64 n] w fun e w' => e = .returned (.int .i64 (mapSize n : Nat)) ∧ w = w' := by
  by_cases h0 : n = 0
  · subst h0
    go_enter Tryz.func119, Tryz.ntmps119
    go_wp2
    go_ret
    exact ⟨rfl, rfl⟩
  · have h0' : ((n : Int) == 0) = false := by simpa using h0
    go_enter Tryz.func119, Tryz.ntmps119
    go_wp2
    all_goals
      go_ret
      exact ⟨ret_int (by unfold mapSize; omega), rfl⟩

theorem u8_wrap' (n : Int) : IntKind.u8.wrap n = n % 256 := by
  simp [IntKind.wrap, IntKind.signed, IntKind.bits]
theorem bits_or_u8_nat (a b : Nat) (ha : a < 256) (hb : b < 256) : bits .or .u8 (a : Int) (b : Int) = ((a ||| b : Nat) : Int) := by
  have hx : a ||| b < 2 ^ 8 := Nat.or_lt_two_pow (by omega) (by omega)
  have h1 : (BitVec.ofInt 8 (a : Int)).toNat = a := by
    rw [BitVec.ofInt_natCast, BitVec.toNat_ofNat]; exact Nat.mod_eq_of_lt (by omega)
  have h2 : (BitVec.ofInt 8 (b : Int)).toNat = b := by
    rw [BitVec.ofInt_natCast, BitVec.toNat_ofNat]; exact Nat.mod_eq_of_lt (by omega)
  show IntKind.u8.wrap ((BitVec.ofInt 8 (a : Int) ||| BitVec.ofInt 8 (b : Int)).toNat : Int) = _
  rw [BitVec.toNat_or, h1, h2, u8_wrap']
  omega

theorem cells_new' (w : World) (cs : Array Value) (t : TypeId) {b : Nat} (h : b = w.heap.size) : ∀ j u, cs.toList[j]? = some u → (w.alloc (.cells cs t)).cell? ((⟨b, 0, none⟩ : Addr).add j) = some u := by subst h; exact cells_new w cs t

theorem or_two (x n : Nat) (hx : x < 2 ^ n) : x ||| 2 ^ n = x + 2 ^ n := by
  have := Nat.two_pow_add_eq_or_of_lt hx 1
  rw [Nat.mul_one] at this
  rw [Nat.or_comm, ← this, Nat.add_comm]

/-- make of bytes. -/
theorem run_makeB (n : Nat) (hn : n ≤ 1000) (w : World) :
    (Instr.makeSlice 40 (.int .i64 (n : Int)) (.int .i64 (n : Int))).run Tryz.prog w = .ok (.slice (some ⟨w.heap.size, 0, none⟩) n n) (w.alloc (.cells (bs (List.replicate n 0)).toArray 5)) := by
  obtain ⟨i0, hi, hz0, hz1, hz2⟩ := info_parts Tryz.infoU8
  have hr := run_make (P := Tryz.prog) w 40 5 i0 _ Tryz.underlying40 hi hz0 .i64 .i64 (n : Int) (n : Int) (by omega) (by omega) (by rw [hz2]; omega) (by omega)
  simp only [Int.toNat_natCast, hz1, Nat.mul_one] at hr
  have e : ∀ z : Array Value, z = #[.int .u8 0] → madeCells z n = (bs (List.replicate n 0)).toArray := by
    rintro z rfl
    apply Array.ext
    · simp [bs, madeCells]
    · intro i h1 h2
      simp [bs, madeCells, Nat.mod_one]
  have e2 := e _ (show (Value.int .u8 0).cells = #[.int .u8 0] from rfl)
  rw [hr, e2]

set_option maxRecDepth 100000 in set_option maxHeartbeats 4000000 in
theorem pack_any (l : List Bool) (a : Option Addr) (cap : Nat) (w : World) (hl : Sl w (.slice a l.length cap) 1 (l.map boolC)) (h16 : l.length ≤ 16) :
    Calls Tryz.prog 138 #[.slice a l.length cap] w fun e w' => ∃ v', e = .returned (.tuple #[v', .int .i64 0]) ∧ OB w' w.heap.size v' (mapL l) ∧ Ext w w' := by
  have HC := Hid.mk' (fun w => counted_yes l.length w h16)
  have HZ := Hid.mk' (fun w => msize_any l.length w h16)
  have hs2 : mapSize l.length ≤ 2 := by unfold mapSize; omega
  have hmk := run_makeB (mapSize l.length) (by omega) w
  have HL := Hid.mk' hl
  clear hl
  go_enter Tryz.func138, Tryz.ntmps138
  go_wp2_with (first
    | (go_at_call 172; refine (HC.out _).mono ?_; rintro e w1 ⟨rfl, rfl⟩)
    | (go_at_call 173; refine (HZ.out _).mono ?_; rintro e w1 ⟨rfl, rfl⟩))
  clear hmk
  go_loopw [17] (fun i wr => ∃ k : Nat, k ≤ l.length ∧ i = .int .i64 k ∧ Hid (Blk wr w.heap.size (bs (mapTo l k)).toArray 5) ∧ Hid (Ext w wr)) (fun i _ => l.length - (intOf i).toNat)
  case atStart => exact ⟨0, Nat.zero_le _, rfl, Hid.mk' (by rw [mapTo_zero]; exact Blk.new _ _ _), Hid.mk' (by exact eX)⟩
  case round =>
    obtain ⟨k, hk, rfl, hB, hE⟩ := hrel
    by_cases hlt : k < l.length
    · obtain ⟨b, o, rfl, hb, hx⟩ := HL.out.at_ (i := k) (by simpa using hlt)
      have f0 := boolC_at hlt hx hb hE.out
      have hbw : b < wr.heap.size := Nat.lt_of_lt_of_le hb hE.out.size
      clear hx
      cases hq : l[k] with
      | false =>
        rw [hq] at f0
        have HM := Hid.mk' (mapTo_no hlt hq)
        clear hq
        go_wp2
        go_roundw
        case rel => exact ⟨k + 1, by omega, by go_num, Hid.mk' (by rw [HM.out]; exact hB.out), hE⟩
        case measure => simp [intOf]; omega
      | true =>
        rw [hq] at f0
        have HM := Hid.mk' (mapTo_yes hlt hq)
        clear hq
        have hlt8 : k / 8 < mapSize l.length := by unfold mapSize; omega
        have hg0 := hB.out.lt
        have hgf := hB.out.frozen
        have hgc := hB.out.cell (k / 8)
        obtain ⟨x, hx, hxv⟩ : ∃ x : Nat, x < 2 ^ (k % 8) ∧ (mapTo l k).getD (k / 8) 0 = (x : Int) := by
          refine ⟨_, ?_, mapTo_get hlt8⟩
          have := bits_at (l := l) (k := k) (by omega)
          have h8 : 2 ^ (k % 8) ≤ 128 := Nat.le_trans (Nat.pow_le_pow_right (by decide) (show k % 8 ≤ 7 by omega)) (by decide)
          rw [Nat.mod_eq_of_lt (by omega)]; exact this
        rw [hxv] at HM
        have hgc2 : wr.cell? ⟨w.heap.size, k / 8, none⟩ = some (.int .u8 x) := by
          rw [hgc, ← hxv]
          simp [bs, List.getD, mapTo_len, hlt8]
        clear hgc hxv
        have hp8 : 2 ^ (k % 8) ≤ 128 := Nat.le_trans (Nat.pow_le_pow_right (by decide) (show k % 8 ≤ 7 by omega)) (by decide)
        have hsh : ∀ W : World, (Op.shift .shl .u8 1 .i64 ((k : Int).tmod 8)).run Tryz.prog W = .ok (.int .u8 ((2 ^ (k % 8) : Nat) : Int)) W := by
          intro W
          have hk8 : k % 8 = 0 ∨ k % 8 = 1 ∨ k % 8 = 2 ∨ k % 8 = 3 ∨ k % 8 = 4 ∨ k % 8 = 5 ∨ k % 8 = 6 ∨ k % 8 = 7 := by omega
          have e : (k : Int).tmod 8 = ((k % 8 : Nat) : Int) := rfl
          rw [e]
          rcases hk8 with h | h | h | h | h | h | h | h <;> rw [h] <;> simp [go_sem, IntKind.wrap, IntKind.signed, IntKind.bits]
        have hor : bits BinOp.or IntKind.u8 (x : Int) ((2 ^ (k % 8) : Nat) : Int) = ((x + 2 ^ (k % 8) : Nat) : Int) := by
          rw [bits_or_u8_nat _ _ (by omega) (by omega), or_two x (k % 8) hx]
        obtain ⟨p, hp⟩ : ∃ p : Nat, p = 2 ^ (k % 8) := ⟨_, rfl⟩
        rw [← hp] at hsh hor hx hp8 HM
        have hw8 : IntKind.i64.wrap ((k : Int) / 8) = (k : Int) / 8 := by rw [i64_wrap]; omega
        have hn8 : ((k : Int) / 8).toNat = k / 8 := by omega
        have h08 : 0 ≤ (k : Int) / 8 := by omega
        have hl8 : (k : Int) / 8 < ((mapSize l.length : Nat) : Int) := by omega
        clear hp
        go_wp2
        refine wp_region_head 9 (fun w' => Ext (wr) w' ∧ (∀ b o, b < (wr).heap.size → w'.cell? ⟨b, o, none⟩ = (wr).cell? ⟨b, o, none⟩) ∧ (∀ b o, b < (wr).heap.size → w'.frozen? ⟨b, o, none⟩ = (wr).frozen? ⟨b, o, none⟩)) (by kernel_rfl) (by decide) ?_
        have hA0 : Hid ((fun w' => Ext (wr) w' ∧ (∀ b o, b < (wr).heap.size → w'.cell? ⟨b, o, none⟩ = (wr).cell? ⟨b, o, none⟩) ∧ (∀ b o, b < (wr).heap.size → w'.frozen? ⟨b, o, none⟩ = (wr).frozen? ⟨b, o, none⟩)) wr.drew) := held_of (by exact eX)
        (refine wpHd_take (i := 0) (v := ?_) rfl (by kernel_rfl) (by kernel_rfl) (by kernel_rfl) (fun _ _ _ h => h) (Or.inl ⟨by rfl, ?_⟩) hA0.out ?_; rotate_left 1; · (intro w' hS'; (obtain ⟨hEs', hcs', hfs'⟩ := hS'); go_simp; try with_reducible rfl))
        (refine wpHd_take (i := 1) (v := ?_) rfl (by kernel_rfl) (by kernel_rfl) (by kernel_rfl) (fun _ _ _ h => h) (Or.inl ⟨by rfl, ?_⟩) hA0.out ?_; rotate_left 1; · (intro w' hS'; (obtain ⟨hEs', hcs', hfs'⟩ := hS'); go_simp; try with_reducible rfl))
        (refine wpHd_take (i := 2) (v := ?_) rfl (by kernel_rfl) (by kernel_rfl) (by kernel_rfl) (fun _ _ _ h => h) (Or.inl ⟨by rfl, ?_⟩) hA0.out ?_; rotate_left 1; · (intro w' hS'; (obtain ⟨hEs', hcs', hfs'⟩ := hS'); go_simp; try with_reducible rfl))
        (refine wpHd_take (i := 3) (v := ?_) rfl (by kernel_rfl) (by kernel_rfl) (by kernel_rfl) (fun _ _ _ h => h) (Or.inl ⟨by rfl, ?_⟩) hA0.out ?_; rotate_left 1; · (intro w' hS'; (obtain ⟨hEs', hcs', hfs'⟩ := hS'); go_simp; try with_reducible rfl))
        (refine wpHd_take (i := 4) (v := ?_) rfl (by kernel_rfl) (by kernel_rfl) (by kernel_rfl) (fun _ _ _ h => h) (Or.inl ⟨by rfl, ?_⟩) hA0.out ?_; rotate_left 1; · (intro w' hS'; (obtain ⟨hEs', hcs', hfs'⟩ := hS'); go_simp; try with_reducible rfl))
        (refine wpHd_take (i := 5) (v := ?_) rfl (by kernel_rfl) (by kernel_rfl) (by kernel_rfl) (fun _ _ _ h => h) (Or.inl ⟨by rfl, ?_⟩) hA0.out ?_; rotate_left 1; · (intro w' hS'; (obtain ⟨hEs', hcs', hfs'⟩ := hS'); go_simp; try with_reducible rfl))
        (refine wpHd_take (i := 6) (v := ?_) rfl (by kernel_rfl) (by kernel_rfl) (by kernel_rfl) (fun _ _ _ h => h) (Or.inl ⟨by rfl, ?_⟩) hA0.out ?_; rotate_left 1; · (intro w' hS'; (obtain ⟨hEs', hcs', hfs'⟩ := hS'); go_simp; try with_reducible rfl))
        (refine wpHd_take (i := 7) (v := ?_) rfl (by kernel_rfl) (by kernel_rfl) (by kernel_rfl) (fun _ _ _ h => h) (Or.inl ⟨by rfl, ?_⟩) hA0.out ?_; rotate_left 1; · (intro w' hS'; (obtain ⟨hEs', hcs', hfs'⟩ := hS'); go_simp; try with_reducible rfl))
        (refine wpHd_take (i := 8) (v := ?_) rfl (by kernel_rfl) (by kernel_rfl) (by kernel_rfl) (fun _ _ _ h => h) (Or.inl ⟨by rfl, ?_⟩) hA0.out ?_; rotate_left 1; · (intro w' hS'; (obtain ⟨hEs', hcs', hfs'⟩ := hS'); go_simp; try with_reducible rfl))
        refine wpHd_tail (by kernel_rfl) ?_
        simp only [List.drop_succ_cons, List.drop_zero]
        go_wp2
        go_roundw
        case rel => exact ⟨k + 1, by omega, by go_num, Hid.mk' (by rw [HM.out]; have e : (bs ((mapTo l k).set (k / 8) ((x : Int) + (p : Int)))).toArray = (bs (mapTo l k)).toArray.setIfInBounds (k / 8) (.int .u8 ((x : Int) + (p : Int))) := (by simp [bs, List.map_set]); rw [e]; exact (hB.out.set _ _).drew), Hid.mk' (by have hE := hE.out; exact eX)⟩
        case measure => simp [intOf]; omega
    · have hkk : k = l.length := by omega
      subst hkk
      have HB := Hid.mk' (show Blk wr w.heap.size (bs (mapL l)).toArray 5 by rw [← mapTo_all]; exact hB.out)
      go_wp2
      go_ret2
      exact ⟨_, rfl, OB.of_blk HB.out (Nat.le_refl _) (mapL_len l).symm (by rw [mapL_len]; omega), hE.out⟩

theorem Tryz.infoBool : (Tryz.prog.info? 4).map (fun i => (i.zero, i.size, i.bytes)) = some (some (.bool false), 1, 1) := by kernel_rfl

set_option maxRecDepth 100000 in set_option maxHeartbeats 2000000 in
theorem nulls_any (l : List K) (a : Option Addr) (cap : Nat) (w : World) (hl : Sl w (.slice a l.length cap) 5 (l.map K.pc)) (hlen : l.length ≤ 1000) :
    Calls Tryz.prog 139 #[.slice a l.length cap] w fun e w' => ∃ a' cap', e = .returned (.slice a' l.length cap') ∧ Sl w' (.slice a' l.length cap') 1 ((nullsL l).map boolC) ∧ Ext w w' := by
  have HL := Hid.mk' hl
  clear hl
  obtain ⟨i0, hi, hz0, hz1, hz2⟩ := info_parts Tryz.infoBool
  go_enter Tryz.func139, Tryz.ntmps139
  go_wp2
  go_loopw [3, 8] (fun v i wr => ∃ k : Nat, k ≤ l.length ∧ i = .int .i64 k ∧ Hid (wr.ownsRow w.heap.size 4 1 v k (((nullsL l).map boolC).take k).flatten) ∧ Hid (Ext w wr)) (fun _ i _ => l.length - (intOf i).toNat)
  case atStart => exact ⟨0, Nat.zero_le _, rfl, World.ownsRow_nil _ _ _ _, Ext.refl _⟩
  case round =>
    obtain ⟨k, hk, rfl, hown, hE⟩ := hrel
    by_cases hlt : k < l.length
    · obtain ⟨b, o, rfl, hb, hx⟩ := HL.out.at_ (i := k) (by simpa using hlt)
      obtain ⟨f0, f1, f2, f3, f4⟩ := K.pcAt hlt hx hb hE.out
      have hbw : b < wr.heap.size := Nat.lt_of_lt_of_le hb hE.out.size
      have HT := Hid.mk' (flat_snoc (f := boolC) (l := nullsL l) (k := k) (by rw [nullsL_len]; exact hlt))
      have hnk : (nullsL l)[k]'(by rw [nullsL_len]; exact hlt) = decide (l[k].k = 0) := by simp [nullsL]
      rw [hnk] at HT
      obtain ⟨c, hc⟩ : ∃ c, c = l[k] := ⟨_, rfl⟩
      rw [← hc] at f0 f1 f2 f3 f4 HT
      have hdk : (c.k == 0) = decide (c.k = 0) := by by_cases h : c.k = 0 <;> simp [h]
      have HDK := Hid.mk' hdk
      obtain ⟨q, hq⟩ : ∃ q, q = decide (c.k = 0) := ⟨_, rfl⟩
      rw [← hq] at HT hdk
      clear hc hx hnk hq HDK
      go_wp2_with (at_builtin; refine wpList_append_own _ rfl _ _ 200 rfl w.heap.size 4 i0 _ 1 1 Tryz.underlying200 hi hz0 hz1 hz2 rfl (by decide) _ _ _ rfl ((hown.out.alloc _).alloc _) ⟨_, 0, none⟩ 1 1 (boolC q) rfl rfl ?c1 ?c2 ?c3 ?c4 ?c5 ?_)
      case c1 => exact cells_new' _ #[.bool q] _ (by simp)
      case c2 => intro u hu; simp [boolC] at hu; subst hu; rfl
      case c3 => unfold maxLen; omega
      case c4 => omega
      case c5 => have := hE.out.size; simp; omega
      intro v' w2 hown' hgrow _
      have HE2 := Hid.mk' (Below.grown ((hE.out.alloc _).alloc _) hgrow (by have := hE.out.size; rw [World.size_alloc, World.size_alloc]; omega) (fun g hg => (hown.out.lt g hg).1))
      have HO2 := Hid.mk' hown'
      clear hown' hgrow
      go_wp2
      go_roundw
      case rel => exact ⟨k + 1, by omega, by go_num, Hid.mk' (by rw [HT.out]; exact HO2.out), HE2⟩
      case measure => simp [intOf]; omega
    · have hkk : k = l.length := by omega
      subst hkk
      have hml : ((nullsL l).map boolC).length = l.length := by rw [List.length_map, nullsL_len]
      rw [← hml, List.take_length, hml] at hown
      obtain ⟨a', c', rfl⟩ := owns_shape hown.out
      go_wp2
      go_ret
      refine ⟨a', c', rfl, Sl.of_owns (base := w.heap.size) (e := 4) ?_ ?_, hE.out⟩
      · rw [hml]; exact hown.out
      · intro xs hxs; simp at hxs; rcases hxs with ⟨_, rfl⟩ | ⟨_, rfl⟩ <;> rfl

end Go.Proofs.YtlobghojjfkchaaGreat

/-
The things of a map: the program's Unpack, the reference's.
-/
namespace Go.Proofs.YtlobghojjfkchaaGreat
open Go.RowKit

def UnPost (b : List Int) (n : Nat) (w : World) (e : Ending) (w' : World) : Prop :=
  ∃ a c, e = .returned (.tuple #[.slice a (unmapL b n).1.length c, .int .i64 (unmapL b n).2]) ∧ Sl w' (.slice a (unmapL b n).1.length c) 1 ((unmapL b n).1.map boolC) ∧ (∀ k o, a = some ⟨k, o, none⟩ → w.heap.size ≤ k) ∧ Ext w w'
theorem UnPost.bad {b : List Int} {n : Nat} {w w' : World} (h : unmapL b n = ([], 3)) (hE : Ext w w') : UnPost b n w (.returned (.tuple #[.slice none 0 0, .int .i64 3])) w' := by
  unfold UnPost; rw [h]; exact ⟨none, 0, rfl, ⟨none, 0, rfl, .inl rfl⟩, (fun _ _ e => by cases e), hE⟩
theorem UnPost.ok {b : List Int} {n m : Nat} {l : List Bool} {w w' : World} {a : Option Addr} {c : Nat} (h : unmapL b n = (l, 0)) (hm : m = l.length) (hs : Sl w' (.slice a m c) 1 (l.map boolC)) (ha : ∀ k o, a = some ⟨k, o, none⟩ → w.heap.size ≤ k) (hE : Ext w w') : UnPost b n w (.returned (.tuple #[.slice a m c, .int .i64 0])) w' := by
  unfold UnPost; rw [h]; subst hm; exact ⟨a, c, rfl, hs, ha, hE⟩
end Go.Proofs.YtlobghojjfkchaaGreat
