/-
The reference's reader: what it tells; giving up; bytes.
-/
import Derived.Test.YtmpnopjkpamhaaaTkF
namespace Go.Proofs.Ytmpnopjkpamhaaa
open Go.RowKit

/-- The reference's reader in block g, its bytes in a block from d on, below g. -/
def RF (w : World) (g d : Nat) (st : RS) : Prop := ∃ v L at', Blk w g #[v, .int .i64 (at' : Nat), .int .i64 st.e] 57 ∧ SB w g d v L ∧ at' ≤ L.length ∧ st.l = (if st.e = 0 then L.drop at' else []) ∧ isB L ∧ L.length ≤ 1000000
theorem RF.ext {w w1 : World} {g d : Nat} {st : RS} (hr : RF w g d st) (he : Ext w w1) : RF w1 g d st := by
  obtain ⟨v, L, a, h1, h2, h3⟩ := hr
  exact ⟨v, L, a, h1.ext he, h2.ext he, h3⟩
theorem RF.drewN {w : World} {g d : Nat} {st : RS} (hr : RF w g d st) (n : Nat) : RF (w.drewN n) g d st := hr.ext ((Ext.refl w).drewN n)
theorem RF.tch {w w1 : World} {g d h : Nat} {st : RS} (hr : RF w g d st) (he : Tch h w w1) (hg : h ≠ g) (hd : h < d ∨ g ≤ h) : RF w1 g d st := by
  obtain ⟨v, L, a, h1, h2, h3⟩ := hr
  exact ⟨v, L, a, h1.tch he hg.symm, h2.tch he hd, h3⟩
theorem RF.lt {w : World} {g d : Nat} {st : RS} (hr : RF w g d st) : g < w.heap.size := by obtain ⟨v, L, a, h1, _⟩ := hr; exact h1.lt
theorem RF.ok {w : World} {g d : Nat} {st : RS} (hr : RF w g d st) : st.ok := by
  obtain ⟨v, L, a, _, _, _, hl, hb, _⟩ := hr
  refine ⟨fun h => by rw [hl, if_neg h], ?_⟩
  rw [hl]; split; exact hb.drop _; exact isB.nil
def FPost (g d : Nat) (w : World) (r : Value) (st : RS) (e : Ending) (w' : World) : Prop := e = .returned r ∧ RF w' g d st ∧ Tch g w w'

set_option maxRecDepth 100000 in set_option maxHeartbeats 1600000 in
theorem fgive_any (g d : Nat) (st : RS) (x : Int) (w : World) (h : RF w g d st) (hx : x ≠ 0) :
    Calls Try.prog 76 #[.pointer (some ⟨g, 0, none⟩), .int .i64 x] w (FPost g d w (.tuple #[]) (giveS st x)) := by
  obtain ⟨v, L, a, hb, hsb, hat, hl, hB, hlen⟩ := h
  have hc := hb.cell
  have hf := hb.frozen
  have hlt := hb.lt
  have HB := Hid.mk' hb
  have HS := Hid.mk' hsb
  have HL := Hid.mk' hl
  clear hb hsb hl
  by_cases he : st.e = 0
  · rw [he] at hc HB
    have HE := Hid.mk' he
    clear he
    go_enter Try.func76, Try.ntmps76
    go_wp2
    go_end0
    refine ⟨rfl, ?_, (Tch.refl g w).set 2 _⟩
    unfold giveS; rw [if_pos HE.out]
    exact ⟨_, L, a, HB.out.set 2 _, HS.out.tch ((Tch.refl g w).set 2 _) (.inr (Nat.le_refl _)), hat, by simp [hx], hB, hlen⟩
  · have he2 : (st.e == 0) = false := by simpa using he
    have HE := Hid.mk' he
    clear he
    go_enter Try.func76, Try.ntmps76
    go_wp2
    go_end0
    exact ⟨rfl, by unfold giveS; rw [if_neg HE.out]; exact ⟨_, L, a, HB.out, HS.out, hat, HL.out, hB, hlen⟩, Tch.refl g w⟩

set_option maxRecDepth 100000 in set_option maxHeartbeats 1600000 in
theorem fleft_any (g d : Nat) (st : RS) (w : World) (h : RF w g d st) :
    Calls Try.prog 24 #[.pointer (some ⟨g, 0, none⟩)] w fun e w' => e = .returned (.int .i64 st.l.length) ∧ ∃ m, w' = w.drewN m := by
  obtain ⟨v, L, a, hb, ⟨ad, cap, rfl, -, -, -⟩, hat, hl, hB, hlen⟩ := h
  have hc := hb.cell
  clear hb
  by_cases he : st.e = 0
  · rw [he] at hc
    have hll : st.l.length = L.length - a := by rw [hl, if_pos he, List.length_drop]
    have HLL : Hid ((st.l.length : Int) = (L.length : Int) - (a : Int)) := Hid.mk' (by rw [hll]; omega)
    clear he hl hll
    go_enter Try.func24, Try.ntmps24
    go_wp2
    go_quiet (fail)
    go_wp2
    go_ret
    exact ⟨ret_int (by rw [HLL.out]), nq, rfl⟩
  · have he2 : (st.e != 0) = true := by simpa using he
    have HL : Hid (st.l.length = 0) := Hid.mk' (by rw [hl, if_neg he]; rfl)
    clear he hl
    go_enter Try.func24, Try.ntmps24
    go_wp2
    go_ret
    exact ⟨ret_int (by rw [HL.out]; rfl), 0, rfl⟩

end Go.Proofs.Ytmpnopjkpamhaaa
