/-
(total.Sum).Sub.
-/
import Derived.Test.YtkofnmbkfaebcaaSumOf
namespace Go.Proofs.Ytkofnmbkfaebcaa
open Go.RowKit

theorem xor_neg {x : Nat} {n : Int} (h : Fl.FI x n) : Fl.FI (x ^^^ 2 ^ 63) (-n) := by
  have hs : Ieee.double.signWeight = 2 ^ 63 := rfl
  have h63 : (2 : Nat) ^ 63 / 2 ^ 63 = 1 := by decide
  have hm63 : (2 : Nat) ^ 63 % 2 ^ 63 = 0 := by decide
  have e : Ieee.double.read (x ^^^ 2 ^ 63) = (Ieee.double.read x).opposite := by
    unfold Ieee.Format.read
    rw [hs]
    have r : (x ^^^ 2 ^ 63) % 2 ^ 63 = x % 2 ^ 63 := by rw [Nat.xor_mod_two_pow, hm63, Nat.xor_zero]
    have g : ((x ^^^ 2 ^ 63) / 2 ^ 63 % 2 == 1) = !(x / 2 ^ 63 % 2 == 1) := by
      rw [Nat.xor_div_two_pow, h63]
      have hx : (x / 2 ^ 63 ^^^ 1) % 2 = (x / 2 ^ 63 % 2) ^^^ 1 := Nat.xor_mod_two_pow (n := 1)
      rw [hx]
      have : x / 2 ^ 63 % 2 = 0 ∨ x / 2 ^ 63 % 2 = 1 := by omega
      rcases this with h | h <;> rw [h] <;> rfl
    rw [r, g]
    dsimp only
    split
    · rfl
    · split
      · rfl
      · split <;> rfl
  unfold Fl.FI
  rw [e]
  exact Fl.Is.opposite h

@[go_sem] theorem run_neg_complex {P : Program} (k : FloatKind) (re im : Nat) (w : World) : (Op.unary .neg (.complex k re im)).run P w = .ok (.complex k (Op.negFloat k re) (Op.negFloat k im)) w := rfl

theorem w2_neg {x y : Nat} {a b : Int} (h : W2 x y a b) : W2 (Op.negFloat .f64 x) (Op.negFloat .f64 y) (-a) (-b) :=
  ⟨xor_neg h.fx, xor_neg h.fy, Nat.xor_lt_two_pow h.bx (by decide), Nat.xor_lt_two_pow h.bY (by decide)⟩

theorem wrap64_neg (a b : Int) : wrap64 (wrap64 a + wrap64 (-wrap64 b)) = wrap64 (a + -b) := by unfold wrap64; omega

set_option maxRecDepth 100000 in set_option maxHeartbeats 1600000 in
theorem sub_S (s : S) (k ty n : Int) (x y re im : Nat) (t : ByteArray) (w : World) (hx : Hid (re < 2 ^ 64)) (hy : Hid (im < 2 ^ 64)) (hn : wrap64 n = n) (hs : t.size ≤ 9223372036854775807) (h1 : W2 x y s.re s.im)
    (hr : s.re.natAbs < 2 ^ 52) (hi : s.im.natAbs < 2 ^ 52) :
    Calls Try.prog 28 #[.agg #[.int .i64 (wrap64 s.c), .int .i64 (wrap64 s.n), .int .i64 (wrap64 s.o), .int .i64 (wrap64 s.b), .int .i64 (wrap64 s.i), .complex .f64 x y],
      .agg #[.int .u8 k, .int .u8 ty, .int .i64 n, .complex .f64 re im, .string t]] w (RetS (s.plus (contrib k ty n re im t.size).neg) w) := by
  have hcs := contrib_small k ty n re im t.size
  have H1 := Hid.mk' (fun w => one_S k ty n re im t w hx hy hn hs)
  clear hn hs hx hy
  generalize contrib k ty n re im t.size = d at *
  have hj1 := Hid.mk' hr
  have hj2 := Hid.mk' hi
  have hj3 := Hid.mk' hcs
  have hj4 := Hid.mk' h1
  clear hr hi hcs h1
  go_enter Try.func28, Try.ntmps28
  go_wp2_with (first
    | (go_at_call 53; refine (H1.out _).mono ?_; rintro e w' ⟨v, rfl, ⟨cx, cy, rfl, hw⟩, hb⟩; obtain ⟨hc, hf⟩ := hb.cells; have z0 : w.heap.size < w'.heap.size := (by have := hb.size; simp at this; omega); have z1 : w.heap.size + 1 < w'.heap.size := (by have := hb.size; simp at this; omega); have z2 : w.heap.size + 1 + 1 < w'.heap.size := (by have := hb.size; simp at this; omega))
    | (go_at_call 29; obtain ⟨jx, jy, hj, hjw⟩ := sum_bits hj4.out (w2_neg hw) (by have := hj1.out; have := hj3.out; omega) (by have := hj2.out; have := hj3.out; omega); refine (join_any _ _ _ _ _ _ _ _ _ _ _ _ _ _ jx jy _ hj).mono ?_; rintro e w2 ⟨rfl, hb2⟩; have hE2 := (((Ext.refl w').alloc _).trans hb2); have kc := fun o => (hE2.cells.1 (w.heap.size + 1 + 1) o z2).trans (hc (w.heap.size + 1 + 1) o (by simp)); have kf := fun o => (hE2.cells.2 (w.heap.size + 1 + 1) o z2).trans (hf (w.heap.size + 1 + 1) o (by simp)); have HJ := Hid.mk' hj; clear hj))
  simp only [wrap64_neg]
  simp [bodyPost, results, Try.results28, go_sem, *]
  exact ⟨_, rfl, ⟨_, _, rfl, by assumption⟩, by (repeat (with_reducible (first | exact Ext.refl _ | assumption | exact held_left (by assumption) | apply Ext.drewN | apply Ext.drew | apply Ext.alloc | (refine Ext.setCell ?_ (by first | (simp; done) | (simp; omega) | omega) _) | (refine Ext.trans ?_ (by assumption)) | (refine Ext.trans ?_ (held_left (by assumption))))))⟩

end Go.Proofs.Ytkofnmbkfaebcaa
