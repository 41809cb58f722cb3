/-
What is told of cells, as integers; and total.one, Join, Add, Sub in its words.
-/
import Derived.Test.YtdbepkfblfhlhaaP16
import Derived.Test.YtdbepkfblfhlhaaSum
namespace Go.Proofs.Ytdbepkfblfhlhaa
open Go.RowKit

/-- What is told of some cells, as integers. -/
structure S where
  c : Int
  n : Int
  o : Int
  b : Int
  i : Int
  re : Int
  im : Int

def S.zero : S := ⟨0, 0, 0, 0, 0, 0, 0⟩
def S.plus (s t : S) : S := ⟨s.c + t.c, s.n + t.n, s.o + t.o, s.b + t.b, s.i + t.i, s.re + t.re, s.im + t.im⟩
def S.neg (s : S) : S := ⟨-s.c, -s.n, -s.o, -s.b, -s.i, -s.re, -s.im⟩

/-- The integer that a word stands for; 0, if it stands for none. -/
noncomputable def fint (x : Nat) : Int := @dite _ (∃ n, Fl.FI x n) (Classical.propDecidable _) (fun h => Classical.choose h) (fun _ => 0)
theorem fint_eq {x : Nat} {n : Int} (h : Fl.FI x n) : fint x = n := by
  have hx : ∃ n, Fl.FI x n := ⟨n, h⟩
  unfold fint
  rw [dif_pos hx]
  exact Fl.FI.unique (Classical.choose_spec hx) h
theorem whB_fint {x : Nat} {B : Int} (h : whB x B = true) : Fl.FI x (fint x) ∧ -B ≤ fint x ∧ fint x ≤ B := by
  obtain ⟨n, h1, h2, h3⟩ := whB_true.1 h
  rw [fint_eq h1]
  exact ⟨h1, h2, h3⟩

/-- What one cell comes to. -/
noncomputable def contrib (k ty n : Int) (re im : Nat) (len : Nat) : S :=
  if k = 0 then ⟨0, 1, 0, 0, 0, 0, 0⟩
  else if k = 1 then S.zero
  else if ty ≠ 3 ∧ ty ≠ 4 then ⟨1, 0, 0, len, n, 0, 0⟩
  else if (whB re 1048576 && whB im 1048576) = true then ⟨1, 0, 0, 0, 0, fint re, fint im⟩
  else ⟨1, 0, 1, 0, 0, 0, 0⟩

theorem contrib_small (k ty n : Int) (re im : Nat) (len : Nat) : (contrib k ty n re im len).re.natAbs ≤ 1048576 ∧ (contrib k ty n re im len).im.natAbs ≤ 1048576 := by
  unfold contrib S.zero
  split; · simp
  split; · simp
  split; · simp
  split
  · rename_i h
    rw [Bool.and_eq_true] at h
    have h1 := whB_fint h.1
    have h2 := whB_fint h.2
    constructor <;> dsimp only <;> omega
  · simp

structure W2 (x y : Nat) (a b : Int) : Prop where
  fx : Fl.FI x a
  fy : Fl.FI y b
  bx : x < 2 ^ 64
  bY : y < 2 ^ 64

def EncS (d : S) (v : Value) : Prop := ∃ x y, v = .agg #[.int .i64 (wrap64 d.c), .int .i64 (wrap64 d.n), .int .i64 (wrap64 d.o), .int .i64 (wrap64 d.b), .int .i64 (wrap64 d.i), .complex .f64 x y] ∧ W2 x y d.re d.im
def RetS (d : S) (w : World) (e : Ending) (w' : World) : Prop := ∃ v, e = .returned v ∧ EncS d v ∧ Ext w w'

theorem wrap64_add2 (a b : Int) : wrap64 (wrap64 a + wrap64 b) = wrap64 (a + b) := by
  unfold wrap64; omega

theorem fi_zero : Fl.FI 0 0 := Fl.fw_zero ▸ Fl.FI.fw 0 (by decide)

theorem w2_zero : W2 0 0 0 0 := ⟨fi_zero, fi_zero, by decide, by decide⟩

theorem sum_bits {ar ai br bi : Nat} {a b c d : Int} (h1 : W2 ar ai a b) (h2 : W2 br bi c d) (h3 : (a + c).natAbs < 2 ^ 53) (h4 : (b + d).natAbs < 2 ^ 53) :
    ∃ x y, cSumBits .add .f64 ar ai br bi = some (x, y) ∧ W2 x y (a + c) (b + d) := by
  obtain ⟨x, e1, f1⟩ := Fl.FI.add h1.fx h2.fx h3
  obtain ⟨y, e2, f2⟩ := Fl.FI.add h1.fy h2.fy h4
  refine ⟨x, y, ?_, f1, f2, ?_, ?_⟩
  · unfold cSumBits floatBits
    show (Ieee.double.add ar br).bind _ = _
    rw [e1]
    show (Ieee.double.add ai bi).bind _ = _
    rw [e2]; rfl
  · exact Ieee.Format.add_lt Ieee.double e1
  · exact Ieee.Format.add_lt Ieee.double e2

theorem join_S {s t : S} {ar ai br bi : Nat} (w : World) (h1 : W2 ar ai s.re s.im) (h2 : W2 br bi t.re t.im) (h3 : (s.re + t.re).natAbs < 2 ^ 53) (h4 : (s.im + t.im).natAbs < 2 ^ 53) :
    Calls Try.prog 97 #[.agg #[.int .i64 (wrap64 s.c), .int .i64 (wrap64 s.n), .int .i64 (wrap64 s.o), .int .i64 (wrap64 s.b), .int .i64 (wrap64 s.i), .complex .f64 ar ai],
      .agg #[.int .i64 (wrap64 t.c), .int .i64 (wrap64 t.n), .int .i64 (wrap64 t.o), .int .i64 (wrap64 t.b), .int .i64 (wrap64 t.i), .complex .f64 br bi]] w (RetS (s.plus t) w) := by
  obtain ⟨x, y, e, g⟩ := sum_bits h1 h2 h3 h4
  refine (join_any _ _ _ _ _ _ _ _ _ _ ar ai br bi x y w e).mono ?_
  rintro e w' ⟨rfl, hb⟩
  simp only [wrap64_add2]
  exact ⟨_, rfl, ⟨x, y, rfl, g⟩, hb⟩

theorem one_S (k ty n : Int) (re im : Nat) (s : ByteArray) (w : World) (hx : Hid (re < 2 ^ 64)) (hy : Hid (im < 2 ^ 64)) (hn : wrap64 n = n) (hs : s.size ≤ 9223372036854775807) :
    Calls Try.prog 98 #[.agg #[.int .u8 k, .int .u8 ty, .int .i64 n, .complex .f64 re im, .string s]] w (RetS (contrib k ty n re im s.size) w) := by
  refine (one_any k ty n re im s w hx hy).mono ?_
  rintro e w' ⟨rfl, hb⟩
  refine ⟨_, rfl, ?_, hb⟩
  have w0 : wrap64 0 = 0 := by unfold wrap64; omega
  have w1 : wrap64 1 = 1 := by unfold wrap64; omega
  have ws : wrap64 s.size = s.size := by unfold wrap64; omega
  unfold oneV contrib EncS
  by_cases h0 : k = 0
  · rw [if_pos (by simpa using h0), if_pos h0]; exact ⟨0, 0, by simp only [w0, w1], w2_zero⟩
  rw [if_neg (by simpa using h0), if_neg h0]
  by_cases h1 : k = 1
  · rw [if_pos (by simpa using h1), if_pos h1]; exact ⟨0, 0, by simp only [S.zero, w0], w2_zero⟩
  rw [if_neg (by simpa using h1), if_neg h1]
  by_cases h2 : ty ≠ 3 ∧ ty ≠ 4
  · rw [if_pos h2, if_pos (by simpa using h2)]
    exact ⟨0, 0, by simp only [w0, w1, hn, ws], w2_zero⟩
  rw [if_neg h2, if_neg (by simpa using h2)]
  by_cases h3 : (whB re 1048576 && whB im 1048576) = true
  · rw [if_pos h3, if_pos h3]
    rw [Bool.and_eq_true] at h3
    exact ⟨re, im, by simp only [w0, w1], (whB_fint h3.1).1, (whB_fint h3.2).1, hx.out, hy.out⟩
  · rw [if_neg h3, if_neg h3]
    exact ⟨0, 0, by simp only [w0, w1], w2_zero⟩

set_option maxRecDepth 20000 in set_option maxHeartbeats 400000 in
theorem add_S (s : S) (k ty n : Int) (x y re im : Nat) (t : ByteArray) (w : World) (hx : Hid (re < 2 ^ 64)) (hy : Hid (im < 2 ^ 64)) (hn : wrap64 n = n) (hs : t.size ≤ 9223372036854775807) (h1 : W2 x y s.re s.im)
    (hr : s.re.natAbs < 2 ^ 52) (hi : s.im.natAbs < 2 ^ 52) :
    Calls Try.prog 58 #[.agg #[.int .i64 (wrap64 s.c), .int .i64 (wrap64 s.n), .int .i64 (wrap64 s.o), .int .i64 (wrap64 s.b), .int .i64 (wrap64 s.i), .complex .f64 x y],
      .agg #[.int .u8 k, .int .u8 ty, .int .i64 n, .complex .f64 re im, .string t]] w (RetS (s.plus (contrib k ty n re im t.size)) w) := by
  have hcs := contrib_small k ty n re im t.size
  have H1 := Hid.mk' (fun w => one_S k ty n re im t w hx hy hn hs)
  clear hn hs hx hy
  generalize contrib k ty n re im t.size = d at *
  have hj1 := Hid.mk' hr
  have hj2 := Hid.mk' hi
  have hj3 := Hid.mk' hcs
  have hj4 := Hid.mk' h1
  clear hr hi hcs h1
  go_enter Try.func58, Try.ntmps58
  go_wp2
  go_region_held3 (fun w' => Ext (((w.alloc (.cells #[.int .i64 (wrap64 s.c), .int .i64 (wrap64 s.n), .int .i64 (wrap64 s.o), .int .i64 (wrap64 s.b), .int .i64 (wrap64 s.i), .complex .f64 x y] 50)).alloc (.cells #[.int .u8 k, .int .u8 ty, .int .i64 n, .complex .f64 re im, .string t] 78))) w' ∧ (∀ b o, b < (((w.alloc (.cells #[.int .i64 (wrap64 s.c), .int .i64 (wrap64 s.n), .int .i64 (wrap64 s.o), .int .i64 (wrap64 s.b), .int .i64 (wrap64 s.i), .complex .f64 x y] 50)).alloc (.cells #[.int .u8 k, .int .u8 ty, .int .i64 n, .complex .f64 re im, .string t] 78))).heap.size → w'.cell? ⟨b, o, none⟩ = (((w.alloc (.cells #[.int .i64 (wrap64 s.c), .int .i64 (wrap64 s.n), .int .i64 (wrap64 s.o), .int .i64 (wrap64 s.b), .int .i64 (wrap64 s.i), .complex .f64 x y] 50)).alloc (.cells #[.int .u8 k, .int .u8 ty, .int .i64 n, .complex .f64 re im, .string t] 78))).cell? ⟨b, o, none⟩) ∧ (∀ b o, b < (((w.alloc (.cells #[.int .i64 (wrap64 s.c), .int .i64 (wrap64 s.n), .int .i64 (wrap64 s.o), .int .i64 (wrap64 s.b), .int .i64 (wrap64 s.i), .complex .f64 x y] 50)).alloc (.cells #[.int .u8 k, .int .u8 ty, .int .i64 n, .complex .f64 re im, .string t] 78))).heap.size → w'.frozen? ⟨b, o, none⟩ = (((w.alloc (.cells #[.int .i64 (wrap64 s.c), .int .i64 (wrap64 s.n), .int .i64 (wrap64 s.o), .int .i64 (wrap64 s.b), .int .i64 (wrap64 s.i), .complex .f64 x y] 50)).alloc (.cells #[.int .u8 k, .int .u8 ty, .int .i64 n, .complex .f64 re im, .string t] 78))).frozen? ⟨b, o, none⟩)) ((exact held_of (by (repeat (with_reducible (first | exact Ext.refl _ | assumption | exact held_left (by assumption) | apply Ext.drewN | apply Ext.drew | apply Ext.alloc | (refine Ext.setCell ?_ (by first | (simp; done) | (simp; omega) | omega) _) | (refine Ext.trans ?_ (by assumption)) | (refine Ext.trans ?_ (held_left (by assumption)))))))))
    (first
      | (go_at_call 98; refine (H1.out _).mono ?_; rintro e w' ⟨v, rfl, ⟨cx, cy, rfl, hw⟩, hb⟩; obtain ⟨hc, hf⟩ := hb.cells)
      | (go_at_call 97; refine (join_S _ hj4.out hw (by have := hj1.out; have := hj3.out; omega) (by have := hj2.out; have := hj3.out; omega)).mono ?_; rintro e w' ⟨v, rfl, ⟨jx, jy, rfl, hjw⟩, hb2⟩; have hE2 := Ext.trans hb hb2; obtain ⟨hc2, hf2⟩ := hE2.cells))
  go_wp2
  simp [bodyPost, results, Try.results58, go_sem, *]
  exact ⟨_, rfl, ⟨_, _, rfl, by assumption⟩, by (repeat (with_reducible (first | exact Ext.refl _ | assumption | exact held_left (by assumption) | apply Ext.drewN | apply Ext.drew | apply Ext.alloc | (refine Ext.setCell ?_ (by first | (simp; done) | (simp; omega) | omega) _) | (refine Ext.trans ?_ (by assumption)) | (refine Ext.trans ?_ (held_left (by assumption))))))⟩

end Go.Proofs.Ytdbepkfblfhlhaa
