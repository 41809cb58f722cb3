/-
The law's like and awake; (total.Sum).Times and Sub.
-/
import Derived.Test.YtdbepkfblfhlhaaP16
import Derived.Test.YtdbepkfblfhlhaaRefAdd
namespace Go.Proofs.Ytdbepkfblfhlhaa
open Go.RowKit

theorem wrap64_small {a : Int} (h : a.natAbs < 2 ^ 60) : wrap64 a = a := by unfold wrap64; omega

theorem fi_eql {x y : Nat} {a b : Int} (h1 : Fl.FI x a) (h2 : Fl.FI y b) : (FloatKind.f64.format.order x y == some .eq) = decide (a = b) := Fl.FI.eq h1 h2

set_option maxRecDepth 100000 in set_option maxHeartbeats 1600000 in
theorem like_any (s : S) (x y : Nat) (w : World) (h : W2 x y s.re s.im) (hr : s.re.natAbs < 2 ^ 52) (hi : s.im.natAbs < 2 ^ 52) :
    Calls Try.prog 19 #[.agg #[.int .i64 (wrap64 s.c), .int .i64 (wrap64 s.n), .int .i64 (wrap64 s.o), .int .i64 (wrap64 s.b), .int .i64 (wrap64 s.i), .complex .f64 x y],
      .agg #[.int .i64 (wrap64 s.c), .int .i64 (wrap64 s.n), .int .i64 (wrap64 s.o), .int .i64 (wrap64 s.b), .int .i64 (wrap64 s.i), .int .i64 (wrap64 s.re), .int .i64 (wrap64 s.im)]] w fun e w' =>
      e = .returned (.bool true) ∧ Ext w w' := by
  have e1 : wrap64 s.re = s.re := wrap64_small (by omega)
  have e2 : wrap64 s.im = s.im := wrap64_small (by omega)
  have t1 : (FloatKind.f64.format.order x (floatOfInt .f64 (wrap64 s.re)) == some .eq) = true := by
    rw [e1]; exact (fi_eql h.fx (Fl.FI.fw s.re (by omega))).trans (by simp)
  have t2 : (FloatKind.f64.format.order y (floatOfInt .f64 (wrap64 s.im)) == some .eq) = true := by
    rw [e2]; exact (fi_eql h.fy (Fl.FI.fw s.im (by omega))).trans (by simp)
  clear e1 e2 hr hi h
  generalize wrap64 s.c = a1 at *
  generalize wrap64 s.n = a2 at *
  generalize wrap64 s.o = a3 at *
  generalize wrap64 s.b = a4 at *
  generalize wrap64 s.i = a5 at *
  generalize wrap64 s.re = a6 at *
  generalize wrap64 s.im = a7 at *
  go_enter Try.func19, Try.ntmps19
  go_wp2
  go_ret
  exact ⟨rfl, by (repeat (with_reducible (first | exact Ext.refl _ | assumption | exact held_left (by assumption) | apply Ext.drewN | apply Ext.drew | apply Ext.alloc | (refine Ext.setCell ?_ (by first | (simp; done) | (simp; omega) | omega) _) | (refine Ext.trans ?_ (by assumption)) | (refine Ext.trans ?_ (held_left (by assumption))))))⟩

def mulBits (a b c d : Nat) : Option (Nat × Nat) := cMulBits a b c d

theorem mul_bits {a b c d : Nat} {p q r t : Int} (h1 : W2 a b p q) (h2 : W2 c d r t) (k1 : (p * r).natAbs < 2 ^ 51) (k2 : (q * t).natAbs < 2 ^ 51) (k3 : (p * t).natAbs < 2 ^ 51) (k4 : (q * r).natAbs < 2 ^ 51) :
    ∃ x y, cMulBits a b c d = some (x, y) ∧ W2 x y (p * r - q * t) (p * t + q * r) := by
  obtain ⟨ac, e1, f1⟩ := Fl.FI.mul h1.fx h2.fx (by omega)
  obtain ⟨bd, e2, f2⟩ := Fl.FI.mul h1.fy h2.fy (by omega)
  obtain ⟨x, e3, f3⟩ := Fl.FI.sub f1 f2 (by omega)
  obtain ⟨ad, e4, f4⟩ := Fl.FI.mul h1.fx h2.fy (by omega)
  obtain ⟨bc, e5, f5⟩ := Fl.FI.mul h1.fy h2.fx (by omega)
  obtain ⟨y, e6, f6⟩ := Fl.FI.add f4 f5 (by omega)
  refine ⟨x, y, ?_, f3, f6, Ieee.Format.sub_lt Ieee.double e3, Ieee.Format.add_lt Ieee.double e6⟩
  unfold cMulBits
  have g1 : floatBits .mul .f64 a c = some ac := e1
  have g2 : floatBits .mul .f64 b d = some bd := e2
  have g3 : floatBits .sub .f64 ac bd = some x := e3
  have g4 : floatBits .mul .f64 a d = some ad := e4
  have g5 : floatBits .mul .f64 b c = some bc := e5
  have g6 : floatBits .add .f64 ad bc = some y := e6
  simp [g1, g2, g3, g4, g5, g6]

/-- What Times asks of both numbers. -/
noncomputable def timesB (x y kx ky : Nat) : Bool := (whB kx 1024 && whB ky 1024) && (whB x 1099511627776 && whB y 1099511627776)

def TimesPost (x y kx ky : Nat) (w : World) (e : Ending) (w' : World) : Prop :=
  ∃ px py, e = .returned (.tuple #[.complex .f64 px py, .bool (timesB x y kx ky)]) ∧
    (timesB x y kx ky = true → W2 px py (fint x * fint kx - fint y * fint ky) (fint x * fint ky + fint y * fint kx)) ∧ (timesB x y kx ky = false → px = 0 ∧ py = 0) ∧ Ext w w'

theorem times_small {a b : Int} (h1 : -1099511627776 ≤ a ∧ a ≤ 1099511627776) (h2 : -1024 ≤ b ∧ b ≤ 1024) : (a * b).natAbs < 2 ^ 51 := by
  rw [Int.natAbs_mul]
  have : a.natAbs * b.natAbs ≤ 1099511627776 * 1024 := Nat.mul_le_mul (by omega) (by omega)
  omega

set_option maxRecDepth 100000 in set_option maxHeartbeats 1600000 in
theorem times_any (a1 a2 a3 a4 a5 : Int) (x y kx ky : Nat) (w : World) (hx : Hid (x < 2 ^ 64)) (hy : Hid (y < 2 ^ 64)) (hkx : Hid (kx < 2 ^ 64)) (hky : Hid (ky < 2 ^ 64)) :
    Calls Try.prog 65 #[.agg #[.int .i64 a1, .int .i64 a2, .int .i64 a3, .int .i64 a4, .int .i64 a5, .complex .f64 x y], .complex .f64 kx ky] w (TimesPost x y kx ky w) := by
  have W1 := Hid.mk' (fun w => within_any kx ky _ _ w hkx hky bd10)
  have W3 := Hid.mk' (fun w => within_any x y _ _ w hx hy bd40)
  cases h1 : (whB kx 1024 && whB ky 1024)
  · have HN : Hid (timesB x y kx ky = false) := by show timesB x y kx ky = false; unfold timesB; rw [h1]; rfl
    have h1' := Hid.mk' h1
    clear h1
    go_enter Try.func65, Try.ntmps65
    go_wp2_with (go_at_call 103; refine (W1.out _).mono ?_; rw [h1'.out]; rintro e w' ⟨rfl, hb⟩)
    go_ret2
    exact ⟨0, 0, by rw [HN.out]; rfl, fun h => absurd (HN.out.symm.trans h) (by decide), fun _ => ⟨rfl, rfl⟩, by (repeat (with_reducible (first | exact Ext.refl _ | assumption | exact held_left (by assumption) | apply Ext.drewN | apply Ext.drew | apply Ext.alloc | (refine Ext.setCell ?_ (by first | (simp; done) | (simp; omega) | omega) _) | (refine Ext.trans ?_ (by assumption)) | (refine Ext.trans ?_ (held_left (by assumption))))))⟩
  cases h2 : (whB x 1099511627776 && whB y 1099511627776)
  · have HN : Hid (timesB x y kx ky = false) := by show timesB x y kx ky = false; unfold timesB; rw [h1, h2]; rfl
    have h1' := Hid.mk' h1
    have h2' := Hid.mk' h2
    clear h1 h2
    go_enter Try.func65, Try.ntmps65
    go_wp2_with (first
      | (go_at_call_of 103 (Value.float FloatKind.f64 4652218415073722368); refine (W1.out _).mono ?_; rw [h1'.out]; rintro e w' ⟨rfl, hb⟩; have e5 := hb.cells.1 w.heap.size 5 (by simp))
      | (go_at_call_of 103 (Value.float FloatKind.f64 4787326403894837248); refine (W3.out _).mono ?_; rw [h2'.out]; rintro e w' ⟨rfl, hb2⟩))
    go_ret2
    exact ⟨0, 0, by rw [HN.out]; rfl, fun h => absurd (HN.out.symm.trans h) (by decide), fun _ => ⟨rfl, rfl⟩, by (repeat (with_reducible (first | exact Ext.refl _ | assumption | exact held_left (by assumption) | apply Ext.drewN | apply Ext.drew | apply Ext.alloc | (refine Ext.setCell ?_ (by first | (simp; done) | (simp; omega) | omega) _) | (refine Ext.trans ?_ (by assumption)) | (refine Ext.trans ?_ (held_left (by assumption))))))⟩
  · have HN : Hid (timesB x y kx ky = true) := by show timesB x y kx ky = true; unfold timesB; rw [h1, h2]; rfl
    have hm : ∃ px py, cMulBits x y kx ky = some (px, py) ∧ W2 px py (fint x * fint kx - fint y * fint ky) (fint x * fint ky + fint y * fint kx) := by
      rw [Bool.and_eq_true] at h1 h2
      have a1 := whB_fint h1.1
      have a2 := whB_fint h1.2
      have a3 := whB_fint h2.1
      have a4 := whB_fint h2.2
      exact mul_bits ⟨a3.1, a4.1, hx.out, hy.out⟩ ⟨a1.1, a2.1, hkx.out, hky.out⟩ (times_small a3.2 a1.2) (times_small a4.2 a2.2) (times_small a3.2 a2.2) (times_small a4.2 a1.2)
    obtain ⟨px, py, hm1, hm2⟩ := hm
    have hmul := fun w => run_complex_mul (P := Try.prog) w 48 x y kx ky px py hm1
    have hm2' := Hid.mk' hm2
    have h1' := Hid.mk' h1
    have h2' := Hid.mk' h2
    clear h1 h2 hm1 hm2
    go_enter Try.func65, Try.ntmps65
    go_wp2_with (first
      | (go_at_call_of 103 (Value.float FloatKind.f64 4652218415073722368); refine (W1.out _).mono ?_; rw [h1'.out]; rintro e w' ⟨rfl, hb⟩; have e5 := hb.cells.1 w.heap.size 5 (by simp))
      | (go_at_call_of 103 (Value.float FloatKind.f64 4787326403894837248); refine (W3.out _).mono ?_; rw [h2'.out]; rintro e w' ⟨rfl, hb2⟩; have e6 := (hb2.cells.1 w.heap.size 5 (by have := hb.size; simp at this; omega)).trans e5))
    go_ret2
    exact ⟨px, py, by rw [HN.out]; rfl, fun _ => hm2'.out, fun h => absurd (HN.out.symm.trans h) (by decide), by (repeat (with_reducible (first | exact Ext.refl _ | assumption | exact held_left (by assumption) | apply Ext.drewN | apply Ext.drew | apply Ext.alloc | (refine Ext.setCell ?_ (by first | (simp; done) | (simp; omega) | omega) _) | (refine Ext.trans ?_ (by assumption)) | (refine Ext.trans ?_ (held_left (by assumption))))))⟩

end Go.Proofs.Ytdbepkfblfhlhaa
