/-
The reference's Part: the integer that a word stands for, up to a bound.
-/
import Derived.Test.YtdbepkfblfhlhaaP16
import Derived.Test.YtdbepkfblfhlhaaSumS
namespace Go.Proofs.Ytdbepkfblfhlhaa
open Go.RowKit

def PartPost (x : Nat) (B : Int) (w : World) (e : Ending) (w' : World) : Prop := ∃ n : Int, e = .returned (.tuple #[.int .i64 n, .bool (whB x B)]) ∧ (whB x B = true → n = fint x) ∧ w = w'

set_option maxRecDepth 100000 in set_option maxHeartbeats 1600000 in
theorem part_any (x : Nat) (w : World) :
    Calls Try.prog 100 #[.int .u64 x, .int .i64 1048576] w (PartPost x 1048576 w) := by
  have hfw : floatOfInt .f64 1048576 = Fl.fw 1048576 := rfl
  have hfm : floatOfInt .f64 (-1048576) = Fl.fw (-1048576) := rfl
  have hb0 : (0 : Int) ≤ 1048576 := by decide
  have hb1 : (1048576 : Int) < 2 ^ 53 := by decide
  have h2 := call_frombits
  by_cases h1 : ∃ s m e, Ieee.double.read x = .number s m e ∧ (m : Int) * 2 ^ e.toNat ≤ 1048576 * 2 ^ (-e).toNat
  · obtain ⟨s, m, e, hr, hle⟩ := h1
    have hb := (Fl.ref_both (B := 1048576) s m e hb0).2 hle
    have t1 : (FloatKind.f64.format.order x (floatOfInt .f64 (-1048576)) == some .gt || FloatKind.f64.format.order x (floatOfInt .f64 (-1048576)) == some .eq) = true := by
      rw [hfm]; exact (Fl.ref_ge hr hb0 hb1).trans (decide_eq_true hb.1)
    have t2 : (FloatKind.f64.format.order x (floatOfInt .f64 1048576) == some .lt || FloatKind.f64.format.order x (floatOfInt .f64 1048576) == some .eq) = true := by
      rw [hfw]; exact (Fl.ref_le hr hb0 hb1).trans (decide_eq_true hb.2)
    have hn := Fl.natAbs_sgn s (Fl.flr m e)
    have hq := Fl.flr_le hle hb0
    have t3 : ∀ w, (convert 129 2 (.float .f64 x)).run Try.prog w = .ok (.int .i64 (Fl.sgn s (Fl.flr m e))) w := by
      intro w
      refine run_convert_float_int w 129 2 .f64 .i64 x _ (by rw [Try.underlying129]; rfl) Try.underlying2 ?_
      unfold floatToIntVal
      have hi : (FloatKind.f64.decode x).toInt .zero = some (Fl.sgn s (Fl.flr m e)) := Fl.ref_int hr
      rw [hi]
      have hmin : IntKind.i64.min = -9223372036854775808 := rfl
      have hmax : IntKind.i64.max = 9223372036854775807 := rfl
      simp only [hmin, hmax]
      rw [if_pos (by omega)]
    have t4 : (FloatKind.f64.format.order (floatOfInt .f64 (Fl.sgn s (Fl.flr m e))) x == some .eq) = whB x 1048576 := by
      have := Fl.ref_eq hr hle hb0 hb1
      rw [← whB_true] at this
      exact Bool.eq_iff_iff.2 this
    have t5 : Hid (whB x 1048576 = true → Fl.sgn s (Fl.flr m e) = fint x) := by
      intro h
      have := (whB_fint h).1
      unfold Fl.FI at this
      rw [hr] at this
      exact Fl.flr_is this
    generalize Fl.sgn s (Fl.flr m e) = n at *
    generalize hwh : whB x 1048576 = wh at *
    have HW := Hid.mk' hwh
    clear hb hle hr hn hq hwh hfw hfm hb0 hb1
    go_enter Try.func100, Try.ntmps100
    go_wp2
    go_ret2
    refine ⟨n, ?_, ?_, rfl⟩
    · rw [HW.out]; rfl
    · rw [HW.out]; exact t5.out
  · have hno : whB x 1048576 = false := by
      rw [Bool.eq_false_iff, Ne, whB_true]
      by_cases h3 : ∃ s m e, Ieee.double.read x = .number s m e
      · obtain ⟨s, m, e, hr⟩ := h3
        exact Fl.wh_big hb0 hr (fun h => h1 ⟨s, m, e, hr, h⟩)
      · exact Fl.wh_other (fun s m e h => h3 ⟨s, m, e, h⟩)
    have hand : ((FloatKind.f64.format.order x (floatOfInt .f64 (-1048576)) == some .gt || FloatKind.f64.format.order x (floatOfInt .f64 (-1048576)) == some .eq) && (FloatKind.f64.format.order x (floatOfInt .f64 1048576) == some .lt || FloatKind.f64.format.order x (floatOfInt .f64 1048576) == some .eq)) = false := by
      rw [hfm, hfw]
      by_cases h3 : ∃ s m e, Ieee.double.read x = .number s m e
      · obtain ⟨s, m, e, hr⟩ := h3
        show ((Ieee.double.order x _ == _ || Ieee.double.order x _ == _) && (Ieee.double.order x _ == _ || Ieee.double.order x _ == _)) = false
        rw [Fl.ref_ge hr hb0 hb1, Fl.ref_le hr hb0 hb1, Bool.and_eq_false_iff, decide_eq_false_iff_not, decide_eq_false_iff_not]
        have := Fl.ref_both (B := 1048576) s m e hb0
        by_cases hA : -1048576 * 2 ^ (-e).toNat ≤ Fl.sgn s m * 2 ^ e.toNat
        · exact .inr fun hB => h1 ⟨s, m, e, hr, this.1 ⟨hA, hB⟩⟩
        · exact .inl hA
      · exact Fl.ref_other (fun s m e h => h3 ⟨s, m, e, h⟩) hb0 hb1
    have HN := Hid.mk' hno
    have HA := Hid.mk' hand
    clear hno hand h1 hb0 hb1 hfw hfm
    cases hge : (FloatKind.f64.format.order x (floatOfInt .f64 (-1048576)) == some .gt || FloatKind.f64.format.order x (floatOfInt .f64 (-1048576)) == some .eq)
    · go_enter Try.func100, Try.ntmps100
      go_wp2
      go_ret2
      exact ⟨0, by rw [HN.out]; rfl, fun h => absurd (HN.out.symm.trans h) (by decide), rfl⟩
    · have hle2 : (FloatKind.f64.format.order x (floatOfInt .f64 1048576) == some .lt || FloatKind.f64.format.order x (floatOfInt .f64 1048576) == some .eq) = false := by
        have := HA.out; rw [hge, Bool.true_and] at this; exact this
      go_enter Try.func100, Try.ntmps100
      go_wp2
      go_ret2
      exact ⟨0, by rw [HN.out]; rfl, fun h => absurd (HN.out.symm.trans h) (by decide), rfl⟩

end Go.Proofs.Ytdbepkfblfhlhaa
