/-
Walks: math.Abs, math.Trunc, total.within, total.Whole.
-/
import Derived.Test.YtdbepkfblfhlhaaP16
import Derived.Test.YtdbepkfblfhlhaaFl
namespace Go.Proofs.Ytdbepkfblfhlhaa
open Go.RowKit

theorem call_trunc (x : Nat) (s : Bool) (m : Nat) (e : Int) (h : Ieee.double.read x = .number s m e) (w : World) :
    (callFunc 161 #[.float .f64 x]).run Try.prog w = .ok (.value (.float .f64 (Ieee.double.write ((Ieee.double.read x).integral .zero)))) w := by
  rw [run_callFunc_extern (e := Extern.MathFloor.toIntegral "math.archTrunc" .zero) Try.func161 (by kernel_rfl) (by kernel_rfl) (by kernel_rfl) (by kernel_rfl)]
  have hd : FloatKind.f64.decode x = .number s m e := h
  have ht : ∃ f : Bool → Nat → Sem Value, Extern.MathFloor.toIntegral "math.archTrunc" .zero #[.float .f64 x] = (match FloatKind.f64.decode x with
    | .nan s t => f s t
    | d => pure (.float .f64 (FloatKind.f64.encode (d.integral .zero)))) := ⟨fun s t => _, rfl⟩
  obtain ⟨f, ht⟩ := ht
  rw [ht, hd, h]
  rfl

def absw (x : Nat) : Nat := x % 2 ^ 63
def absI (x : Int) : Int := bits .andNot .u64 x 9223372036854775808
@[go_sem] theorem bits_absI (x : Int) : bits .andNot .u64 x 9223372036854775808 = absI x := rfl
theorem absI_eq (x : Nat) (hx : x < 2 ^ 64) : (absI x).toNat = absw x := by
  unfold absI absw
  rw [u64_andNot _ _ (by omega) (by omega) (by omega) (by omega)]
  have e : (18446744073709551615 - (9223372036854775808 : Int).toNat : Nat) = 2 ^ 63 - 1 := by decide
  rw [e, Int.toNat_natCast, Int.toNat_natCast, Nat.and_two_pow_sub_one_eq_mod]

set_option maxRecDepth 20000 in
set_option maxHeartbeats 400000 in
theorem abs_any (x : Nat) (w : World) (hx : Hid (x < 2 ^ 64)) :
    Calls Try.prog 132 #[.float .f64 x] w fun e w' => e = .returned (.float .f64 (absw x)) ∧ w = w' := by
  have h1 := call_bits x
  have h2 := call_frombits
  go_enter Try.func132, Try.ntmps132
  go_wp2
  go_ret
  exact ⟨by rw [← absI_eq x hx.out]; rfl, rfl⟩

set_option maxRecDepth 20000 in
set_option maxHeartbeats 400000 in
theorem trunc_any (x : Nat) (s : Bool) (m : Nat) (e : Int) (h : Hid (Ieee.double.read x = .number s m e)) (w : World) :
    Calls Try.prog 133 #[.float .f64 x] w fun e w' => e = .returned (.float .f64 (Ieee.double.write ((Ieee.double.read x).integral .zero))) ∧ w = w' := by
  have h1 := call_trunc x s m e h.out
  go_enter Try.func133, Try.ntmps133
  go_wp2
  go_ret
  exact ⟨rfl, rfl⟩

open Fl in
noncomputable def whB (x : Nat) (B : Int) : Bool := @decide (Wh x B) (Classical.propDecidable _)
open Fl in
theorem whB_true {x : Nat} {B : Int} : whB x B = true ↔ Wh x B := by unfold whB; simp

/-- A bound as the program has it. -/
structure Bd (bw : Nat) (B : Int) : Prop where
  lo : 0 ≤ B
  hi : B < 2 ^ 53
  eq : bw = Fl.fw B

theorem abs_q (x : Nat) (hx : Hid (x < 2 ^ 64)) (w : World) :
    Calls Try.prog 132 #[.float .f64 x] w fun e w' => e = .returned (.float .f64 (absw x)) ∧ w' = w :=
  (abs_any x w hx).mono fun _ _ ⟨h1, h2⟩ => ⟨h1, h2.symm⟩
theorem trunc_q (x : Nat) (s : Bool) (m : Nat) (e : Int) (h : Hid (Ieee.double.read x = .number s m e)) (w : World) :
    Calls Try.prog 133 #[.float .f64 x] w fun e w' => e = .returned (.float .f64 (Ieee.double.write ((Ieee.double.read x).integral .zero))) ∧ w' = w :=
  (trunc_any x s m e h w).mono fun _ _ ⟨h1, h2⟩ => ⟨h1, h2.symm⟩

/-- What the closure's first test says. -/
def le1 (x bw : Nat) : Bool := (FloatKind.f64.format.order (absw x) bw == some .lt || FloatKind.f64.format.order (absw x) bw == some .eq)

set_option maxRecDepth 20000 in
set_option maxHeartbeats 400000 in
theorem within1_any (x bw : Nat) (B : Int) (b : Nat) (w : World) (hx : Hid (x < 2 ^ 64)) (hB : Bd bw B)
    (hcell : w.cell? ⟨b, 0, none⟩ = some (.float .f64 bw)) :
    Calls Try.prog 131 #[.float .f64 x, .pointer (some ⟨b, 0, none⟩)] w fun e w' => e = .returned (.bool (whB x B)) ∧ ∃ n, w' = w.drewN n := by
  by_cases h1 : ∃ s m e, Ieee.double.read x = .number s m e ∧ (m : Int) * 2 ^ e.toNat ≤ B * 2 ^ (-e).toNat
  · obtain ⟨s, m, e, hr, hle⟩ := h1
    have t1 : (FloatKind.f64.format.order (absw x) bw == some .lt || FloatKind.f64.format.order (absw x) bw == some .eq) = true := by
      rw [hB.eq]; have := Fl.abs_le_number hB.lo hB.hi s m e hr; unfold absw FloatKind.format; rw [this]; simpa using hle
    have t2 : (FloatKind.f64.format.order x (Ieee.double.write ((Ieee.double.read x).integral .zero)) == some .eq) = whB x B := by
      have := Fl.trunc_eq hB.lo hB.hi hr hle
      rw [← whB_true] at this
      exact Bool.eq_iff_iff.2 this
    have HT : Hid (∀ w, Calls Try.prog 133 #[.float .f64 x] w fun e w' => e = .returned (.float .f64 (Ieee.double.write ((Ieee.double.read x).integral .zero))) ∧ w' = w) := fun w => trunc_q x s m e hr w
    generalize Ieee.double.write ((Ieee.double.read x).integral .zero) = tz at *
    clear hr hle hB
    generalize whB x B = r at *
    go_enter Try.func131, Try.ntmps131
    go_wp2
    go_quiet ((first | (go_at_call 132; exact Calls.quiet_of_same (abs_q x hx _)) | (go_at_call 133; exact Calls.quiet_of_same (HT.out _))))
    go_wp2
    go_ret
    exact ⟨rfl, _, rfl⟩
  · have t1 : (FloatKind.f64.format.order (absw x) bw == some .lt || FloatKind.f64.format.order (absw x) bw == some .eq) = false := by
      rw [hB.eq]
      by_cases h2 : ∃ s m e, Ieee.double.read x = .number s m e
      · obtain ⟨s, m, e, hr⟩ := h2
        have := Fl.abs_le_number hB.lo hB.hi s m e hr
        unfold absw FloatKind.format; rw [this, decide_eq_false_iff_not]
        exact fun h => h1 ⟨s, m, e, hr, h⟩
      · exact Fl.abs_le_other hB.lo hB.hi (fun s m e h => h2 ⟨s, m, e, h⟩)
    have t2 : whB x B = false := by
      rw [Bool.eq_false_iff, Ne, whB_true]
      by_cases h2 : ∃ s m e, Ieee.double.read x = .number s m e
      · obtain ⟨s, m, e, hr⟩ := h2
        exact Fl.wh_big hB.lo hr (fun h => h1 ⟨s, m, e, hr, h⟩)
      · exact Fl.wh_other (fun s m e h => h2 ⟨s, m, e, h⟩)
    rw [t2]
    clear t2 h1 hB
    go_enter Try.func131, Try.ntmps131
    go_wp2
    go_quiet ((first | (go_at_call 132; exact Calls.quiet_of_same (abs_q x hx _))))
    go_wp2
    go_ret
    exact ⟨rfl, _, rfl⟩

end Go.Proofs.Ytdbepkfblfhlhaa
