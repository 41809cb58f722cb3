/-
The law's awake.
-/
import Derived.Test.YtdbepkfblfhlhaaP16
import Derived.Test.YtdbepkfblfhlhaaLike
import Derived.Test.YtdbepkfblfhlhaaSumOf
namespace Go.Proofs.Ytdbepkfblfhlhaa
open Go.RowKit

theorem fw1 : Fl.fw 1 = 4607182418800017408 := by decide +kernel
theorem fw2 : Fl.fw 2 = 4611686018427387904 := by decide +kernel
theorem fw3 : Fl.fw 3 = 4613937818241073152 := by decide +kernel
theorem fw4 : Fl.fw 4 = 4616189618054758400 := by decide +kernel
theorem fwm2 : Fl.fw (-2) = 13835058055282163712 := by decide +kernel
theorem fi1 : Fl.FI 4607182418800017408 1 := fw1 ▸ Fl.FI.fw 1 (by decide)
theorem fi2 : Fl.FI 4611686018427387904 2 := fw2 ▸ Fl.FI.fw 2 (by decide)
theorem fi3 : Fl.FI 4613937818241073152 3 := fw3 ▸ Fl.FI.fw 3 (by decide)
theorem fi4 : Fl.FI 4616189618054758400 4 := fw4 ▸ Fl.FI.fw 4 (by decide)
theorem fim2 : Fl.FI 13835058055282163712 (-2) := fwm2 ▸ Fl.FI.fw (-2) (by decide)
theorem whB_of {x : Nat} {n B : Int} (h : Fl.FI x n) (h1 : -B ≤ n) (h2 : n ≤ B) : whB x B = true := whB_true.2 ⟨n, h, h1, h2⟩

def awC : List C := [⟨2, 4, 0, 4607182418800017408, 4611686018427387904, ByteArray.empty⟩, ⟨2, 3, 0, 4613937818241073152, 0, ByteArray.empty⟩]
theorem awS : sumS awC = ⟨2, 0, 0, 0, 0, 4, 2⟩ := by
  have w1 := whB_of (B := 1048576) fi1 (by decide) (by decide)
  have w2 := whB_of (B := 1048576) fi2 (by decide) (by decide)
  have w3 := whB_of (B := 1048576) fi3 (by decide) (by decide)
  have w0 := whB_of (B := 1048576) fi_zero (by decide) (by decide)
  have e1 := fint_eq fi1
  have e2 := fint_eq fi2
  have e3 := fint_eq fi3
  have e0 := fint_eq fi_zero
  simp [sumS, awC, C.S, contrib, S.plus, S.zero, w0, w1, w2, w3, e0, e1, e2, e3]

theorem awWf : ∀ c ∈ awC, c.wf := by
  have w0 : wrap64 0 = 0 := by unfold wrap64; omega
  intro c hc
  simp [awC] at hc
  rcases hc with rfl | rfl <;> exact ⟨by decide, by decide, w0, by decide⟩

theorem awT {x y : Nat} (h : W2 x y 4 2) : timesB x y 0 4607182418800017408 = true := by
  unfold timesB
  rw [whB_of fi_zero (by decide) (by decide), whB_of fi1 (by decide) (by decide), whB_of h.fx (by decide) (by decide), whB_of h.fy (by decide) (by decide)]
  rfl
theorem awP {x y px py : Nat} (h : W2 x y 4 2) (hp : W2 px py (fint x * fint 0 - fint y * fint 4607182418800017408) (fint x * fint 4607182418800017408 + fint y * fint 0)) : W2 px py (-2) 4 := by
  rw [fint_eq h.fx, fint_eq h.fy, fint_eq fi_zero, fint_eq fi1] at hp
  exact hp

set_option maxRecDepth 100000 in set_option maxHeartbeats 1600000 in
theorem awake23_any (w : World) : Calls Try.prog 22 #[] w fun e w' => e = .returned (.bool true) ∧ Ext w w' := by
  have w0 : wrap64 0 = 0 := by unfold wrap64; omega
  have w2 : wrap64 2 = 2 := by unfold wrap64; omega
  go_enter Try.func22, Try.ntmps22
  go_wp2_with (first
    | (go_at_call 64; refine (cellOf_any _ _ _ _ _ _).mono ?_; rintro e w' ⟨rfl, hb⟩)
    | (go_at_call 63; refine (of_S awC _ _ (Sl.new _ _ _ 5 2 2 (awC.map C.cells) rfl (by intro xs h; simp [awC] at h; rcases h with rfl | rfl <;> rfl) rfl) (by decide) awWf).mono ?_; rw [awS]; rintro e w1 ⟨v, rfl, ⟨x, y, rfl, hw⟩, hb1⟩; have k1 : (FloatKind.f64.format.order x 4616189618054758400 == some .eq) = true := ((fi_eql hw.fx fi4).trans (by decide)); have k2 : (FloatKind.f64.format.order y 4611686018427387904 == some .eq) = true := ((fi_eql hw.fy fi2).trans (by decide)); have HW := Hid.mk' hw)
    | (go_at_call 65; refine (times_any _ _ _ _ _ x y _ _ _ hw.bx hw.bY (Hid.mk' (by decide)) (Hid.mk' (by decide))).mono ?_; unfold TimesPost; rw [awT HW.out]; rintro e w2 ⟨px, py, rfl, hp, _, hb2⟩; have hP := awP HW.out (hp rfl); have k3 : (FloatKind.f64.format.order px 13835058055282163712 == some .eq) = true := ((fi_eql hP.fx fim2).trans (by decide)); have k4 : (FloatKind.f64.format.order py 4616189618054758400 == some .eq) = true := ((fi_eql hP.fy fi4).trans (by decide)); have kc := fun o => hb2.cells.1 w1.heap.size o (by simp); clear hp hP))
  go_ret
  exact ⟨rfl, by (repeat (with_reducible (first | exact Ext.refl _ | assumption | exact held_left (by assumption) | apply Ext.drewN | apply Ext.drew | apply Ext.alloc | (refine Ext.setCell ?_ (by first | (simp; done) | (simp; omega) | omega) _) | (refine Ext.trans ?_ (by assumption)) | (refine Ext.trans ?_ (held_left (by assumption))))))⟩

end Go.Proofs.Ytdbepkfblfhlhaa
