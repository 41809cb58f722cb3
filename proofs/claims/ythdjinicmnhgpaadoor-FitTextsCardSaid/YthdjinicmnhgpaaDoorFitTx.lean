/-
The walk of FitTexts.
-/
import Derived.Test.YthdjinicmnhgpaaDoorFitAwk
namespace Go.Proofs.YthdjinicmnhgpaaDoor
open Go.RowKit

set_option maxRecDepth 100000 in set_option maxHeartbeats 2000000 in
theorem fittexts_law (tx ev er : Int) (w : World) (a0 : -9223372036854775808 ≤ tx) (a1 : tx ≤ 9223372036854775807) (b0 : -9223372036854775808 ≤ ev) (b1 : ev ≤ 9223372036854775807) (c0 : -9223372036854775808 ≤ er) (c1 : er ≤ 9223372036854775807) (ht : Tab w) (hN : Non w) :
    Calls Tryd.prog 3 #[.int .i64 tx, .int .i64 ev, .int .i64 er] w fun e w' => e = .returned (.bool true) ∧ Ext w w' := by
  have HA := Hid.mk' (fun W (h : Ext w W) => fault_any tx ev er W a0 a1 b0 b1 c0 c1 (ht.ext h))
  have HB := Hid.mk' (fun W => rfault_any tx ev er W a0 a1 b0 b1 c0 c1)
  have HW := Hid.mk' (fun W (h : Ext w W) => awake14_any W (ht.ext h) (hN.ext h))
  obtain ⟨T, hT⟩ : ∃ T, T = txt (faultT tx ev er) := ⟨_, rfl⟩
  rw [← hT] at HA HB
  clear hT ht hN
  go_enter Tryd.func3, Tryd.ntmps3
  go_wp2_with (first
    | (go_at_call 4; refine (HA.out _ (by (repeat (with_reducible (first | exact Ext.refl _ | assumption | exact held_left (by assumption) | apply Ext.drewN | apply Ext.drew | apply Ext.alloc | (refine Ext.setCell ?_ (by first | (simp; done) | (simp; omega) | omega) _) | (refine Ext.trans ?_ (by assumption)) | (refine Ext.trans ?_ (held_left (by assumption)))))))).mono ?_; rintro e w1 ⟨rfl, hb1⟩; have HE1 := Hid.mk' (show Ext w w1 by (repeat (with_reducible (first | exact Ext.refl _ | assumption | exact held_left (by assumption) | apply Ext.drewN | apply Ext.drew | apply Ext.alloc | (refine Ext.setCell ?_ (by first | (simp; done) | (simp; omega) | omega) _) | (refine Ext.trans ?_ (by assumption)) | (refine Ext.trans ?_ (held_left (by assumption))))))); clear hb1)
    | (go_at_call 5; refine (HB.out _).mono ?_; rintro e w2 ⟨rfl, rfl⟩)
    | (go_at_call 6; refine (HW.out _ HE1.out).mono ?_; rintro e w3 ⟨rfl, hb3⟩; have HE3 := Hid.mk' (HE1.out.trans hb3); clear hb3))
  go_ret
  exact ⟨rfl, HE3.out⟩

end Go.Proofs.YthdjinicmnhgpaaDoor
