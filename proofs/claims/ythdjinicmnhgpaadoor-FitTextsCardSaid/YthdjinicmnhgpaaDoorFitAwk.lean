/-
The chapter's example of faults.
-/
import Derived.Test.YthdjinicmnhgpaaDoorFitErr
namespace Go.Proofs.YthdjinicmnhgpaaDoor
open Go.RowKit

/-- What the program's variable of no fault holds. -/
def Non (w : World) : Prop := (w.cell? ⟨0, 0, none⟩ = some (.int .i64 (-1)) ∧ w.cell? ⟨0, 1, none⟩ = some (.int .i64 (-1)) ∧ w.cell? ⟨0, 2, none⟩ = some (.int .i64 0)) ∧ 0 < w.heap.size
theorem Non.ext {w w' : World} (h : Non w) (he : Ext w w') : Non w' :=
  ⟨⟨(he.cells.1 _ _ h.2).trans h.1.1, (he.cells.1 _ _ h.2).trans h.1.2.1, (he.cells.1 _ _ h.2).trans h.1.2.2⟩, Nat.lt_of_lt_of_le h.2 he.size⟩

set_option maxRecDepth 20000 in set_option maxHeartbeats 400000 in
theorem cnew14_any (w : World) : Calls Tryd.prog 11 #[] w fun e w' => ∃ g, e = .returned (.pointer (some ⟨g, 0, none⟩)) ∧ Ext w w' := by
  go_enter Tryd.func11, Tryd.ntmps11
  go_wp2
  go_ret
  exact ⟨_, rfl, by (repeat (with_reducible (first | exact Ext.refl _ | assumption | exact held_left (by assumption) | apply Ext.drewN | apply Ext.drew | apply Ext.alloc | (refine Ext.setCell ?_ (by first | (simp; done) | (simp; omega) | omega) _) | (refine Ext.trans ?_ (by assumption)) | (refine Ext.trans ?_ (held_left (by assumption))))))⟩

set_option maxRecDepth 20000 in set_option maxHeartbeats 400000 in
theorem txr0_any (p : Value) (w : World) : Calls Tryd.prog 18 #[.agg #[.int .u32 3, .int .u64 0, .slice none 0 0], p] w fun e w' => e = .returned (.tuple #[.int .i64 (-1), .int .i64 0]) ∧ Ext w w' := by
  go_enter Tryd.func18, Tryd.ntmps18
  go_wp2
  go_loop [21] (fun i => i = .int .i64 0) (fun _ => 0)
  case atStart => rfl
  case round =>
    subst hrel
    go_wp2
    go_ret2
    exact ⟨rfl, by (repeat (with_reducible (first | exact Ext.refl _ | assumption | exact held_left (by assumption) | apply Ext.drewN | apply Ext.drew | apply Ext.alloc | (refine Ext.setCell ?_ (by first | (simp; done) | (simp; omega) | omega) _) | (refine Ext.trans ?_ (by assumption)) | (refine Ext.trans ?_ (held_left (by assumption))))))⟩

set_option maxRecDepth 100000 in set_option maxHeartbeats 4000000 in
theorem check2_any (p : Value) (b c : Nat) (w : World) (h0 : w.cell? ⟨b, 0, none⟩ = some (.int .u32 3) ∧ w.cell? ⟨b, 1, none⟩ = some (.int .u64 0) ∧ w.cell? ⟨b, 2, none⟩ = some (.slice none 0 0))
    (h1 : w.cell? ⟨b, 3, none⟩ = some (.int .u32 3) ∧ w.cell? ⟨b, 4, none⟩ = some (.int .u64 0) ∧ w.cell? ⟨b, 5, none⟩ = some (.slice none 0 0)) (hb : b < w.heap.size) :
    Calls Tryd.prog 10 #[p, .slice (some ⟨b, 0, none⟩) 2 c] w fun e w' => e = .returned (.agg #[.int .i64 1, .int .i64 (-1), .int .i64 15]) ∧ Ext w w' := by
  have H0 := Hid.mk' h0
  have H1 := Hid.mk' h1
  have HB := Hid.mk' hb
  clear h0 h1 hb
  go_enter Tryd.func10, Tryd.ntmps10
  go_wp2
  go_loopw [5, 12] (fun l i wr => ((l = .int .u32 0 ∧ i = .int .i64 0) ∨ (l = .int .u32 3 ∧ i = .int .i64 1)) ∧ Hid (Blk wr w.heap.size #[.int .i64 0, .int .i64 0, .int .i64 0] 24) ∧ Hid (Ext w wr)) (fun _ i _ => 2 - (intOf i).toNat)
  case atStart => exact ⟨.inl ⟨rfl, rfl⟩, Hid.mk' (Blk.new _ _ _), Hid.mk' (by (repeat (with_reducible (first | exact Ext.refl _ | assumption | exact held_left (by assumption) | apply Ext.drewN | apply Ext.drew | apply Ext.alloc | (refine Ext.setCell ?_ (by first | (simp; done) | (simp; omega) | omega) _) | (refine Ext.trans ?_ (by assumption)) | (refine Ext.trans ?_ (held_left (by assumption)))))))⟩
  case round =>
    obtain ⟨hh, hX, hE⟩ := hrel
    have hbw : b < wr.heap.size := Nat.lt_of_lt_of_le HB.out hE.out.size
    have k0 := (hE.out.cells.1 b 0 HB.out).trans H0.out.1
    have k1 := (hE.out.cells.1 b 1 HB.out).trans H0.out.2.1
    have k2 := (hE.out.cells.1 b 2 HB.out).trans H0.out.2.2
    have k3 := (hE.out.cells.1 b 3 HB.out).trans H1.out.1
    have k4 := (hE.out.cells.1 b 4 HB.out).trans H1.out.2.1
    have k5 := (hE.out.cells.1 b 5 HB.out).trans H1.out.2.2
    rcases hh with ⟨rfl, rfl⟩ | ⟨rfl, rfl⟩
    · go_wp2_with (go_at_call 18; refine (txr0_any _ _).mono ?_; rintro e w1 ⟨rfl, hb1⟩; have HE1 := Hid.mk' (show Ext wr w1 by (repeat (with_reducible (first | exact Ext.refl _ | assumption | exact held_left (by assumption) | apply Ext.drewN | apply Ext.drew | apply Ext.alloc | (refine Ext.setCell ?_ (by first | (simp; done) | (simp; omega) | omega) _) | (refine Ext.trans ?_ (by assumption)) | (refine Ext.trans ?_ (held_left (by assumption))))))); clear hb1)
      go_roundw
      case rel => exact ⟨.inr ⟨rfl, rfl⟩, Hid.mk' (hX.out.ext HE1.out), Hid.mk' (hE.out.trans HE1.out)⟩
      case measure => simp [intOf]
    · have gx := hX.out.cell
      have gxf := hX.out.frozen
      have zx := hX.out.lt
      go_wp2
      simp [bodyPost, results, Tryd.results10, go_sem, *]
      have := hE.out
      (repeat (with_reducible (first | exact Ext.refl _ | assumption | exact held_left (by assumption) | apply Ext.drewN | apply Ext.drew | apply Ext.alloc | (refine Ext.setCell ?_ (by first | (simp; done) | (simp; omega) | omega) _) | (refine Ext.trans ?_ (by assumption)) | (refine Ext.trans ?_ (held_left (by assumption))))))

set_option maxRecDepth 100000 in set_option maxHeartbeats 4000000 in
theorem check1_any (p : Value) (b c : Nat) (w : World) (h0 : w.cell? ⟨b, 0, none⟩ = some (.int .u32 3) ∧ w.cell? ⟨b, 1, none⟩ = some (.int .u64 0) ∧ w.cell? ⟨b, 2, none⟩ = some (.slice none 0 0)) (hb : b < w.heap.size) (hN : Non w) :
    Calls Tryd.prog 10 #[p, .slice (some ⟨b, 0, none⟩) 1 c] w fun e w' => e = .returned (.agg #[.int .i64 (-1), .int .i64 (-1), .int .i64 0]) ∧ Ext w w' := by
  have H0 := Hid.mk' h0
  have HB := Hid.mk' hb
  have HN := Hid.mk' hN
  clear h0 hb hN
  go_enter Tryd.func10, Tryd.ntmps10
  go_wp2
  go_loopw [5, 12] (fun l i wr => ((l = .int .u32 0 ∧ i = .int .i64 0) ∨ (l = .int .u32 3 ∧ i = .int .i64 1)) ∧ Hid (Blk wr w.heap.size #[.int .i64 0, .int .i64 0, .int .i64 0] 24) ∧ Hid (Ext w wr)) (fun _ i _ => 2 - (intOf i).toNat)
  case atStart => exact ⟨.inl ⟨rfl, rfl⟩, Hid.mk' (Blk.new _ _ _), Hid.mk' (by (repeat (with_reducible (first | exact Ext.refl _ | assumption | exact held_left (by assumption) | apply Ext.drewN | apply Ext.drew | apply Ext.alloc | (refine Ext.setCell ?_ (by first | (simp; done) | (simp; omega) | omega) _) | (refine Ext.trans ?_ (by assumption)) | (refine Ext.trans ?_ (held_left (by assumption)))))))⟩
  case round =>
    obtain ⟨hh, hX, hE⟩ := hrel
    have hbw : b < wr.heap.size := Nat.lt_of_lt_of_le HB.out hE.out.size
    have k0 := (hE.out.cells.1 b 0 HB.out).trans H0.out.1
    have k1 := (hE.out.cells.1 b 1 HB.out).trans H0.out.2.1
    have k2 := (hE.out.cells.1 b 2 HB.out).trans H0.out.2.2
    rcases hh with ⟨rfl, rfl⟩ | ⟨rfl, rfl⟩
    · go_wp2_with (go_at_call 18; refine (txr0_any _ _).mono ?_; rintro e w1 ⟨rfl, hb1⟩; have HE1 := Hid.mk' (show Ext wr w1 by (repeat (with_reducible (first | exact Ext.refl _ | assumption | exact held_left (by assumption) | apply Ext.drewN | apply Ext.drew | apply Ext.alloc | (refine Ext.setCell ?_ (by first | (simp; done) | (simp; omega) | omega) _) | (refine Ext.trans ?_ (by assumption)) | (refine Ext.trans ?_ (held_left (by assumption))))))); clear hb1)
      go_roundw
      case rel => exact ⟨.inr ⟨rfl, rfl⟩, Hid.mk' (hX.out.ext HE1.out), Hid.mk' (hE.out.trans HE1.out)⟩
      case measure => simp [intOf]
    · have gx := hX.out.cell
      have gxf := hX.out.frozen
      have zx := hX.out.lt
      obtain ⟨n0, n1, n2⟩ := (HN.out.ext hE.out).1
      have nz := (HN.out.ext hE.out).2
      go_wp2
      simp [bodyPost, results, Tryd.results10, go_sem, *]
      have := hE.out
      (repeat (with_reducible (first | exact Ext.refl _ | assumption | exact held_left (by assumption) | apply Ext.drewN | apply Ext.drew | apply Ext.alloc | (refine Ext.setCell ?_ (by first | (simp; done) | (simp; omega) | omega) _) | (refine Ext.trans ?_ (by assumption)) | (refine Ext.trans ?_ (held_left (by assumption))))))

set_option maxRecDepth 100000 in set_option maxHeartbeats 4000000 in
theorem fits1_any (p : Value) (b c : Nat) (w : World) (h0 : w.cell? ⟨b, 0, none⟩ = some (.int .u32 3) ∧ w.cell? ⟨b, 1, none⟩ = some (.int .u64 0) ∧ w.cell? ⟨b, 2, none⟩ = some (.slice none 0 0)) (hb : b < w.heap.size) (hN : Non w) :
    Calls Tryd.prog 12 #[p, .slice (some ⟨b, 0, none⟩) 1 c] w fun e w' => e = .returned (.bool true) ∧ Ext w w' := by
  have HC := Hid.mk' (fun W (h : Ext w W) => check1_any p b c W ⟨(h.cells.1 b 0 hb).trans h0.1, (h.cells.1 b 1 hb).trans h0.2.1, (h.cells.1 b 2 hb).trans h0.2.2⟩ (Nat.lt_of_lt_of_le hb h.size) (hN.ext h))
  obtain ⟨⟨n0, n1, n2⟩, nz⟩ := hN
  clear h0 hb
  go_enter Tryd.func12, Tryd.ntmps12
  go_wp2
  go_region_held3 (fun w' => Ext (w) w' ∧ (∀ b o, b < (w).heap.size → w'.cell? ⟨b, o, none⟩ = (w).cell? ⟨b, o, none⟩) ∧ (∀ b o, b < (w).heap.size → w'.frozen? ⟨b, o, none⟩ = (w).frozen? ⟨b, o, none⟩)) ((exact held_of (by (repeat (with_reducible (first | exact Ext.refl _ | assumption | exact held_left (by assumption) | apply Ext.drewN | apply Ext.drew | apply Ext.alloc | (refine Ext.setCell ?_ (by first | (simp; done) | (simp; omega) | omega) _) | (refine Ext.trans ?_ (by assumption)) | (refine Ext.trans ?_ (held_left (by assumption))))))))) (first | (go_at_call 10; refine (HC.out _ (by (repeat (with_reducible (first | exact Ext.refl _ | assumption | exact held_left (by assumption) | apply Ext.drewN | apply Ext.drew | apply Ext.alloc | (refine Ext.setCell ?_ (by first | (simp; done) | (simp; omega) | omega) _) | (refine Ext.trans ?_ (by assumption)) | (refine Ext.trans ?_ (held_left (by assumption)))))))).mono ?_; rintro e w1 ⟨rfl, hb1⟩))
  go_wp2
  go_ret
  exact ⟨rfl, by (repeat (with_reducible (first | exact Ext.refl _ | assumption | exact held_left (by assumption) | apply Ext.drewN | apply Ext.drew | apply Ext.alloc | (refine Ext.setCell ?_ (by first | (simp; done) | (simp; omega) | omega) _) | (refine Ext.trans ?_ (by assumption)) | (refine Ext.trans ?_ (held_left (by assumption))))))⟩

theorem fault_awk : txt (faultT 1 (-1) 15) = (⟨#[116, 114, 97, 110, 115, 97, 99, 116, 105, 111, 110, 32, 49, 32, 101, 114, 114, 111, 114, 32, 49, 53]⟩ : ByteArray) := by
  unfold faultT
  rw [if_neg (by decide), if_pos rfl, join4]
  have e1 : Lib.itoa 1 = [49] := by unfold Lib.itoa; rw [if_neg (by decide), dec_lt (by decide)]; rfl
  have e2 : Lib.itoa 15 = [49, 53] := by
    unfold Lib.itoa
    rw [if_neg (by decide), show (15 : Int).toNat = 15 from rfl, dec_ge (by decide), dec_lt (by decide)]; rfl
  rw [e1, e2]
  rfl

set_option maxRecDepth 100000 in set_option maxHeartbeats 4000000 in
theorem awake14_any (w : World) (ht : Tab w) (hN : Non w) : Calls Tryd.prog 6 #[] w fun e w' => e = .returned (.bool true) ∧ Ext w w' := by
  have HER := Hid.mk' (fun W (h : Ext w W) => fault_any 1 (-1) 15 W (by decide) (by decide) (by decide) (by decide) (by decide) (by decide) (ht.ext h))
  rw [fault_awk] at HER
  have HFS := Hid.mk' (fun p b c W h0 hb (h : Ext w W) => fits1_any p b c W h0 hb (hN.ext h))
  clear ht hN
  go_enter Tryd.func6, Tryd.ntmps6
  go_upto_region 2 with (first
    | (go_at_call 11; refine (cnew14_any _).mono ?_; rintro e w1 ⟨g, rfl, hb1⟩; have HE1 := Hid.mk' (show Ext w w1 by (repeat (with_reducible (first | exact Ext.refl _ | assumption | exact held_left (by assumption) | apply Ext.drewN | apply Ext.drew | apply Ext.alloc | (refine Ext.setCell ?_ (by first | (simp; done) | (simp; omega) | omega) _) | (refine Ext.trans ?_ (by assumption)) | (refine Ext.trans ?_ (held_left (by assumption))))))); clear hb1)
    | (go_at_call 10; refine (check2_any _ _ _ _ (by simp) (by simp) (by simp)).mono ?_; rintro e w2 ⟨rfl, hb2⟩; have HE2 := Hid.mk' (show Ext w w2 by have := HE1.out; (repeat (with_reducible (first | exact Ext.refl _ | assumption | exact held_left (by assumption) | apply Ext.drewN | apply Ext.drew | apply Ext.alloc | (refine Ext.setCell ?_ (by first | (simp; done) | (simp; omega) | omega) _) | (refine Ext.trans ?_ (by assumption)) | (refine Ext.trans ?_ (held_left (by assumption))))))); clear hb2))
  go_wp2_with (first
    | (go_at_call 4; refine (HER.out _ (by have := HE2.out; (repeat (with_reducible (first | exact Ext.refl _ | assumption | exact held_left (by assumption) | apply Ext.drewN | apply Ext.drew | apply Ext.alloc | (refine Ext.setCell ?_ (by first | (simp; done) | (simp; omega) | omega) _) | (refine Ext.trans ?_ (by assumption)) | (refine Ext.trans ?_ (held_left (by assumption)))))))).mono ?_; rintro e w3 ⟨rfl, hb3⟩; have HE3 := Hid.mk' (show Ext w w3 by have := HE2.out; (repeat (with_reducible (first | exact Ext.refl _ | assumption | exact held_left (by assumption) | apply Ext.drewN | apply Ext.drew | apply Ext.alloc | (refine Ext.setCell ?_ (by first | (simp; done) | (simp; omega) | omega) _) | (refine Ext.trans ?_ (by assumption)) | (refine Ext.trans ?_ (held_left (by assumption))))))); clear hb3)
    | (go_at_call 11; refine (cnew14_any _).mono ?_; rintro e w4 ⟨g4, rfl, hb4⟩; have HE4 := Hid.mk' (show Ext w w4 by have := HE3.out; (repeat (with_reducible (first | exact Ext.refl _ | assumption | exact held_left (by assumption) | apply Ext.drewN | apply Ext.drew | apply Ext.alloc | (refine Ext.setCell ?_ (by first | (simp; done) | (simp; omega) | omega) _) | (refine Ext.trans ?_ (by assumption)) | (refine Ext.trans ?_ (held_left (by assumption))))))); clear hb4)
    | (go_at_call 12; refine (HFS.out _ _ _ _ (by simp) (by simp) (by have := HE4.out; (repeat (with_reducible (first | exact Ext.refl _ | assumption | exact held_left (by assumption) | apply Ext.drewN | apply Ext.drew | apply Ext.alloc | (refine Ext.setCell ?_ (by first | (simp; done) | (simp; omega) | omega) _) | (refine Ext.trans ?_ (by assumption)) | (refine Ext.trans ?_ (held_left (by assumption)))))))).mono ?_; rintro e w5 ⟨rfl, hb5⟩; have HE5 := Hid.mk' (show Ext w w5 by have := HE4.out; (repeat (with_reducible (first | exact Ext.refl _ | assumption | exact held_left (by assumption) | apply Ext.drewN | apply Ext.drew | apply Ext.alloc | (refine Ext.setCell ?_ (by first | (simp; done) | (simp; omega) | omega) _) | (refine Ext.trans ?_ (by assumption)) | (refine Ext.trans ?_ (held_left (by assumption))))))); clear hb5))
  go_ret
  exact ⟨rfl, HE5.out⟩

end Go.Proofs.YthdjinicmnhgpaaDoor
