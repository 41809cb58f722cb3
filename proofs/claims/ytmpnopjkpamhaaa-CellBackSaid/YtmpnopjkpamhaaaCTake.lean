/-
The program's cell: Take.
-/
import Derived.Test.YtmpnopjkpamhaaaCellTk2
namespace Go.Proofs.Ytmpnopjkpamhaaa
open Go.RowKit

def KRel (g d : Nat) (w : World) (R : (K × Nat) × RS) (c : K) (m : Nat) (wx : World) : Prop :=
  (R.2.e = 0 → (c, m) = R.1) ∧ Blk wx (w.heap.size + 1) #[.int .u8 c.k, .int .u8 c.v.ty, .int .i64 c.v.n, .complex .f64 c.v.x c.v.y, .string c.v.s] 37 ∧ Blk wx w.heap.size #[.int .u8 0, .int .u8 0, .int .i64 0, .complex .f64 0 0, .string ByteArray.empty] 37 ∧ RD wx g d R.2 ∧ Tch g w wx

theorem ktake_end {r : (K × Nat) × RS} (h : r.2.e ≠ 0) : finC r = ((K.zero, 0), r.2) := by unfold finC; rw [if_pos h]

set_option maxRecDepth 100000 in set_option maxHeartbeats 1600000 in
theorem ctake_any (g d : Nat) (st : RS) (kind ver : Int) (w : World) (h : RD w g d st) (hk0 : 0 ≤ kind) (hk1 : kind < 256) :
    Calls Try.prog 20 #[.pointer (some ⟨g, 0, none⟩), .int .u8 kind, .int .u8 ver] w fun e w' =>
      e = .returned (.tuple #[(takeC kind ver st).1.1.agg, .int .i64 (takeC kind ver st).1.2]) ∧ RD w' g d (takeC kind ver st).2 ∧ Tch g w w' := by
  have H := Hid.mk' h
  have hg := h.lt
  have hok : st.ok := by obtain ⟨_, _, _, hok, _⟩ := h; exact hok
  clear h
  unfold takeC
  obtain ⟨R, hR⟩ : ∃ R, R = preC kind ver st := ⟨_, rfl⟩
  rw [← hR]
  have HRR := Hid.mk' hR
  clear hR
  go_enter Try.func20, Try.ntmps20
  go_upto_block 0 with (fail)
  go_cut [9] (fun p wx => ∃ (c : K) (m : Nat), p = .int .i64 m ∧ Hid (KRel g d w R c m wx))
  case first =>
    as_aux_lemma =>
      by_cases hv : ver = 1 ∨ ver = 2
      · by_cases hkd : kind < 1 ∨ 6 < kind
        · have hpre : R = ((K.zero, 0), giveS st 11) := by rw [HRR.out]; unfold preC; rw [if_neg (fun h => h hv), if_pos hkd]
          have HP := Hid.mk' hpre
          have HTY := Hid.mk' (fun w => typed_no kind w hkd)
          have HF := Hid.mk' (fun w h => fail_any g d st 11 w h)
          have hf : failS st 11 = giveS st 11 := by unfold failS; rw [if_pos (by decide)]
          rw [hf] at HF
          have hv1 : 1 ≤ ver := by omega
          have hv2 : ver ≤ 2 := by omega
          clear hpre hf hkd hv
          go_wp2_with (first
            | (go_at_call 37; refine (HTY.out _).mono ?_; rintro e w7 ⟨rfl, rfl⟩)
            | (go_at_call 41; refine (HF.out _ (H.out.ext (by (repeat (with_reducible (first | exact Ext.refl _ | assumption | exact held_left (by assumption) | apply Ext.drewN | apply Ext.drew | apply Ext.alloc | (refine Ext.setCell ?_ (by first | (simp; done) | (simp; omega) | omega) _) | (refine Ext.trans ?_ (by assumption)) | (refine Ext.trans ?_ (held_left (by assumption))))))))).mono ?_; rintro e w1 ⟨rfl, hr1, ht1⟩; have h8 := (Blk.new' (w := w.alloc (.cells #[.int .u8 0, .int .u8 0, .int .i64 0, .complex .f64 0 0, .string ByteArray.empty] 37)) (b := w.heap.size + 1) #[.int .u8 0, .int .u8 0, .int .i64 0, .complex .f64 0 0, .string ByteArray.empty] 37 (by simp)).tch ht1 (by omega); have h6 := ((Blk.new w #[.int .u8 0, .int .u8 0, .int .i64 0, .complex .f64 0 0, .string ByteArray.empty] 37).alloc (.cells #[.int .u8 0, .int .u8 0, .int .i64 0, .complex .f64 0 0, .string ByteArray.empty] 37)).tch ht1 (by omega); have HB8 := Hid.mk' h8; have HB6 := Hid.mk' h6; have k8 := h8.cell; have f8 := h8.frozen; have z8 := h8.lt; have HR1 := Hid.mk' hr1; have HT1 : Hid (Tch g w w1) := Hid.mk' ((((Tch.refl g w).alloc _).alloc _).trans ht1); clear h8 h6 hr1 ht1))
          go_meet
          case rel => exact ⟨K.zero, 0, rfl, Hid.mk' ⟨fun _ => by rw [HP.out], HB8.out, HB6.out, by rw [HP.out]; exact HR1.out, HT1.out⟩⟩
        have HTY := Hid.mk' (fun w => typed_yes kind w (by omega) (by omega))
        rcases hv with rfl | rfl
        · have hpre : R = firstC kind st := by rw [HRR.out]; unfold preC; rw [if_neg (fun h => h (.inl rfl)), if_neg hkd, if_pos rfl]
          have HF := Hid.mk' (fun w h => first_any g d st kind w h hk0 hk1)
          rw [← hpre] at HF
          clear hpre hkd
          go_wp2_with (first
            | (go_at_call 37; refine (HTY.out _).mono ?_; rintro e w7 ⟨rfl, rfl⟩)
            | (go_at_call 42; refine (HF.out _ (H.out.ext (by (repeat (with_reducible (first | exact Ext.refl _ | assumption | exact held_left (by assumption) | apply Ext.drewN | apply Ext.drew | apply Ext.alloc | (refine Ext.setCell ?_ (by first | (simp; done) | (simp; omega) | omega) _) | (refine Ext.trans ?_ (by assumption)) | (refine Ext.trans ?_ (held_left (by assumption))))))))).mono ?_; rintro e w1 ⟨⟨ck, cty, cn, cx, cy, cs⟩, m, rfl, hc1, hr1, ht1⟩; simp only [K.agg]; have HC1 := Hid.mk' hc1; clear hc1; have h8 := (Blk.new' (w := w.alloc (.cells #[.int .u8 0, .int .u8 0, .int .i64 0, .complex .f64 0 0, .string ByteArray.empty] 37)) (b := w.heap.size + 1) #[.int .u8 0, .int .u8 0, .int .i64 0, .complex .f64 0 0, .string ByteArray.empty] 37 (by simp)).tch ht1 (by omega); have h6 := ((Blk.new w #[.int .u8 0, .int .u8 0, .int .i64 0, .complex .f64 0 0, .string ByteArray.empty] 37).alloc (.cells #[.int .u8 0, .int .u8 0, .int .i64 0, .complex .f64 0 0, .string ByteArray.empty] 37)).tch ht1 (by omega); have HB8 := Hid.mk' h8; have HB6 := Hid.mk' h6; have k8 := h8.cell; have f8 := h8.frozen; have z8 := h8.lt; have HR1 := Hid.mk' hr1; have HT1 : Hid (Tch g w w1) := Hid.mk' ((((Tch.refl g w).alloc _).alloc _).trans ht1); clear h8 h6 hr1 ht1))
          go_meet
          case rel => exact ⟨⟨ck, cty, cn, cx, cy, cs⟩, m, rfl, Hid.mk' ⟨HC1.out, Blk.five HB8.out, ((((HB6.out.other _ _ (by simp)).other _ _ (by simp)).other _ _ (by simp)).other _ _ (by simp)).other _ _ (by simp), RD.five HR1.out (by omega), Tch.five HT1.out (by omega)⟩⟩
        · by_cases hk : kind = 5 ∨ kind = 6
          · have hpre : R = secondC kind st := by rw [HRR.out]; unfold preC; rw [if_neg (fun h => h (.inr rfl)), if_neg hkd, if_neg (by decide), if_pos hk]
            have HF := Hid.mk' (fun w h => second_any g d st kind w h)
            rw [← hpre] at HF
            have HX := Hid.mk' (fun w => texty_yes kind w hk)
            clear hpre hkd hk
            go_wp2_with (first
              | (go_at_call 37; refine (HTY.out _).mono ?_; rintro e w7 ⟨rfl, rfl⟩)
              | (go_at_call 28; refine (HX.out _).mono ?_; rintro e w8 ⟨rfl, rfl⟩)
              | (go_at_call 43; refine (HF.out _ (H.out.ext (by (repeat (with_reducible (first | exact Ext.refl _ | assumption | exact held_left (by assumption) | apply Ext.drewN | apply Ext.drew | apply Ext.alloc | (refine Ext.setCell ?_ (by first | (simp; done) | (simp; omega) | omega) _) | (refine Ext.trans ?_ (by assumption)) | (refine Ext.trans ?_ (held_left (by assumption))))))))).mono ?_; rintro e w1 ⟨⟨ck, cty, cn, cx, cy, cs⟩, m, rfl, hc1, hr1, ht1⟩; simp only [K.agg]; have HC1 := Hid.mk' hc1; clear hc1; have h8 := (Blk.new' (w := w.alloc (.cells #[.int .u8 0, .int .u8 0, .int .i64 0, .complex .f64 0 0, .string ByteArray.empty] 37)) (b := w.heap.size + 1) #[.int .u8 0, .int .u8 0, .int .i64 0, .complex .f64 0 0, .string ByteArray.empty] 37 (by simp)).tch ht1 (by omega); have h6 := ((Blk.new w #[.int .u8 0, .int .u8 0, .int .i64 0, .complex .f64 0 0, .string ByteArray.empty] 37).alloc (.cells #[.int .u8 0, .int .u8 0, .int .i64 0, .complex .f64 0 0, .string ByteArray.empty] 37)).tch ht1 (by omega); have HB8 := Hid.mk' h8; have HB6 := Hid.mk' h6; have k8 := h8.cell; have f8 := h8.frozen; have z8 := h8.lt; have HR1 := Hid.mk' hr1; have HT1 : Hid (Tch g w w1) := Hid.mk' ((((Tch.refl g w).alloc _).alloc _).trans ht1); clear h8 h6 hr1 ht1))
            go_meet
            case rel => exact ⟨⟨ck, cty, cn, cx, cy, cs⟩, m, rfl, Hid.mk' ⟨HC1.out, Blk.five HB8.out, ((((HB6.out.other _ _ (by simp)).other _ _ (by simp)).other _ _ (by simp)).other _ _ (by simp)).other _ _ (by simp), RD.five HR1.out (by omega), Tch.five HT1.out (by omega)⟩⟩
          · have hpre : R = ((⟨2, (takeV kind 2 st).1⟩, 0), (takeV kind 2 st).2) := by rw [HRR.out]; unfold preC; rw [if_neg (fun h => h (.inr rfl)), if_neg hkd, if_neg (by decide), if_neg hk]
            have HF := Hid.mk' (fun w h => vtake_any g d st kind 2 w h hk0 hk1)
            have HX := Hid.mk' (fun w => texty_no kind w (by omega))
            generalize takeV kind 2 st = U at *
            obtain ⟨⟨ty, n, x, y, s⟩, S2⟩ := U
            simp only at HF hpre
            have HP := Hid.mk' hpre
            clear hpre hkd hk
            go_wp2_with (first
              | (go_at_call 37; refine (HTY.out _).mono ?_; rintro e w7 ⟨rfl, rfl⟩)
              | (go_at_call 28; refine (HX.out _).mono ?_; rintro e w8 ⟨rfl, rfl⟩)
              | (go_at_call 44; refine (HF.out _ (H.out.ext (by (repeat (with_reducible (first | exact Ext.refl _ | assumption | exact held_left (by assumption) | apply Ext.drewN | apply Ext.drew | apply Ext.alloc | (refine Ext.setCell ?_ (by first | (simp; done) | (simp; omega) | omega) _) | (refine Ext.trans ?_ (by assumption)) | (refine Ext.trans ?_ (held_left (by assumption))))))))).mono ?_; rintro e w1 ⟨rfl, hr1, ht1⟩; have h8 := (Blk.new' (w := w.alloc (.cells #[.int .u8 0, .int .u8 0, .int .i64 0, .complex .f64 0 0, .string ByteArray.empty] 37)) (b := w.heap.size + 1) #[.int .u8 0, .int .u8 0, .int .i64 0, .complex .f64 0 0, .string ByteArray.empty] 37 (by simp)).tch ht1 (by omega); have h6 := ((Blk.new w #[.int .u8 0, .int .u8 0, .int .i64 0, .complex .f64 0 0, .string ByteArray.empty] 37).alloc (.cells #[.int .u8 0, .int .u8 0, .int .i64 0, .complex .f64 0 0, .string ByteArray.empty] 37)).tch ht1 (by omega); have HB8 := Hid.mk' h8; have HB6 := Hid.mk' h6; have k8 := h8.cell; have f8 := h8.frozen; have z8 := h8.lt; have HR1 := Hid.mk' hr1; have HT1 : Hid (Tch g w w1) := Hid.mk' ((((Tch.refl g w).alloc _).alloc _).trans ht1); clear h8 h6 hr1 ht1; clear k8 f8 z8)
              | (go_at_call 18; refine (cof_any ty n x y s _).mono ?_; rintro e w3 ⟨rfl, hb3⟩; have h8 := HB8.out.ext hb3; have HC8 := Hid.mk' h8; have k8 := h8.cell; have f8 := h8.frozen; have z8 := h8.lt; have HC6 := Hid.mk' (HB6.out.ext hb3); have HR3 := Hid.mk' (HR1.out.ext hb3); have HT3 := Hid.mk' (HT1.out.trans (Tch.of_ext hb3)); clear h8 hb3))
            go_meet
            case rel => exact ⟨⟨2, ⟨ty, n, x, y, s⟩⟩, 0, rfl, Hid.mk' ⟨fun _ => by rw [HP.out], Blk.five HC8.out, ((((HC6.out.other _ _ (by simp)).other _ _ (by simp)).other _ _ (by simp)).other _ _ (by simp)).other _ _ (by simp), by rw [HP.out]; exact RD.five HR3.out (by omega), Tch.five HT3.out (by omega)⟩⟩
      · have hpre : R = ((K.zero, 0), giveS st 18) := by rw [HRR.out]; unfold preC; rw [if_pos hv]
        have HP := Hid.mk' hpre
        have HF := Hid.mk' (fun w h => fail_any g d st 18 w h)
        have hf : failS st 18 = giveS st 18 := by unfold failS; rw [if_pos (by decide)]
        rw [hf] at HF
        clear hpre hf
        by_cases h1 : ver < 1
        · clear hv
          go_wp2_with (go_at_call 41; refine (HF.out _ (H.out.ext (by (repeat (with_reducible (first | exact Ext.refl _ | assumption | exact held_left (by assumption) | apply Ext.drewN | apply Ext.drew | apply Ext.alloc | (refine Ext.setCell ?_ (by first | (simp; done) | (simp; omega) | omega) _) | (refine Ext.trans ?_ (by assumption)) | (refine Ext.trans ?_ (held_left (by assumption))))))))).mono ?_; rintro e w1 ⟨rfl, hr1, ht1⟩; have h8 := (Blk.new' (w := w.alloc (.cells #[.int .u8 0, .int .u8 0, .int .i64 0, .complex .f64 0 0, .string ByteArray.empty] 37)) (b := w.heap.size + 1) #[.int .u8 0, .int .u8 0, .int .i64 0, .complex .f64 0 0, .string ByteArray.empty] 37 (by simp)).tch ht1 (by omega); have h6 := ((Blk.new w #[.int .u8 0, .int .u8 0, .int .i64 0, .complex .f64 0 0, .string ByteArray.empty] 37).alloc (.cells #[.int .u8 0, .int .u8 0, .int .i64 0, .complex .f64 0 0, .string ByteArray.empty] 37)).tch ht1 (by omega); have HB8 := Hid.mk' h8; have HB6 := Hid.mk' h6; have k8 := h8.cell; have f8 := h8.frozen; have z8 := h8.lt; have HR1 := Hid.mk' hr1; have HT1 : Hid (Tch g w w1) := Hid.mk' ((((Tch.refl g w).alloc _).alloc _).trans ht1); clear h8 h6 hr1 ht1)
          go_meet
          case rel => exact ⟨K.zero, 0, rfl, Hid.mk' ⟨fun _ => by rw [HP.out], HB8.out, HB6.out, by rw [HP.out]; exact HR1.out, HT1.out⟩⟩
        · have h2 : 2 < ver := by omega
          clear hv
          go_wp2_with (go_at_call 41; refine (HF.out _ (H.out.ext (by (repeat (with_reducible (first | exact Ext.refl _ | assumption | exact held_left (by assumption) | apply Ext.drewN | apply Ext.drew | apply Ext.alloc | (refine Ext.setCell ?_ (by first | (simp; done) | (simp; omega) | omega) _) | (refine Ext.trans ?_ (by assumption)) | (refine Ext.trans ?_ (held_left (by assumption))))))))).mono ?_; rintro e w1 ⟨rfl, hr1, ht1⟩; have h8 := (Blk.new' (w := w.alloc (.cells #[.int .u8 0, .int .u8 0, .int .i64 0, .complex .f64 0 0, .string ByteArray.empty] 37)) (b := w.heap.size + 1) #[.int .u8 0, .int .u8 0, .int .i64 0, .complex .f64 0 0, .string ByteArray.empty] 37 (by simp)).tch ht1 (by omega); have h6 := ((Blk.new w #[.int .u8 0, .int .u8 0, .int .i64 0, .complex .f64 0 0, .string ByteArray.empty] 37).alloc (.cells #[.int .u8 0, .int .u8 0, .int .i64 0, .complex .f64 0 0, .string ByteArray.empty] 37)).tch ht1 (by omega); have HB8 := Hid.mk' h8; have HB6 := Hid.mk' h6; have k8 := h8.cell; have f8 := h8.frozen; have z8 := h8.lt; have HR1 := Hid.mk' hr1; have HT1 : Hid (Tch g w w1) := Hid.mk' ((((Tch.refl g w).alloc _).alloc _).trans ht1); clear h8 h6 hr1 ht1)
          go_meet
          case rel => exact ⟨K.zero, 0, rfl, Hid.mk' ⟨fun _ => by rw [HP.out], HB8.out, HB6.out, by rw [HP.out]; exact HR1.out, HT1.out⟩⟩
  case rest =>
    obtain ⟨⟨ck, cty, cn, cx, cy, cs⟩, m, rfl, hk⟩ := hcut
    obtain ⟨hc1, h8, h6, hr, ht⟩ := hk.out
    simp only at h8
    have HER := Hid.mk' (fun w h => rerr_any g d R.2 w h)
    have k8 := h8.cell
    have k6 := h6.cell
    have f6 := h6.frozen
    have z6 := h6.lt
    have HB6 := Hid.mk' h6
    have HR1 := Hid.mk' hr
    have HT1 := Hid.mk' ht
    have HC1 := Hid.mk' hc1
    clear h8 h6 hr ht hc1 hk
    by_cases he : R.2.e = 0
    · have hfin : finC R = R := finC_ok he
      rw [he] at HER
      have HE := Hid.mk' he
      have HFI := Hid.mk' hfin
      clear he hfin
      go_wp2_with (go_at_call 22; refine (HER.out _ HR1.out).mono ?_; rintro e w9 ⟨rfl, rfl⟩)
      refine bodyPost_ret (v := .tuple #[(⟨ck, ⟨cty, cn, cx, cy, cs⟩⟩ : K).agg, .int .i64 m]) (res_ctake (Blk.five HB6.out) rfl rfl) rfl ⟨?_, by rw [HFI.out]; exact RD.five HR1.out hg, Tch.five HT1.out (Nat.le_refl _)⟩
      rw [HFI.out, ← HC1.out HE.out]
    · have hfin := ktake_end he
      have he2 : (R.2.e != 0) = true := by simpa using he
      have HFI := Hid.mk' hfin
      clear he hfin
      go_wp2_with (go_at_call 22; refine (HER.out _ HR1.out).mono ?_; rintro e w9 ⟨rfl, rfl⟩)
      refine bodyPost_ret (v := .tuple #[K.zero.agg, .int .i64 (0 : Nat)]) (res_ctake (Blk.five HB6.out) rfl rfl) rfl ⟨by rw [HFI.out], by rw [HFI.out]; exact RD.five HR1.out hg, Tch.five HT1.out (Nat.le_refl _)⟩

end Go.Proofs.Ytmpnopjkpamhaaa
