/-
The walk of ValueBack.
-/
import Derived.Test.YtkofnmbkfaebcaaVBackP
import Derived.Test.YtkofnmbkfaebcaaVCut
namespace Go.Proofs.Ytkofnmbkfaebcaa
open Go.RowKit

def endOf (ty V0 : Int) (lb : List Int) : Int := endE (takeV ty V0 ⟨lb, 0⟩).2

set_option maxRecDepth 100000 in set_option maxHeartbeats 1600000 in
theorem vbk_any (ty n : Int) (x y : Nat) (s : ByteArray) (ver : Int) (v : Value) (lb : List Int) (w : World) (hl : Sl w v 1 (lb.map bcell)) (hib : isB lb) (hlen : lb.length ≤ 9223372036854775807)
    (hn : -9223372036854775808 ≤ n ∧ n < 9223372036854775808) (hx : x < 2 ^ 64) (hy : y < 2 ^ 64) (hs : s.size ≤ 9223372036854775807) (hv0 : 0 ≤ ver) (hv1 : ver < 256) :
    Calls Try.prog 14 #[.agg #[.int .u8 ty, .int .i64 n, .int .u64 x, .int .u64 y, .string s], .int .u8 ver, v] w fun e w' => e = .returned (.bool true) ∧ Ext w w' := by
  have HRA := Hid.mk' (fun w => rright_any ty n x y s w hs)
  obtain ⟨RA, hRA⟩ : ∃ R, R = rightV ty n x y s := ⟨_, rfl⟩
  rw [← hRA] at HRA
  have HOA := Hid.mk' (fun w => vown_any ty n x y s w)
  simp only [Int.toNat_natCast] at HOA
  obtain ⟨ab, capb, rfl, hshape⟩ := hl.shape (n := lb.length) (by simp)
  have HL := Hid.mk' hl
  clear hl hshape
  by_cases hA : RA = 0
  · subst hA
    by_cases h300 : 300 < lb.length
    · go_enter Try.func14, Try.ntmps14
      go_wp2_with (first
        | (go_at_call 33; refine (HRA.out _).mono ?_; rintro e w1 ⟨rfl, hb1⟩; have hE_w1 : Ext (w.alloc (.cells #[.int .u8 ty, .int .i64 n, .int .u64 x, .int .u64 y, .string s] 42)) w1 := (by (repeat (with_reducible (first | exact Ext.refl _ | assumption | exact held_left (by assumption) | apply Ext.drewN | apply Ext.drew | apply Ext.alloc | (refine Ext.setCell ?_ (by first | (simp; done) | (simp; omega) | omega) _) | (refine Ext.trans ?_ (by assumption)) | (refine Ext.trans ?_ (held_left (by assumption))))))); obtain ⟨hc_w1, hf_w1⟩ := hE_w1.cells; have hz_w1 := hE_w1.size))
      all_goals (go_ret; exact ⟨rfl, by (repeat (with_reducible (first | exact Ext.refl _ | assumption | exact held_left (by assumption) | apply Ext.drewN | apply Ext.drew | apply Ext.alloc | (refine Ext.setCell ?_ (by first | (simp; done) | (simp; omega) | omega) _) | (refine Ext.trans ?_ (by assumption)) | (refine Ext.trans ?_ (held_left (by assumption))))))⟩)
    have h300' : lb.length ≤ 300 := by omega
    clear h300
    obtain ⟨V0, hV⟩ : ∃ V0, V0 = 1 + ver % 2 := ⟨_, rfl⟩
    have hV12 : V0 = 1 ∨ V0 = 2 := by omega
    have eA : errV ty n x y s V0 = 0 := by unfold errV; rw [if_pos hV12]; exact hRA.symm
    have HPA := Hid.mk' (fun (w : World) => vput_ok (.slice none 0 0) [] ty n x y s V0 w eA (nilSl w) (Nat.zero_le _) hn hx hy hs)
    simp only [List.nil_append] at HPA
    have hplen := putL_len eA hn
    have hB := isB_putL (ver := V0) hRA.symm
    have hty := right_zero hRA.symm
    have hT := takeV_put ⟨ty, n, x, y, s⟩ V0 [] hV12 hRA.symm ⟨hn, hx, hy⟩
    rw [List.append_nil] at hT
    simp only [V.put] at hT
    have HTR := Hid.mk' (fun g d w h => vtake_any g d ⟨putL ty n x y s V0, 0⟩ ty V0 w h (by omega) (by omega))
    rw [hT] at HTR
    simp only at HTR
    have HEN := Hid.mk' (fun g d w h => rend_any g d ⟨[], 0⟩ w h)
    have HTQ := Hid.mk' (fun g d w h => vtake_any g d ⟨lb, 0⟩ ty V0 w h (by omega) (by omega))
    have HBK := Hid.mk' (fun w => vback_any ty n x y s w)
    have hNeq := neq_val ty n x y s
    obtain ⟨vy, Sy, hQ⟩ : ∃ vy Sy, takeV ty V0 ⟨lb, 0⟩ = (vy, Sy) := ⟨_, _, rfl⟩
    have HQ := Hid.mk' hQ
    rw [hQ] at HTQ
    simp only at HTQ
    have HEQ := Hid.mk' (fun g d w h => rend_any g d Sy w h)
    generalize putL ty n x y s V0 = LA at *
    have HBA := Hid.mk' hB
    have HIB := Hid.mk' hib
    have HV := Hid.mk' hV
    have HVV := Hid.mk' hV12
    have HTY := Hid.mk' hty
    have hy0 : 1 ≤ ty := hty.1
    have hy6 : ty ≤ 6 := hty.2.1
    obtain ⟨yt, yn, yx, yy, ys⟩ := vy
    simp only at HTQ
    obtain ⟨E, hE⟩ : ∃ E, E = endE Sy := ⟨_, rfl⟩
    rw [← hE] at HEQ
    have HEE := Hid.mk' hE
    clear hn hx hy hRA hV12 eA hV hB hty hT hQ hib hE hs
    go_enter Try.func14, Try.ntmps14
    go_upto_region 2 with (fail)
    rw [← HV.out]
    go_upto_region 9 with (first
      | (go_at_call 33; refine (HRA.out _).mono ?_; rintro e w1 ⟨rfl, hb1⟩; have hE_w1 : Ext (w.alloc (.cells #[.int .u8 ty, .int .i64 n, .int .u64 x, .int .u64 y, .string s] 42)) w1 := (by (repeat (with_reducible (first | exact Ext.refl _ | assumption | exact held_left (by assumption) | apply Ext.drewN | apply Ext.drew | apply Ext.alloc | (refine Ext.setCell ?_ (by first | (simp; done) | (simp; omega) | omega) _) | (refine Ext.trans ?_ (by assumption)) | (refine Ext.trans ?_ (held_left (by assumption))))))); obtain ⟨hc_w1, hf_w1⟩ := hE_w1.cells; have hz_w1 := hE_w1.size)
      | (go_at_call 32; refine (HOA.out _).mono ?_; rintro e w2 ⟨rfl, hb2⟩; have hE_w2 : Ext (w.alloc (.cells #[.int .u8 ty, .int .i64 n, .int .u64 x, .int .u64 y, .string s] 42)) w2 := (by (repeat (with_reducible (first | exact Ext.refl _ | assumption | exact held_left (by assumption) | apply Ext.drewN | apply Ext.drew | apply Ext.alloc | (refine Ext.setCell ?_ (by first | (simp; done) | (simp; omega) | omega) _) | (refine Ext.trans ?_ (by assumption)) | (refine Ext.trans ?_ (held_left (by assumption))))))); obtain ⟨hc_w2, hf_w2⟩ := hE_w2.cells; have hz_w2 := hE_w2.size)
      | (go_at_call 36; refine (HPA.out _).mono ?_; rintro e w3 ⟨v3, rfl, ho3, hb3⟩; have hE_w3 : Ext (w.alloc (.cells #[.int .u8 ty, .int .i64 n, .int .u64 x, .int .u64 y, .string s] 42)) w3 := (by (repeat (with_reducible (first | exact Ext.refl _ | assumption | exact held_left (by assumption) | apply Ext.drewN | apply Ext.drew | apply Ext.alloc | (refine Ext.setCell ?_ (by first | (simp; done) | (simp; omega) | omega) _) | (refine Ext.trans ?_ (by assumption)) | (refine Ext.trans ?_ (held_left (by assumption))))))); obtain ⟨hc_w3, hf_w3⟩ := hE_w3.cells; have hz_w3 := hE_w3.size; have HO3 := Hid.mk' ho3; clear ho3)
      | (go_at_call_of 42 v3; refine (read_any _ LA _ HO3.out.sl (by omega) HBA.out).mono ?_; rintro e w4 ⟨g, rfl, hg, hr, hb4⟩; have hE_w4 : Ext (w.alloc (.cells #[.int .u8 ty, .int .i64 n, .int .u64 x, .int .u64 y, .string s] 42)) w4 := (by (repeat (with_reducible (first | exact Ext.refl _ | assumption | exact held_left (by assumption) | apply Ext.drewN | apply Ext.drew | apply Ext.alloc | (refine Ext.setCell ?_ (by first | (simp; done) | (simp; omega) | omega) _) | (refine Ext.trans ?_ (by assumption)) | (refine Ext.trans ?_ (held_left (by assumption))))))); obtain ⟨hc_w4, hf_w4⟩ := hE_w4.cells; have hz_w4 := hE_w4.size; have HR4 := Hid.mk' hr; have hgl := hr.lt; clear hr)
      | (go_at_call 42; refine (read_any _ lb _ (HL.out.ext (by (repeat (with_reducible (first | exact Ext.refl _ | assumption | exact held_left (by assumption) | apply Ext.drewN | apply Ext.drew | apply Ext.alloc | (refine Ext.setCell ?_ (by first | (simp; done) | (simp; omega) | omega) _) | (refine Ext.trans ?_ (by assumption)) | (refine Ext.trans ?_ (held_left (by assumption)))))))) (by omega) HIB.out).mono ?_; rintro e w5 ⟨q, rfl, hq, hr, hb5⟩; have hE_w5 : Ext (w.alloc (.cells #[.int .u8 ty, .int .i64 n, .int .u64 x, .int .u64 y, .string s] 42)) w5 := (by (repeat (with_reducible (first | exact Ext.refl _ | assumption | exact held_left (by assumption) | apply Ext.drewN | apply Ext.drew | apply Ext.alloc | (refine Ext.setCell ?_ (by first | (simp; done) | (simp; omega) | omega) _) | (refine Ext.trans ?_ (by assumption)) | (refine Ext.trans ?_ (held_left (by assumption))))))); obtain ⟨hc_w5, hf_w5⟩ := hE_w5.cells; have hz_w5 := hE_w5.size; have HR5 := Hid.mk' hr; have HG5 := Hid.mk' (HR4.out.ext hb5); clear hr))
    all_goals try (go_ret; exact ⟨rfl, by (repeat (with_reducible (first | exact Ext.refl _ | assumption | exact held_left (by assumption) | apply Ext.drewN | apply Ext.drew | apply Ext.alloc | (refine Ext.setCell ?_ (by first | (simp; done) | (simp; omega) | omega) _) | (refine Ext.trans ?_ (by assumption)) | (refine Ext.trans ?_ (held_left (by assumption))))))⟩)
    clear hc_w1 hf_w1 hc_w2 hf_w2 hc_w3 hf_w3 hc_w4 hf_w4
    go_upto_region 10 with (first
      | (go_at_call 43; refine (HTR.out g _ _ HG5.out).mono ?_; rintro e w6 ⟨rfl, hr6, ht6⟩; have hb6 : Ext (w.alloc (.cells #[.int .u8 ty, .int .i64 n, .int .u64 x, .int .u64 y, .string s] 42)) w6 := Tch.ext hE_w5 (Nat.le_trans hE_w3.size hg) ht6; have hE_w6 : Ext (w.alloc (.cells #[.int .u8 ty, .int .i64 n, .int .u64 x, .int .u64 y, .string s] 42)) w6 := (by (repeat (with_reducible (first | exact Ext.refl _ | assumption | exact held_left (by assumption) | apply Ext.drewN | apply Ext.drew | apply Ext.alloc | (refine Ext.setCell ?_ (by first | (simp; done) | (simp; omega) | omega) _) | (refine Ext.trans ?_ (by assumption)) | (refine Ext.trans ?_ (held_left (by assumption))))))); obtain ⟨hc_w6, hf_w6⟩ := hE_w6.cells; have hz_w6 := hE_w6.size; have HR6 := Hid.mk' hr6; have HQ6 := Hid.mk' (HR5.out.tch ht6 (by omega) (.inl hgl)); clear hr6 ht6))
    have HS : Hid (∀ w', Ext (w6.alloc (.cells #[.int .u8 ty, .int .i64 n, .complex .f64 x y, .string s] 29)) w' → Ext (w6.alloc (.cells #[.int .u8 ty, .int .i64 n, .complex .f64 x y, .string s] 29)) w' ∧ (∀ b o, b < (w.alloc (.cells #[.int .u8 ty, .int .i64 n, .int .u64 x, .int .u64 y, .string s] 42)).heap.size → w'.cell? ⟨b, o, none⟩ = (w.alloc (.cells #[.int .u8 ty, .int .i64 n, .int .u64 x, .int .u64 y, .string s] 42)).cell? ⟨b, o, none⟩) ∧ (∀ b o, b < (w6.alloc (.cells #[.int .u8 ty, .int .i64 n, .complex .f64 x y, .string s] 29)).heap.size → w'.cell? ⟨b, o, none⟩ = (w6.alloc (.cells #[.int .u8 ty, .int .i64 n, .complex .f64 x y, .string s] 29)).cell? ⟨b, o, none⟩) ∧ (∀ b o, b < (w.alloc (.cells #[.int .u8 ty, .int .i64 n, .int .u64 x, .int .u64 y, .string s] 42)).heap.size → w'.frozen? ⟨b, o, none⟩ = (w.alloc (.cells #[.int .u8 ty, .int .i64 n, .int .u64 x, .int .u64 y, .string s] 42)).frozen? ⟨b, o, none⟩)) := Hid.mk' (fun w' h => ⟨h, ((hE_w6.alloc _).trans h).cells.1, h.cells.1, ((hE_w6.alloc _).trans h).cells.2⟩)
    clear hc_w5 hf_w5 hc_w6 hf_w6
    go_cut [60] (fun v wx => v = .bool false ∧ Hid (Ext (w6.alloc (.cells #[.int .u8 ty, .int .i64 n, .complex .f64 x y, .string s] 29)) wx))
    case first =>
      as_aux_lemma =>
        go_region_held3 (fun w' => Ext (w6.alloc (.cells #[.int .u8 ty, .int .i64 n, .complex .f64 x y, .string s] 29)) w' ∧ (∀ b o, b < (w.alloc (.cells #[.int .u8 ty, .int .i64 n, .int .u64 x, .int .u64 y, .string s] 42)).heap.size → w'.cell? ⟨b, o, none⟩ = (w.alloc (.cells #[.int .u8 ty, .int .i64 n, .int .u64 x, .int .u64 y, .string s] 42)).cell? ⟨b, o, none⟩) ∧ (∀ b o, b < (w6.alloc (.cells #[.int .u8 ty, .int .i64 n, .complex .f64 x y, .string s] 29)).heap.size → w'.cell? ⟨b, o, none⟩ = (w6.alloc (.cells #[.int .u8 ty, .int .i64 n, .complex .f64 x y, .string s] 29)).cell? ⟨b, o, none⟩) ∧ (∀ b o, b < (w.alloc (.cells #[.int .u8 ty, .int .i64 n, .int .u64 x, .int .u64 y, .string s] 42)).heap.size → w'.frozen? ⟨b, o, none⟩ = (w.alloc (.cells #[.int .u8 ty, .int .i64 n, .int .u64 x, .int .u64 y, .string s] 42)).frozen? ⟨b, o, none⟩)) (exact HS.out _ (by (repeat (with_reducible (first | exact Ext.refl _ | assumption | exact held_left (by assumption) | apply Ext.drewN | apply Ext.drew | apply Ext.alloc | (refine Ext.setCell ?_ (by first | (simp; done) | (simp; omega) | omega) _) | (refine Ext.trans ?_ (by assumption)) | (refine Ext.trans ?_ (held_left (by assumption))))))))
          (first
            | (go_at_call 49; refine (HEN.out g _ _ (HR6.out.ext (by (repeat (with_reducible (first | exact Ext.refl _ | assumption | exact held_left (by assumption) | apply Ext.drewN | apply Ext.drew | apply Ext.alloc | (refine Ext.setCell ?_ (by first | (simp; done) | (simp; omega) | omega) _) | (refine Ext.trans ?_ (by assumption)) | (refine Ext.trans ?_ (held_left (by assumption))))))))).mono ?_; rintro e w7 ⟨rfl, rfl⟩)
            | (go_at_call 46; refine (HBK.out _).mono ?_; rintro e w8 ⟨rfl, hb8⟩))
        all_goals (go_wp2; go_meet; case rel => exact ⟨rfl, Hid.mk' (by (repeat (with_reducible (first | exact Ext.refl _ | assumption | exact held_left (by assumption) | apply Ext.drewN | apply Ext.drew | apply Ext.alloc | (refine Ext.setCell ?_ (by first | (simp; done) | (simp; omega) | omega) _) | (refine Ext.trans ?_ (by assumption)) | (refine Ext.trans ?_ (held_left (by assumption)))))))⟩)
    case rest =>
      obtain ⟨rfl, HEC⟩ := hcut
      have hE6 := HEC.out
      have hb7 : Ext (w.alloc (.cells #[.int .u8 ty, .int .i64 n, .int .u64 x, .int .u64 y, .string s] 42)) wc := (hE_w6.alloc _).trans hE6
      have hE_wc : Ext (w.alloc (.cells #[.int .u8 ty, .int .i64 n, .int .u64 x, .int .u64 y, .string s] 42)) wc := (by (repeat (with_reducible (first | exact Ext.refl _ | assumption | exact held_left (by assumption) | apply Ext.drewN | apply Ext.drew | apply Ext.alloc | (refine Ext.setCell ?_ (by first | (simp; done) | (simp; omega) | omega) _) | (refine Ext.trans ?_ (by assumption)) | (refine Ext.trans ?_ (held_left (by assumption))))))); obtain ⟨hc_wc, hf_wc⟩ := hE_wc.cells; have hz_wc := hE_wc.size
      have hqsz := hE_w5.size
      have HQC := Hid.mk' (HQ6.out.ext (((Ext.refl w6).alloc _).trans hE6))
      go_upto_region 13 with (first
        | (go_at_call 43; refine (HTQ.out q _ _ HQC.out).mono ?_; rintro e w9 ⟨rfl, hr9, ht9⟩; have hb9 : Ext (w.alloc (.cells #[.int .u8 ty, .int .i64 n, .int .u64 x, .int .u64 y, .string s] 42)) w9 := Tch.ext hE_wc (Nat.le_trans hE_w4.size hq) ht9; have hE_w9 : Ext (w.alloc (.cells #[.int .u8 ty, .int .i64 n, .int .u64 x, .int .u64 y, .string s] 42)) w9 := (by (repeat (with_reducible (first | exact Ext.refl _ | assumption | exact held_left (by assumption) | apply Ext.drewN | apply Ext.drew | apply Ext.alloc | (refine Ext.setCell ?_ (by first | (simp; done) | (simp; omega) | omega) _) | (refine Ext.trans ?_ (by assumption)) | (refine Ext.trans ?_ (held_left (by assumption))))))); obtain ⟨hc_w9, hf_w9⟩ := hE_w9.cells; have hz_w9 := hE_w9.size; have HR9 := Hid.mk' hr9; clear hr9 ht9))
      by_cases hE0 : E = 0
      · have hSe : Sy.e = 0 ∧ Sy.l = [] := by
          have h := HEE.out
          rw [hE0] at h
          unfold endE at h
          by_cases h1 : Sy.e = 0 ∧ Sy.l ≠ []
          · rw [if_pos h1] at h; cases h
          · rw [if_neg h1] at h
            exact ⟨h.symm, Classical.byContradiction fun h2 => h1 ⟨h.symm, h2⟩⟩
        have hq' := HQ.out
        have hSy : Sy = ⟨[], 0⟩ := by cases Sy; simp only at hSe; rw [hSe.1, hSe.2]
        rw [hSy] at hq'
        obtain ⟨hyr, hyw, hyt, hyp⟩ := takeV_inv HIB.out HVV.out hq'
        rw [List.append_nil] at hyp
        simp only [V.right, V.wf, V.put] at hyr hyw hyp
        have eY : errV yt yn yx yy ys V0 = 0 := by unfold errV; rw [if_pos HVV.out]; exact hyr
        have hys := (right_zero hyr).2.2.1
        have HPY := Hid.mk' (fun (w : World) => vput_ok (.slice none 0 0) [] yt yn yx yy ys V0 w eY (nilSl w) (Nat.zero_le _) hyw.1 hyw.2.1 hyw.2.2 (by omega))
        simp only [List.nil_append] at HPY
        rw [← hyp] at HPY
        have HRY := Hid.mk' (fun w => vright_any yt yn yx yy ys w (by omega))
        rw [hyr] at HRY
        subst hE0
        clear hSe hq' hSy hyr hyw hyt hyp eY hys
        go_upto_region 16 with (first
          | (go_at_call 49; refine (HEQ.out q _ _ (HR9.out.ext (by (repeat (with_reducible (first | exact Ext.refl _ | assumption | exact held_left (by assumption) | apply Ext.drewN | apply Ext.drew | apply Ext.alloc | (refine Ext.setCell ?_ (by first | (simp; done) | (simp; omega) | omega) _) | (refine Ext.trans ?_ (by assumption)) | (refine Ext.trans ?_ (held_left (by assumption))))))))).mono ?_; rintro e w10 ⟨rfl, rfl⟩)
          | (go_at_call 36; refine (HPY.out _).mono ?_; rintro e w11 ⟨v11, rfl, ho11, hb11⟩; obtain ⟨hc11, hf11⟩ := hb11.cells; have hz11 := hb11.size; have hE_w11 : Ext (w.alloc (.cells #[.int .u8 ty, .int .i64 n, .int .u64 x, .int .u64 y, .string s] 42)) w11 := (by (repeat (with_reducible (first | exact Ext.refl _ | assumption | exact held_left (by assumption) | apply Ext.drewN | apply Ext.drew | apply Ext.alloc | (refine Ext.setCell ?_ (by first | (simp; done) | (simp; omega) | omega) _) | (refine Ext.trans ?_ (by assumption)) | (refine Ext.trans ?_ (held_left (by assumption))))))); obtain ⟨hc_w11, hf_w11⟩ := hE_w11.cells; have hz_w11 := hE_w11.size; have HO11 := Hid.mk' ho11; clear ho11))
        have cv1 := conv_Sl HO11.out.sl
        have cv2 := conv_Sl (HL.out.ext (by (repeat (with_reducible (first | exact Ext.refl _ | assumption | exact held_left (by assumption) | apply Ext.drewN | apply Ext.drew | apply Ext.alloc | (refine Ext.setCell ?_ (by first | (simp; done) | (simp; omega) | omega) _) | (refine Ext.trans ?_ (by assumption)) | (refine Ext.trans ?_ (held_left (by assumption)))))) : Ext w w11))
        go_wp2_with (first
          | (go_at_call 31; refine (HRY.out _).mono ?_; rintro e w12 ⟨rfl, hb12⟩)
          | (go_at_call 35; refine (awake06_any _).mono ?_; rintro e w13 ⟨rfl, hb13⟩))
        go_ret
        exact ⟨rfl, by (repeat (with_reducible (first | exact Ext.refl _ | assumption | exact held_left (by assumption) | apply Ext.drewN | apply Ext.drew | apply Ext.alloc | (refine Ext.setCell ?_ (by first | (simp; done) | (simp; omega) | omega) _) | (refine Ext.trans ?_ (by assumption)) | (refine Ext.trans ?_ (held_left (by assumption))))))⟩
      · have hE1 : (E != 0) = true := by simpa using hE0
        clear hE0
        go_wp2_with (first
          | (go_at_call 49; refine (HEQ.out q _ _ (HR9.out.ext (by (repeat (with_reducible (first | exact Ext.refl _ | assumption | exact held_left (by assumption) | apply Ext.drewN | apply Ext.drew | apply Ext.alloc | (refine Ext.setCell ?_ (by first | (simp; done) | (simp; omega) | omega) _) | (refine Ext.trans ?_ (by assumption)) | (refine Ext.trans ?_ (held_left (by assumption))))))))).mono ?_; rintro e w10 ⟨rfl, rfl⟩)
          | (go_at_call 35; refine (awake06_any _).mono ?_; rintro e w13 ⟨rfl, hb13⟩))
        go_ret
        exact ⟨rfl, by (repeat (with_reducible (first | exact Ext.refl _ | assumption | exact held_left (by assumption) | apply Ext.drewN | apply Ext.drew | apply Ext.alloc | (refine Ext.setCell ?_ (by first | (simp; done) | (simp; omega) | omega) _) | (refine Ext.trans ?_ (by assumption)) | (refine Ext.trans ?_ (held_left (by assumption))))))⟩
  · have hA2 : (RA != 0) = true := by simpa using hA
    go_enter Try.func14, Try.ntmps14
    go_wp2_with (first
      | (go_at_call 33; refine (HRA.out _).mono ?_; rintro e w1 ⟨rfl, hb1⟩; have hE_w1 : Ext (w.alloc (.cells #[.int .u8 ty, .int .i64 n, .int .u64 x, .int .u64 y, .string s] 42)) w1 := (by (repeat (with_reducible (first | exact Ext.refl _ | assumption | exact held_left (by assumption) | apply Ext.drewN | apply Ext.drew | apply Ext.alloc | (refine Ext.setCell ?_ (by first | (simp; done) | (simp; omega) | omega) _) | (refine Ext.trans ?_ (by assumption)) | (refine Ext.trans ?_ (held_left (by assumption))))))); obtain ⟨hc_w1, hf_w1⟩ := hE_w1.cells; have hz_w1 := hE_w1.size))
    all_goals (go_ret; exact ⟨rfl, by (repeat (with_reducible (first | exact Ext.refl _ | assumption | exact held_left (by assumption) | apply Ext.drewN | apply Ext.drew | apply Ext.alloc | (refine Ext.setCell ?_ (by first | (simp; done) | (simp; omega) | omega) _) | (refine Ext.trans ?_ (by assumption)) | (refine Ext.trans ?_ (held_left (by assumption))))))⟩)

end Go.Proofs.Ytkofnmbkfaebcaa
