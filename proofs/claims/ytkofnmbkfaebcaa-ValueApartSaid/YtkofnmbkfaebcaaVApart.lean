/-
The walk of ValueApart.
-/
import Derived.Test.YtkofnmbkfaebcaaPutB
namespace Go.Proofs.Ytkofnmbkfaebcaa
open Go.RowKit

set_option maxRecDepth 100000 in set_option maxHeartbeats 1600000 in
theorem vapart_any (ta na : Int) (xa ya : Nat) (sa : ByteArray) (tb nb : Int) (xb yb : Nat) (sb : ByteArray) (ver : Int) (w : World)
    (hna : -9223372036854775808 ≤ na ∧ na < 9223372036854775808) (hxa : xa < 2 ^ 64) (hya : ya < 2 ^ 64) (hsa : sa.size ≤ 9223372036854775807)
    (hnb : -9223372036854775808 ≤ nb ∧ nb < 9223372036854775808) (hxb : xb < 2 ^ 64) (hyb : yb < 2 ^ 64) (hsb : sb.size ≤ 9223372036854775807) (hv0 : 0 ≤ ver) (hv1 : ver < 256) :
    Calls Try.prog 9 #[.agg #[.int .u8 ta, .int .i64 na, .int .u64 xa, .int .u64 ya, .string sa], .agg #[.int .u8 tb, .int .i64 nb, .int .u64 xb, .int .u64 yb, .string sb], .int .u8 ver] w fun e w' => e = .returned (.bool true) ∧ Ext w w' := by
  have HRA := Hid.mk' (fun w => rright_any ta na xa ya sa w hsa)
  have HRB := Hid.mk' (fun w => rright_any tb nb xb yb sb w hsb)
  obtain ⟨RA, hRA⟩ : ∃ R, R = rightV ta na xa ya sa := ⟨_, rfl⟩
  obtain ⟨RB, hRB⟩ : ∃ R, R = rightV tb nb xb yb sb := ⟨_, rfl⟩
  rw [← hRA] at HRA
  rw [← hRB] at HRB
  have HOA := Hid.mk' (fun w => vown_any ta na xa ya sa w)
  have HOB := Hid.mk' (fun w => vown_any tb nb xb yb sb w)
  simp only [Int.toNat_natCast] at HOA HOB
  by_cases hA : RA = 0
  · subst hA
    by_cases hB : RB = 0
    · subst hB
      by_cases ht : ta = tb
      · subst ht
        obtain ⟨V, hV⟩ : ∃ V, V = 1 + ver % 2 := ⟨_, rfl⟩
        have hV12 : V = 1 ∨ V = 2 := by omega
        have eA : errV ta na xa ya sa V = 0 := by unfold errV; rw [if_pos hV12]; exact hRA.symm
        have eB : errV ta nb xb yb sb V = 0 := by unfold errV; rw [if_pos hV12]; exact hRB.symm
        have HPA := Hid.mk' (fun (w : World) => vput_ok (.slice none 0 0) [] ta na xa ya sa V w eA (nilSl w) (Nat.zero_le _) hna hxa hya hsa)
        have HPB := Hid.mk' (fun (w : World) => vput_ok (.slice none 0 0) [] ta nb xb yb sb V w eB (nilSl w) (Nat.zero_le _) hnb hxb hyb hsb)
        simp only [List.nil_append] at HPA HPB
        have hcmp := str_cmp (isB_putL (ver := V) hRA.symm) (isB_putL (ver := V) hRB.symm)
        rw [put_same hV12 hRA.symm hRB.symm hna hxa hya hnb hxb hyb] at hcmp
        obtain ⟨S, hS⟩ : ∃ S, S = sameB ta na xa ya sa ta nb xb yb sb := ⟨_, rfl⟩
        have hEq := fun w => eq_val ta na xa ya sa ta nb xb yb sb w
        rw [← hS] at hEq hcmp
        generalize putL ta na xa ya sa V = LA at *
        generalize putL ta nb xb yb sb V = LB at *
        have HV := Hid.mk' hV
        clear hna hxa hya hnb hxb hyb hRA hRB hV12 eA eB hS hV
        go_enter Try.func9, Try.ntmps9
        go_upto_region 2 with (fail)
        rw [← HV.out]
        go_upto_region 6 with (first
          | (go_at_call_of 33 (Value.agg #[.int .u8 ta, .int .i64 na, .int .u64 xa, .int .u64 ya, .string sa]); refine (HRA.out _).mono ?_; rintro e w1 ⟨rfl, hb1⟩; have hE_w1 : Ext ((w.alloc (.cells #[.int .u8 ta, .int .i64 na, .int .u64 xa, .int .u64 ya, .string sa] 42)).alloc (.cells #[.int .u8 ta, .int .i64 nb, .int .u64 xb, .int .u64 yb, .string sb] 42)) w1 := (by (repeat (with_reducible (first | exact Ext.refl _ | assumption | exact held_left (by assumption) | apply Ext.drewN | apply Ext.drew | apply Ext.alloc | (refine Ext.setCell ?_ (by first | (simp; done) | (simp; omega) | omega) _) | (refine Ext.trans ?_ (by assumption)) | (refine Ext.trans ?_ (held_left (by assumption))))))); obtain ⟨hc_w1, hf_w1⟩ := hE_w1.cells; have hz_w1 := hE_w1.size)
          | (go_at_call_of 33 (Value.agg #[.int .u8 ta, .int .i64 nb, .int .u64 xb, .int .u64 yb, .string sb]); refine (HRB.out _).mono ?_; rintro e w2 ⟨rfl, hb2⟩; have hE_w2 : Ext ((w.alloc (.cells #[.int .u8 ta, .int .i64 na, .int .u64 xa, .int .u64 ya, .string sa] 42)).alloc (.cells #[.int .u8 ta, .int .i64 nb, .int .u64 xb, .int .u64 yb, .string sb] 42)) w2 := (by (repeat (with_reducible (first | exact Ext.refl _ | assumption | exact held_left (by assumption) | apply Ext.drewN | apply Ext.drew | apply Ext.alloc | (refine Ext.setCell ?_ (by first | (simp; done) | (simp; omega) | omega) _) | (refine Ext.trans ?_ (by assumption)) | (refine Ext.trans ?_ (held_left (by assumption))))))); obtain ⟨hc_w2, hf_w2⟩ := hE_w2.cells; have hz_w2 := hE_w2.size)
          | (go_at_call_of 32 (Value.agg #[.int .u8 ta, .int .i64 na, .int .u64 xa, .int .u64 ya, .string sa]); refine (HOA.out _).mono ?_; rintro e w3 ⟨rfl, hb3⟩; have hE_w3 : Ext ((w.alloc (.cells #[.int .u8 ta, .int .i64 na, .int .u64 xa, .int .u64 ya, .string sa] 42)).alloc (.cells #[.int .u8 ta, .int .i64 nb, .int .u64 xb, .int .u64 yb, .string sb] 42)) w3 := (by (repeat (with_reducible (first | exact Ext.refl _ | assumption | exact held_left (by assumption) | apply Ext.drewN | apply Ext.drew | apply Ext.alloc | (refine Ext.setCell ?_ (by first | (simp; done) | (simp; omega) | omega) _) | (refine Ext.trans ?_ (by assumption)) | (refine Ext.trans ?_ (held_left (by assumption))))))); obtain ⟨hc_w3, hf_w3⟩ := hE_w3.cells; have hz_w3 := hE_w3.size)
          | (go_at_call_of 36 (Value.agg #[.int .u8 ta, .int .i64 na, .complex .f64 xa ya, .string sa]); refine (HPA.out _).mono ?_; rintro e w4 ⟨v4, rfl, ho4, hb4⟩; have hE_w4 : Ext ((w.alloc (.cells #[.int .u8 ta, .int .i64 na, .int .u64 xa, .int .u64 ya, .string sa] 42)).alloc (.cells #[.int .u8 ta, .int .i64 nb, .int .u64 xb, .int .u64 yb, .string sb] 42)) w4 := (by (repeat (with_reducible (first | exact Ext.refl _ | assumption | exact held_left (by assumption) | apply Ext.drewN | apply Ext.drew | apply Ext.alloc | (refine Ext.setCell ?_ (by first | (simp; done) | (simp; omega) | omega) _) | (refine Ext.trans ?_ (by assumption)) | (refine Ext.trans ?_ (held_left (by assumption))))))); obtain ⟨hc_w4, hf_w4⟩ := hE_w4.cells; have hz_w4 := hE_w4.size; have HO4 := Hid.mk' ho4; clear ho4)
          | (go_at_call_of 32 (Value.agg #[.int .u8 ta, .int .i64 nb, .int .u64 xb, .int .u64 yb, .string sb]); refine (HOB.out _).mono ?_; rintro e w5 ⟨rfl, hb5⟩; have hE_w5 : Ext ((w.alloc (.cells #[.int .u8 ta, .int .i64 na, .int .u64 xa, .int .u64 ya, .string sa] 42)).alloc (.cells #[.int .u8 ta, .int .i64 nb, .int .u64 xb, .int .u64 yb, .string sb] 42)) w5 := (by (repeat (with_reducible (first | exact Ext.refl _ | assumption | exact held_left (by assumption) | apply Ext.drewN | apply Ext.drew | apply Ext.alloc | (refine Ext.setCell ?_ (by first | (simp; done) | (simp; omega) | omega) _) | (refine Ext.trans ?_ (by assumption)) | (refine Ext.trans ?_ (held_left (by assumption))))))); obtain ⟨hc_w5, hf_w5⟩ := hE_w5.cells; have hz_w5 := hE_w5.size)
          | (go_at_call_of 36 (Value.agg #[.int .u8 ta, .int .i64 nb, .complex .f64 xb yb, .string sb]); refine (HPB.out _).mono ?_; rintro e w6 ⟨v6, rfl, ho6, hb6⟩; have hE_w6 : Ext ((w.alloc (.cells #[.int .u8 ta, .int .i64 na, .int .u64 xa, .int .u64 ya, .string sa] 42)).alloc (.cells #[.int .u8 ta, .int .i64 nb, .int .u64 xb, .int .u64 yb, .string sb] 42)) w6 := (by (repeat (with_reducible (first | exact Ext.refl _ | assumption | exact held_left (by assumption) | apply Ext.drewN | apply Ext.drew | apply Ext.alloc | (refine Ext.setCell ?_ (by first | (simp; done) | (simp; omega) | omega) _) | (refine Ext.trans ?_ (by assumption)) | (refine Ext.trans ?_ (held_left (by assumption))))))); obtain ⟨hc_w6, hf_w6⟩ := hE_w6.cells; have hz_w6 := hE_w6.size; have HO6 := Hid.mk' ho6; clear ho6))
        all_goals try (go_ret; exact ⟨rfl, by (repeat (with_reducible (first | exact Ext.refl _ | assumption | exact held_left (by assumption) | apply Ext.drewN | apply Ext.drew | apply Ext.alloc | (refine Ext.setCell ?_ (by first | (simp; done) | (simp; omega) | omega) _) | (refine Ext.trans ?_ (by assumption)) | (refine Ext.trans ?_ (held_left (by assumption))))))⟩)
        have HS : Hid (∀ w', Ext w6 w' → Ext w6 w' ∧ (∀ b o, b < ((w.alloc (.cells #[.int .u8 ta, .int .i64 na, .int .u64 xa, .int .u64 ya, .string sa] 42)).alloc (.cells #[.int .u8 ta, .int .i64 nb, .int .u64 xb, .int .u64 yb, .string sb] 42)).heap.size → w'.cell? ⟨b, o, none⟩ = ((w.alloc (.cells #[.int .u8 ta, .int .i64 na, .int .u64 xa, .int .u64 ya, .string sa] 42)).alloc (.cells #[.int .u8 ta, .int .i64 nb, .int .u64 xb, .int .u64 yb, .string sb] 42)).cell? ⟨b, o, none⟩) ∧ (∀ b o, b < ((w.alloc (.cells #[.int .u8 ta, .int .i64 na, .int .u64 xa, .int .u64 ya, .string sa] 42)).alloc (.cells #[.int .u8 ta, .int .i64 nb, .int .u64 xb, .int .u64 yb, .string sb] 42)).heap.size → w'.frozen? ⟨b, o, none⟩ = ((w.alloc (.cells #[.int .u8 ta, .int .i64 na, .int .u64 xa, .int .u64 ya, .string sa] 42)).alloc (.cells #[.int .u8 ta, .int .i64 nb, .int .u64 xb, .int .u64 yb, .string sb] 42)).frozen? ⟨b, o, none⟩) ∧ (convert 72 9 v4).run Try.prog w' = .ok (.string (strOfNums LA)) w' ∧ (convert 72 9 v6).run Try.prog w' = .ok (.string (strOfNums LB)) w') := Hid.mk' (fun w' h => ⟨h, (hE_w6.trans h).cells.1, (hE_w6.trans h).cells.2, conv_Sl (HO4.out.sl.ext ((hb5.trans hb6).trans h)), conv_Sl (HO6.out.sl.ext h)⟩)
        have hE6 : Ext w w6 := by (repeat (with_reducible (first | exact Ext.refl _ | assumption | exact held_left (by assumption) | apply Ext.drewN | apply Ext.drew | apply Ext.alloc | (refine Ext.setCell ?_ (by first | (simp; done) | (simp; omega) | omega) _) | (refine Ext.trans ?_ (by assumption)) | (refine Ext.trans ?_ (held_left (by assumption))))))
        have HE6 := Hid.mk' hE6
        clear hE6 hc_w1 hc_w2 hc_w3 hc_w4 hc_w5 hf_w1 hf_w2 hf_w3 hf_w4 hf_w5
        go_region_held3 (fun w' => Ext w6 w' ∧ (∀ b o, b < ((w.alloc (.cells #[.int .u8 ta, .int .i64 na, .int .u64 xa, .int .u64 ya, .string sa] 42)).alloc (.cells #[.int .u8 ta, .int .i64 nb, .int .u64 xb, .int .u64 yb, .string sb] 42)).heap.size → w'.cell? ⟨b, o, none⟩ = ((w.alloc (.cells #[.int .u8 ta, .int .i64 na, .int .u64 xa, .int .u64 ya, .string sa] 42)).alloc (.cells #[.int .u8 ta, .int .i64 nb, .int .u64 xb, .int .u64 yb, .string sb] 42)).cell? ⟨b, o, none⟩) ∧ (∀ b o, b < ((w.alloc (.cells #[.int .u8 ta, .int .i64 na, .int .u64 xa, .int .u64 ya, .string sa] 42)).alloc (.cells #[.int .u8 ta, .int .i64 nb, .int .u64 xb, .int .u64 yb, .string sb] 42)).heap.size → w'.frozen? ⟨b, o, none⟩ = ((w.alloc (.cells #[.int .u8 ta, .int .i64 na, .int .u64 xa, .int .u64 ya, .string sa] 42)).alloc (.cells #[.int .u8 ta, .int .i64 nb, .int .u64 xb, .int .u64 yb, .string sb] 42)).frozen? ⟨b, o, none⟩) ∧ (convert 72 9 v4).run Try.prog w' = .ok (.string (strOfNums LA)) w' ∧ (convert 72 9 v6).run Try.prog w' = .ok (.string (strOfNums LB)) w') (exact HS.out _ (by (repeat (with_reducible (first | exact Ext.refl _ | assumption | exact held_left (by assumption) | apply Ext.drewN | apply Ext.drew | apply Ext.alloc | (refine Ext.setCell ?_ (by first | (simp; done) | (simp; omega) | omega) _) | (refine Ext.trans ?_ (by assumption)) | (refine Ext.trans ?_ (held_left (by assumption))))))))
          (first
            | (go_at_call 35; refine (awake06_any _).mono ?_; rintro e w7 ⟨rfl, hb7⟩))
        go_wp2
        go_ret
        exact ⟨rfl, HE6.out.trans (by (repeat (with_reducible (first | exact Ext.refl _ | assumption | exact held_left (by assumption) | apply Ext.drewN | apply Ext.drew | apply Ext.alloc | (refine Ext.setCell ?_ (by first | (simp; done) | (simp; omega) | omega) _) | (refine Ext.trans ?_ (by assumption)) | (refine Ext.trans ?_ (held_left (by assumption)))))))⟩
      · have ht2 : (ta != tb) = true := by simpa using ht
        have ht3 : (tb != ta) = true := by simpa using fun h => ht h.symm
        go_enter Try.func9, Try.ntmps9
        go_wp2_with (first
          | (go_at_call_of 33 (Value.agg #[.int .u8 ta, .int .i64 na, .int .u64 xa, .int .u64 ya, .string sa]); refine (HRA.out _).mono ?_; rintro e w1 ⟨rfl, hb1⟩; have hE_w1 : Ext ((w.alloc (.cells #[.int .u8 ta, .int .i64 na, .int .u64 xa, .int .u64 ya, .string sa] 42)).alloc (.cells #[.int .u8 tb, .int .i64 nb, .int .u64 xb, .int .u64 yb, .string sb] 42)) w1 := (by (repeat (with_reducible (first | exact Ext.refl _ | assumption | exact held_left (by assumption) | apply Ext.drewN | apply Ext.drew | apply Ext.alloc | (refine Ext.setCell ?_ (by first | (simp; done) | (simp; omega) | omega) _) | (refine Ext.trans ?_ (by assumption)) | (refine Ext.trans ?_ (held_left (by assumption))))))); obtain ⟨hc_w1, hf_w1⟩ := hE_w1.cells; have hz_w1 := hE_w1.size)
          | (go_at_call_of 33 (Value.agg #[.int .u8 tb, .int .i64 nb, .int .u64 xb, .int .u64 yb, .string sb]); refine (HRB.out _).mono ?_; rintro e w2 ⟨rfl, hb2⟩; have hE_w2 : Ext ((w.alloc (.cells #[.int .u8 ta, .int .i64 na, .int .u64 xa, .int .u64 ya, .string sa] 42)).alloc (.cells #[.int .u8 tb, .int .i64 nb, .int .u64 xb, .int .u64 yb, .string sb] 42)) w2 := (by (repeat (with_reducible (first | exact Ext.refl _ | assumption | exact held_left (by assumption) | apply Ext.drewN | apply Ext.drew | apply Ext.alloc | (refine Ext.setCell ?_ (by first | (simp; done) | (simp; omega) | omega) _) | (refine Ext.trans ?_ (by assumption)) | (refine Ext.trans ?_ (held_left (by assumption))))))); obtain ⟨hc_w2, hf_w2⟩ := hE_w2.cells; have hz_w2 := hE_w2.size))
        all_goals (go_ret; exact ⟨rfl, by (repeat (with_reducible (first | exact Ext.refl _ | assumption | exact held_left (by assumption) | apply Ext.drewN | apply Ext.drew | apply Ext.alloc | (refine Ext.setCell ?_ (by first | (simp; done) | (simp; omega) | omega) _) | (refine Ext.trans ?_ (by assumption)) | (refine Ext.trans ?_ (held_left (by assumption))))))⟩)
    · have hB2 : (RB != 0) = true := by simpa using hB
      go_enter Try.func9, Try.ntmps9
      go_wp2_with (first
        | (go_at_call_of 33 (Value.agg #[.int .u8 ta, .int .i64 na, .int .u64 xa, .int .u64 ya, .string sa]); refine (HRA.out _).mono ?_; rintro e w1 ⟨rfl, hb1⟩; have hE_w1 : Ext ((w.alloc (.cells #[.int .u8 ta, .int .i64 na, .int .u64 xa, .int .u64 ya, .string sa] 42)).alloc (.cells #[.int .u8 tb, .int .i64 nb, .int .u64 xb, .int .u64 yb, .string sb] 42)) w1 := (by (repeat (with_reducible (first | exact Ext.refl _ | assumption | exact held_left (by assumption) | apply Ext.drewN | apply Ext.drew | apply Ext.alloc | (refine Ext.setCell ?_ (by first | (simp; done) | (simp; omega) | omega) _) | (refine Ext.trans ?_ (by assumption)) | (refine Ext.trans ?_ (held_left (by assumption))))))); obtain ⟨hc_w1, hf_w1⟩ := hE_w1.cells; have hz_w1 := hE_w1.size)
        | (go_at_call_of 33 (Value.agg #[.int .u8 tb, .int .i64 nb, .int .u64 xb, .int .u64 yb, .string sb]); refine (HRB.out _).mono ?_; rintro e w2 ⟨rfl, hb2⟩; have hE_w2 : Ext ((w.alloc (.cells #[.int .u8 ta, .int .i64 na, .int .u64 xa, .int .u64 ya, .string sa] 42)).alloc (.cells #[.int .u8 tb, .int .i64 nb, .int .u64 xb, .int .u64 yb, .string sb] 42)) w2 := (by (repeat (with_reducible (first | exact Ext.refl _ | assumption | exact held_left (by assumption) | apply Ext.drewN | apply Ext.drew | apply Ext.alloc | (refine Ext.setCell ?_ (by first | (simp; done) | (simp; omega) | omega) _) | (refine Ext.trans ?_ (by assumption)) | (refine Ext.trans ?_ (held_left (by assumption))))))); obtain ⟨hc_w2, hf_w2⟩ := hE_w2.cells; have hz_w2 := hE_w2.size))
      all_goals (go_ret; exact ⟨rfl, by (repeat (with_reducible (first | exact Ext.refl _ | assumption | exact held_left (by assumption) | apply Ext.drewN | apply Ext.drew | apply Ext.alloc | (refine Ext.setCell ?_ (by first | (simp; done) | (simp; omega) | omega) _) | (refine Ext.trans ?_ (by assumption)) | (refine Ext.trans ?_ (held_left (by assumption))))))⟩)
  · have hA2 : (RA != 0) = true := by simpa using hA
    go_enter Try.func9, Try.ntmps9
    go_wp2_with (first
      | (go_at_call_of 33 (Value.agg #[.int .u8 ta, .int .i64 na, .int .u64 xa, .int .u64 ya, .string sa]); refine (HRA.out _).mono ?_; rintro e w1 ⟨rfl, hb1⟩; have hE_w1 : Ext ((w.alloc (.cells #[.int .u8 ta, .int .i64 na, .int .u64 xa, .int .u64 ya, .string sa] 42)).alloc (.cells #[.int .u8 tb, .int .i64 nb, .int .u64 xb, .int .u64 yb, .string sb] 42)) w1 := (by (repeat (with_reducible (first | exact Ext.refl _ | assumption | exact held_left (by assumption) | apply Ext.drewN | apply Ext.drew | apply Ext.alloc | (refine Ext.setCell ?_ (by first | (simp; done) | (simp; omega) | omega) _) | (refine Ext.trans ?_ (by assumption)) | (refine Ext.trans ?_ (held_left (by assumption))))))); obtain ⟨hc_w1, hf_w1⟩ := hE_w1.cells; have hz_w1 := hE_w1.size))
    all_goals (go_ret; exact ⟨rfl, by (repeat (with_reducible (first | exact Ext.refl _ | assumption | exact held_left (by assumption) | apply Ext.drewN | apply Ext.drew | apply Ext.alloc | (refine Ext.setCell ?_ (by first | (simp; done) | (simp; omega) | omega) _) | (refine Ext.trans ?_ (by assumption)) | (refine Ext.trans ?_ (held_left (by assumption))))))⟩)

end Go.Proofs.Ytkofnmbkfaebcaa
