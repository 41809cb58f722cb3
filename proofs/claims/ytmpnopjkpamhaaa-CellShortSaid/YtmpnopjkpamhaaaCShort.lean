/-
The walk of CellShort.
-/
import Derived.Test.YtmpnopjkpamhaaaCPuts
namespace Go.Proofs.Ytmpnopjkpamhaaa
open Go.RowKit

set_option maxRecDepth 100000 in set_option maxHeartbeats 1600000 in
theorem cshort_any (k ty n : Int) (x y : Nat) (s : ByteArray) (kind : Int) (w : World) (hk0 : 0 ≤ k)
    (hn : -9223372036854775808 ≤ n ∧ n < 9223372036854775808) (hx : x < 2 ^ 64) (hy : y < 2 ^ 64) (hs : s.size ≤ 9223372036854775807) :
    Calls Try.prog 4 #[.agg #[.int .u8 k, .int .u8 ty, .int .i64 n, .int .u64 x, .int .u64 y, .string s], .int .u8 kind] w fun e w' => e = .returned (.bool true) ∧ Ext w w' := by
  have HR := Hid.mk' (fun w => rcright_any k ty n x y s kind w hk0 hs)
  have HO := Hid.mk' (fun w => cown_any k ty n x y s w)
  simp only [Int.toNat_natCast] at HO
  obtain ⟨R, hR⟩ : ∃ R, R = rightC k ty n x y s kind := ⟨_, rfl⟩
  rw [← hR] at HR
  by_cases h0 : R = 0
  · subst h0
    by_cases hkz : k = 0
    · subst hkz
      clear hn hx hy hs hR
      go_enter Try.func4, Try.ntmps4
      go_wp2_with (go_at_call 12; refine (HR.out _).mono ?_; rintro e w1 ⟨rfl, hb1⟩; have h1 := (Blk.new w #[.int .u8 0, .int .u8 ty, .int .i64 n, .int .u64 x, .int .u64 y, .string s] 26).ext hb1; have k1 := h1.cell; have z1 := h1.lt)
      go_ret
      exact ⟨rfl, by (repeat (with_reducible (first | exact Ext.refl _ | assumption | exact held_left (by assumption) | apply Ext.drewN | apply Ext.drew | apply Ext.alloc | (refine Ext.setCell ?_ (by first | (simp; done) | (simp; omega) | omega) _) | (refine Ext.trans ?_ (by assumption)) | (refine Ext.trans ?_ (held_left (by assumption))))))⟩
    have e1 : errC k ty n x y s kind 1 = 0 := err_mk (.inl rfl) hR.symm hkz
    have e2 : errC k ty n x y s kind 2 = 0 := err_mk (.inr rfl) hR.symm hkz
    obtain ⟨hl1, hl2⟩ := putC_short hk0 e1 hn
    have hm1 := putC_len hk0 e1 hn
    have hm2 := putC_len hk0 e2 hn
    obtain ⟨-, -, -, hkd1, hkd2⟩ := errC_zero hk0 e1
    have HA := Hid.mk' (fun (w : World) => cput_ok (.slice none 0 0) [] k ty n x y s kind 1 w e1 (nilSl w) (Nat.zero_le _) hk0 hn hx hy hs)
    have HB := Hid.mk' (fun (w : World) => cput_ok (.slice none 0 0) [] k ty n x y s kind 2 w e2 (nilSl w) (Nat.zero_le _) hk0 hn hx hy hs)
    simp only [List.nil_append] at HA HB
    generalize putC k ty n x y s kind 1 = LA at *
    generalize putC k ty n x y s kind 2 = LB at *
    have hkb : (k == 0) = false := by simpa using hkz
    have H1 : Hid (kind = 1 ∨ kind = 5 ∨ kind = 6 → LB.length ≤ LA.length) := Hid.mk' (fun h => by rw [if_neg (by omega), if_neg (by omega)] at hl2; exact hl2)
    have H2 : Hid (kind = 2 ∨ kind = 3 → LB.length ≤ LA.length + 2) := Hid.mk' (fun h => by rw [if_pos h] at hl2; exact hl2)
    have H4 : Hid (kind = 4 → LB.length ≤ LA.length + 5) := Hid.mk' (fun h => by rw [if_neg (by omega), if_pos h] at hl2; exact hl2)
    clear hl2
    have hc : kind = 1 ∨ kind = 2 ∨ kind = 3 ∨ kind = 4 ∨ kind = 5 ∨ kind = 6 := by omega
    clear hn hx hy hs hR hkz e1 e2 hkd1 hkd2
    rcases hc with rfl | rfl | rfl | rfl | rfl | rfl
    all_goals
      first
        | (have hl := H1.out (by decide))
        | (have hl := H2.out (by decide))
        | (have hl := H4.out rfl)
      go_enter Try.func4, Try.ntmps4
      go_upto_region 3 with (first
        | (go_at_call 12; refine (HR.out _).mono ?_; rintro e w1 ⟨rfl, hb1⟩; have hE_w1 : Ext (w.alloc (.cells #[.int .u8 k, .int .u8 ty, .int .i64 n, .int .u64 x, .int .u64 y, .string s] 26)) w1 := (by (repeat (with_reducible (first | exact Ext.refl _ | assumption | exact held_left (by assumption) | apply Ext.drewN | apply Ext.drew | apply Ext.alloc | (refine Ext.setCell ?_ (by first | (simp; done) | (simp; omega) | omega) _) | (refine Ext.trans ?_ (by assumption)) | (refine Ext.trans ?_ (held_left (by assumption))))))); obtain ⟨hc_w1, hf_w1⟩ := hE_w1.cells; have hz_w1 := hE_w1.size))
      go_upto_region 4 with (first
        | (go_at_call 9; refine (HO.out _).mono ?_; rintro e w2 ⟨rfl, hb2⟩; have hE_w2 : Ext (w.alloc (.cells #[.int .u8 k, .int .u8 ty, .int .i64 n, .int .u64 x, .int .u64 y, .string s] 26)) w2 := (by (repeat (with_reducible (first | exact Ext.refl _ | assumption | exact held_left (by assumption) | apply Ext.drewN | apply Ext.drew | apply Ext.alloc | (refine Ext.setCell ?_ (by first | (simp; done) | (simp; omega) | omega) _) | (refine Ext.trans ?_ (by assumption)) | (refine Ext.trans ?_ (held_left (by assumption))))))); obtain ⟨hc_w2, hf_w2⟩ := hE_w2.cells; have hz_w2 := hE_w2.size)
        | (go_at_call 8; refine (HA.out _).mono ?_; rintro e w3 ⟨v3, rfl, ho3, hb3⟩; have hE_w3 : Ext (w.alloc (.cells #[.int .u8 k, .int .u8 ty, .int .i64 n, .int .u64 x, .int .u64 y, .string s] 26)) w3 := (by (repeat (with_reducible (first | exact Ext.refl _ | assumption | exact held_left (by assumption) | apply Ext.drewN | apply Ext.drew | apply Ext.alloc | (refine Ext.setCell ?_ (by first | (simp; done) | (simp; omega) | omega) _) | (refine Ext.trans ?_ (by assumption)) | (refine Ext.trans ?_ (held_left (by assumption))))))); obtain ⟨hc_w3, hf_w3⟩ := hE_w3.cells; have hz_w3 := hE_w3.size; obtain ⟨a3, cap3, rfl⟩ := ho3.shape; clear ho3))
      go_upto_region 6 with (first
        | (go_at_call 9; refine (HO.out _).mono ?_; rintro e w4 ⟨rfl, hb4⟩; have hE_w4 : Ext (w.alloc (.cells #[.int .u8 k, .int .u8 ty, .int .i64 n, .int .u64 x, .int .u64 y, .string s] 26)) w4 := (by (repeat (with_reducible (first | exact Ext.refl _ | assumption | exact held_left (by assumption) | apply Ext.drewN | apply Ext.drew | apply Ext.alloc | (refine Ext.setCell ?_ (by first | (simp; done) | (simp; omega) | omega) _) | (refine Ext.trans ?_ (by assumption)) | (refine Ext.trans ?_ (held_left (by assumption))))))); obtain ⟨hc_w4, hf_w4⟩ := hE_w4.cells; have hz_w4 := hE_w4.size)
        | (go_at_call 8; refine (HB.out _).mono ?_; rintro e w5 ⟨v5, rfl, ho5, hb5⟩; have hE_w5 : Ext (w.alloc (.cells #[.int .u8 k, .int .u8 ty, .int .i64 n, .int .u64 x, .int .u64 y, .string s] 26)) w5 := (by (repeat (with_reducible (first | exact Ext.refl _ | assumption | exact held_left (by assumption) | apply Ext.drewN | apply Ext.drew | apply Ext.alloc | (refine Ext.setCell ?_ (by first | (simp; done) | (simp; omega) | omega) _) | (refine Ext.trans ?_ (by assumption)) | (refine Ext.trans ?_ (held_left (by assumption))))))); obtain ⟨hc_w5, hf_w5⟩ := hE_w5.cells; have hz_w5 := hE_w5.size; obtain ⟨a5, cap5, rfl⟩ := ho5.shape; clear ho5))
      have hE5 : Ext w w5 := by (repeat (with_reducible (first | exact Ext.refl _ | assumption | exact held_left (by assumption) | apply Ext.drewN | apply Ext.drew | apply Ext.alloc | (refine Ext.setCell ?_ (by first | (simp; done) | (simp; omega) | omega) _) | (refine Ext.trans ?_ (by assumption)) | (refine Ext.trans ?_ (held_left (by assumption))))))
      have HE5 := Hid.mk' hE5
      clear hE5 hb1 hb2 hb3 hb4 hb5 hE_w1 hE_w2 hE_w3 hE_w4 hE_w5 hc_w1 hc_w2 hc_w3 hc_w4 hc_w5 hf_w1 hf_w2 hf_w3 hf_w4 hf_w5
      go_wp2_with (go_at_call 11; refine (awake07_any _).mono ?_; rintro e w7 ⟨rfl, hb7⟩)
      go_ret
      exact ⟨rfl, HE5.out.trans (by (repeat (with_reducible (first | exact Ext.refl _ | assumption | exact held_left (by assumption) | apply Ext.drewN | apply Ext.drew | apply Ext.alloc | (refine Ext.setCell ?_ (by first | (simp; done) | (simp; omega) | omega) _) | (refine Ext.trans ?_ (by assumption)) | (refine Ext.trans ?_ (held_left (by assumption)))))))⟩
  · have h02 : (R != 0) = true := by simpa using h0
    clear hn hx hy hs hR h0
    go_enter Try.func4, Try.ntmps4
    go_wp2_with (go_at_call 12; refine (HR.out _).mono ?_; rintro e w1 ⟨rfl, hb1⟩)
    go_ret
    exact ⟨rfl, by (repeat (with_reducible (first | exact Ext.refl _ | assumption | exact held_left (by assumption) | apply Ext.drewN | apply Ext.drew | apply Ext.alloc | (refine Ext.setCell ?_ (by first | (simp; done) | (simp; omega) | omega) _) | (refine Ext.trans ?_ (by assumption)) | (refine Ext.trans ?_ (held_left (by assumption))))))⟩

end Go.Proofs.Ytmpnopjkpamhaaa
