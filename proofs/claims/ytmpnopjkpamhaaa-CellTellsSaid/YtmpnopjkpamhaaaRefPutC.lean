/-
The reference's Put of a value.
-/
import Derived.Test.YtmpnopjkpamhaaaRefPutD
namespace Go.Proofs.Ytmpnopjkpamhaaa
open Go.RowKit

def RPutPost (ty n : Int) (x y : Nat) (s : ByteArray) (ver : Int) (w : World) (e : Ending) (w' : World) : Prop :=
  ∃ v', e = .returned (.tuple #[v', .int .i64 (errV ty n x y s ver)]) ∧ (errV ty n x y s ver = 0 → OB w' w.heap.size v' (putL ty n x y s ver)) ∧ (errV ty n x y s ver ≠ 0 → v' = .slice none 0 0) ∧ Ext w w'

set_option maxRecDepth 100000 in set_option maxHeartbeats 1600000 in
theorem rput_any (ty n : Int) (x y : Nat) (s : ByteArray) (ver : Int) (w : World) (hn : -9223372036854775808 ≤ n ∧ n < 9223372036854775808) (hx : x < 2 ^ 64) (hy : y < 2 ^ 64) (hs : s.size ≤ 9223372036854775807) :
    Calls Try.prog 34 #[.agg #[.int .u8 ty, .int .i64 n, .int .u64 x, .int .u64 y, .string s], .int .u8 ver] w (RPutPost ty n x y s ver w) := by
  obtain ⟨i0, hi, hz0, hz1, hz2⟩ := info_parts Try.infoU8
  have HX := Hid.mk' (And.intro hx hy)
  have HN := Hid.mk' hn
  have HR := Hid.mk' (fun w => rright_any ty n x y s w hs)
  clear hx hy hs hn
  by_cases hv : ver = 1 ∨ ver = 2
  · have he : errV ty n x y s ver = rightV ty n x y s := by unfold errV; rw [if_pos hv]
    obtain ⟨R, hR⟩ : ∃ R, R = rightV ty n x y s := ⟨_, rfl⟩
    rw [← hR] at HR he
    have HE := Hid.mk' he
    have HRR := Hid.mk' hR
    clear he hR
    by_cases h0 : R = 0
    · subst h0
      have hz := right_zero HRR.out.symm
      have ht : ty = 1 ∨ ty = 2 ∨ ty = 3 ∨ ty = 4 ∨ ty = 5 ∨ ty = 6 := by omega
      have hs2 : s.size ≤ 2048 := hz.2.2.1
      have HZ := Hid.mk' hz
      clear hz
      have HVV := Hid.mk' hv
      clear hv
      rcases ht with rfl | rfl | rfl | rfl | rfl | rfl
      · rcases HZ.out.2.2.2.1 rfl with hn01 | hn01
        all_goals
          subst hn01
          rcases HVV.out with rfl | rfl
          all_goals
            go_enter Try.func34, Try.ntmps34
            go_wp2_with (go_at_call 36; refine (HR.out _).mono ?_; rintro e w1 ⟨rfl, hb1⟩; have h1 := (Blk.new w #[.int .u8 1, .int .i64 _, .int .u64 x, .int .u64 y, .string s] 24).ext hb1; have hE1 : Ext w w1 := (by (repeat (with_reducible (first | exact Ext.refl _ | assumption | exact held_left (by assumption) | apply Ext.drewN | apply Ext.drew | apply Ext.alloc | (refine Ext.setCell ?_ (by first | (simp; done) | (simp; omega) | omega) _) | (refine Ext.trans ?_ (by assumption)) | (refine Ext.trans ?_ (held_left (by assumption))))))); have k1 := h1.cell; have z1 := h1.lt)
            go_ret2
            exact ⟨_, by rw [HE.out]; rfl, fun _ => OB.of_blk (l := [_]) (Blk.new _ _ _) hE1.size rfl (by decide), fun h => absurd HE.out h, hE1.alloc _⟩
      · rcases HVV.out with rfl | rfl
        · have hw : 0 ≤ n % 18446744073709551616 ∧ n % 18446744073709551616 < 18446744073709551616 := by omega
          have HW := Hid.mk' hw
          clear hw
          go_enter Try.func34, Try.ntmps34
          go_wp2_with (first
            | (go_at_call 36; refine (HR.out _).mono ?_; rintro e w1 ⟨rfl, hb1⟩; have h1 := (Blk.new w #[.int .u8 2, .int .i64 n, .int .u64 x, .int .u64 y, .string s] 24).ext hb1; have hE1 : Ext w w1 := (by (repeat (with_reducible (first | exact Ext.refl _ | assumption | exact held_left (by assumption) | apply Ext.drewN | apply Ext.drew | apply Ext.alloc | (refine Ext.setCell ?_ (by first | (simp; done) | (simp; omega) | omega) _) | (refine Ext.trans ?_ (by assumption)) | (refine Ext.trans ?_ (held_left (by assumption))))))); have k1 := h1.cell; have z1 := h1.lt)
            | (go_at_call 54; rw [u64_wrap]; refine (rword_any _ _ HW.out.1 HW.out.2).mono ?_; rintro e w2 ⟨v2, rfl, ho2, hb2⟩; have HO2 := Hid.mk' (ho2.base hE1.size); have HE2 := Hid.mk' (hE1.trans hb2); clear ho2 hb2))
          go_ret2
          exact ⟨_, by rw [HE.out]; rfl, fun _ => HO2.out, fun h => absurd HE.out h, HE2.out⟩
        · have HZL := Hid.mk' (zig_lt n HN.out)
          go_enter Try.func34, Try.ntmps34
          go_wp2_with (first
            | (go_at_call 36; refine (HR.out _).mono ?_; rintro e w1 ⟨rfl, hb1⟩; have h1 := (Blk.new w #[.int .u8 2, .int .i64 n, .int .u64 x, .int .u64 y, .string s] 24).ext hb1; have hE1 : Ext w w1 := (by (repeat (with_reducible (first | exact Ext.refl _ | assumption | exact held_left (by assumption) | apply Ext.drewN | apply Ext.drew | apply Ext.alloc | (refine Ext.setCell ?_ (by first | (simp; done) | (simp; omega) | omega) _) | (refine Ext.trans ?_ (by assumption)) | (refine Ext.trans ?_ (held_left (by assumption))))))); have k1 := h1.cell; have z1 := h1.lt)
            | (go_at_call 55; refine (rzig_any n _ HN.out).mono ?_; rintro e w2 ⟨rfl, rfl⟩)
            | (go_at_call 32; refine (ruint_any _ _ HZL.out).mono ?_; rintro e w2 ⟨v2, rfl, ho2, hb2⟩; have HO2 := Hid.mk' (ho2.base hE1.size); have HE2 := Hid.mk' (hE1.trans hb2); clear ho2 hb2))
          go_ret2
          exact ⟨_, by rw [HE.out]; rfl, fun _ => HO2.out, fun h => absurd HE.out h, HE2.out⟩
      · rcases HVV.out with rfl | rfl
        all_goals
          go_enter Try.func34, Try.ntmps34
          go_wp2_with (first
            | (go_at_call 36; refine (HR.out _).mono ?_; rintro e w1 ⟨rfl, hb1⟩; have h1 := (Blk.new w #[.int .u8 3, .int .i64 n, .int .u64 x, .int .u64 y, .string s] 24).ext hb1; have hE1 : Ext w w1 := (by (repeat (with_reducible (first | exact Ext.refl _ | assumption | exact held_left (by assumption) | apply Ext.drewN | apply Ext.drew | apply Ext.alloc | (refine Ext.setCell ?_ (by first | (simp; done) | (simp; omega) | omega) _) | (refine Ext.trans ?_ (by assumption)) | (refine Ext.trans ?_ (held_left (by assumption))))))); have k1 := h1.cell; have z1 := h1.lt)
            | (go_at_call 56; refine (rfloat_any x _ _ HX.out.1).mono ?_; rintro e w2 ⟨v2, rfl, ho2, hb2⟩; have HO2 := Hid.mk' (ho2.base hE1.size); have HE2 := Hid.mk' (hE1.trans hb2); clear ho2 hb2))
          go_ret2
          exact ⟨_, by rw [HE.out]; rfl, fun _ => HO2.out, fun h => absurd HE.out h, HE2.out⟩
      · refine (rput4_any n x y s ver w HX.out.1 HX.out.2 HVV.out HR).mono ?_
        rintro e w1 ⟨v', he, ho, hb⟩
        exact ⟨v', by rw [HE.out]; exact he, fun _ => ho, fun h => absurd HE.out h, hb⟩
      all_goals
        rcases HVV.out with rfl | rfl
        all_goals
          go_enter Try.func34, Try.ntmps34
          go_wp2_with (first
            | (go_at_call 36; refine (HR.out _).mono ?_; rintro e w1 ⟨rfl, hb1⟩; have h1 := (Blk.new w #[.int .u8 _, .int .i64 n, .int .u64 x, .int .u64 y, .string s] 24).ext hb1; have hE1 : Ext w w1 := (by (repeat (with_reducible (first | exact Ext.refl _ | assumption | exact held_left (by assumption) | apply Ext.drewN | apply Ext.drew | apply Ext.alloc | (refine Ext.setCell ?_ (by first | (simp; done) | (simp; omega) | omega) _) | (refine Ext.trans ?_ (by assumption)) | (refine Ext.trans ?_ (held_left (by assumption))))))); have k1 := h1.cell; have z1 := h1.lt)
            | (go_at_call 57; refine (rtext_any s _ (by omega)).mono ?_; rintro e w2 ⟨v2, rfl, ho2, hb2⟩; have HO2 := Hid.mk' (ho2.base hE1.size); have HE2 := Hid.mk' (hE1.trans hb2); clear ho2 hb2))
          go_ret2
          exact ⟨_, by rw [HE.out]; rfl, fun _ => HO2.out, fun h => absurd HE.out h, HE2.out⟩
    · rcases hv with rfl | rfl
      all_goals
        go_enter Try.func34, Try.ntmps34
        go_wp2_with (first
          | (go_at_call 36; refine (HR.out _).mono ?_; rintro e w1 ⟨rfl, hb1⟩))
        go_ret2
        exact ⟨_, by rw [HE.out]; rfl, fun h => absurd (HE.out.symm.trans h) h0, fun _ => rfl, by (repeat (with_reducible (first | exact Ext.refl _ | assumption | exact held_left (by assumption) | apply Ext.drewN | apply Ext.drew | apply Ext.alloc | (refine Ext.setCell ?_ (by first | (simp; done) | (simp; omega) | omega) _) | (refine Ext.trans ?_ (by assumption)) | (refine Ext.trans ?_ (held_left (by assumption))))))⟩
  · have he : errV ty n x y s ver = 18 := by unfold errV; rw [if_neg hv]
    have HE := Hid.mk' he
    have hv1 : (ver != 1) = true := by simp; omega
    have hv2 : (ver != 2) = true := by simp; omega
    clear he
    go_enter Try.func34, Try.ntmps34
    go_wp2
    go_ret2
    exact ⟨_, by rw [HE.out]; rfl, fun h => absurd (HE.out.symm.trans h) (by decide), fun _ => rfl, by (repeat (with_reducible (first | exact Ext.refl _ | assumption | exact held_left (by assumption) | apply Ext.drewN | apply Ext.drew | apply Ext.alloc | (refine Ext.setCell ?_ (by first | (simp; done) | (simp; omega) | omega) _) | (refine Ext.trans ?_ (by assumption)) | (refine Ext.trans ?_ (held_left (by assumption))))))⟩

end Go.Proofs.Ytmpnopjkpamhaaa
