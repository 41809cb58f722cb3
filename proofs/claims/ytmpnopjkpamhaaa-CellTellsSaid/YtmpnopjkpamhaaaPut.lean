/-
The program's Put of a value.
-/
import Derived.Test.YtmpnopjkpamhaaaPutR
namespace Go.Proofs.Ytmpnopjkpamhaaa
open Go.RowKit

/-- What is wrong with putting a value; its bytes. -/
def errV (ty n x y : Int) (s : ByteArray) (ver : Int) : Int := if ver = 1 ∨ ver = 2 then rightV ty n x y s else 18
def putL (ty n : Int) (x y : Nat) (s : ByteArray) (ver : Int) : List Int :=
  if ty = 1 then [n] else if ty = 2 then (if ver = 1 then wordL (n % 18446744073709551616) else sevens (zig n)) else if ty = 3 then floatL x ver else if ty = 4 then complexL x y ver else sevens s.size ++ strL s

theorem right_zero {ty n x y : Int} {s : ByteArray} (h : rightV ty n x y s = 0) : 1 ≤ ty ∧ ty ≤ 6 ∧ s.size ≤ 2048 ∧ (ty = 1 → n = 0 ∨ n = 1) ∧ (2 < ty → n = 0) ∧ (ty ≠ 3 → ty ≠ 4 → x = 0) ∧ (ty ≠ 4 → y = 0) ∧ (ty < 5 → s.size = 0) ∧ (ty = 5 → plainB s = true) := by
  unfold rightV at h
  (repeat' split at h) <;> first | (exfalso; omega) | skip
  rename_i h1 h2 h3 h4 h5
  refine ⟨by omega, by omega, by omega, by omega, by omega, by omega, by omega, by omega, ?_⟩
  intro h6
  cases hp : plainB s
  · exact absurd ⟨h6, hp⟩ h5
  · rfl

set_option maxRecDepth 20000 in set_option maxHeartbeats 400000 in
theorem versioned_yes (ver : Int) (w : World) (h1 : 1 ≤ ver) (h2 : ver ≤ 2) : Calls Try.prog 46 #[.int .u8 ver] w fun e w' => e = .returned (.bool true) ∧ w = w' := by
  go_enter Try.func46, Try.ntmps46
  go_wp2
  go_ret
  exact ⟨ret_bool (by first | (simp; done) | (simp; omega)), rfl⟩
set_option maxRecDepth 20000 in set_option maxHeartbeats 400000 in
theorem versioned_no (ver : Int) (w : World) (h1 : ver < 1 ∨ 2 < ver) : Calls Try.prog 46 #[.int .u8 ver] w fun e w' => e = .returned (.bool false) ∧ w = w' := by
  go_enter Try.func46, Try.ntmps46
  go_wp2
  all_goals
    go_ret
    exact ⟨ret_bool (by first | (simp; done) | (simp; omega)), rfl⟩

def PutPost (l : List Int) (ty n : Int) (x y : Nat) (s : ByteArray) (ver : Int) (w : World) (e : Ending) (w' : World) : Prop :=
  ∃ v', e = .returned (.tuple #[v', .int .i64 (errV ty n x y s ver)]) ∧ (errV ty n x y s ver = 0 → OB w' w.heap.size v' (l ++ putL ty n x y s ver)) ∧ (errV ty n x y s ver ≠ 0 → v' = .slice none 0 0) ∧ Ext w w'

set_option maxRecDepth 100000 in set_option maxHeartbeats 1600000 in
theorem vput_any (v : Value) (l : List Int) (ty n : Int) (x y : Nat) (s : ByteArray) (ver : Int) (w : World) (hl : Sl w v 1 (l.map bcell)) (hlen : l.length ≤ 800000) (hn : -9223372036854775808 ≤ n ∧ n < 9223372036854775808) (hx : x < 2 ^ 64) (hy : y < 2 ^ 64) (hs : s.size ≤ 9223372036854775807) :
    Calls Try.prog 30 #[v, .agg #[.int .u8 ty, .int .i64 n, .complex .f64 x y, .string s], .int .u8 ver] w (PutPost l ty n x y s ver w) := by
  obtain ⟨i0, hi, hz0, hz1, hz2⟩ := info_parts Try.infoU8
  have HL := Hid.mk' hl
  have HX := Hid.mk' (And.intro hx hy)
  have HN := Hid.mk' hn
  have HR := Hid.mk' (fun w => vright_any ty n x y s w hs)
  clear hx hy hs hl hn
  by_cases hv : ver = 1 ∨ ver = 2
  · have he : errV ty n x y s ver = rightV ty n x y s := by unfold errV; rw [if_pos hv]
    have HV := Hid.mk' (fun w => versioned_yes ver w (by omega) (by omega))
    obtain ⟨R, hR⟩ : ∃ R, R = rightV ty n x y s := ⟨_, rfl⟩
    rw [← hR] at HR he
    have HE := Hid.mk' he
    have HRR := Hid.mk' hR
    clear he hR
    by_cases h0 : R = 0
    · subst h0
      have hz := right_zero HRR.out.symm
      have ht : ty = 1 ∨ ty = 2 ∨ ty = 3 ∨ ty = 4 ∨ ty = 5 ∨ ty = 6 := by omega
      have hs2 : s.size ≤ 2048 := hz.2.2.1
      have HZ := Hid.mk' hz
      clear hz
      have HVV := Hid.mk' hv
      clear hv
      rcases ht with rfl | rfl | rfl | rfl | rfl | rfl
      · rcases HZ.out.2.2.2.1 rfl with hn01 | hn01
        · subst hn01
          go_enter Try.func30, Try.ntmps30
          go_wp2_with (first
        | (go_at_call 46; refine (HV.out _).mono ?_; rintro e w0 ⟨rfl, rfl⟩)
        | (go_at_call 47; refine (vbits_any _ _ _).mono ?_; rintro e w0 ⟨rfl, rfl⟩)
        | (go_at_call 39; refine (HR.out _).mono ?_; rintro e w1 ⟨rfl, hb1⟩; have h1 := (Blk.new w #[.int .u8 1, .int .i64 0, .complex .f64 x y, .string s] 35).ext hb1; have hE1 : Ext w w1 := (by (repeat (with_reducible (first | exact Ext.refl _ | assumption | exact held_left (by assumption) | apply Ext.drewN | apply Ext.drew | apply Ext.alloc | (refine Ext.setCell ?_ (by first | (simp; done) | (simp; omega) | omega) _) | (refine Ext.trans ?_ (by assumption)) | (refine Ext.trans ?_ (held_left (by assumption))))))); have k1 := h1.cell; have z1 := h1.lt)
        | (go_at_call 26; refine (clone_any v l _ (HL.out.ext hE1) (by omega)).mono ?_; rintro e w2 ⟨v2, rfl, ho2, hb2⟩; have HO2 := Hid.mk' (ho2.base hE1.size); have HE2 := Hid.mk' (hE1.trans hb2); have h2 := h1.ext hb2; have k2 := h2.cell; have z2 := h2.lt; clear h1 k1 z1 hb1 ho2 hb2)
        | (at_builtin; refine wpList_append_own _ rfl _ _ 29 rfl w.heap.size 5 i0 _ 1 1 Try.underlying29 hi hz0 hz1 hz2 rfl (by decide) _ _ _ rfl (HO2.out.alloc _) ⟨_, 0, none⟩ 1 1 (bs [0]) rfl rfl ?c1a ?c2a ?c3a ?c4a ?c5a ?_))
          case c1a => exact cells_one _ _
          case c2a => exact bs_one _
          case c3a => unfold maxLen; omega
          case c4a => omega
          case c5a => have := HE2.out.size; simp; omega
          intro v3 w3 hown hgrow _
          have hE3 := OB.grown (HE2.out.alloc _) (HO2.out.alloc _) hgrow
          have HO3 := Hid.mk' (OB.push hown (by simp))
          have HE3 := Hid.mk' hE3
          clear hown hgrow hE3
          go_wp2
          go_ret2
          exact ⟨_, by rw [HE.out]; rfl, fun _ => HO3.out, fun h => absurd HE.out h, HE3.out⟩
        · subst hn01
          go_enter Try.func30, Try.ntmps30
          go_wp2_with (first
        | (go_at_call 46; refine (HV.out _).mono ?_; rintro e w0 ⟨rfl, rfl⟩)
        | (go_at_call 47; refine (vbits_any _ _ _).mono ?_; rintro e w0 ⟨rfl, rfl⟩)
        | (go_at_call 39; refine (HR.out _).mono ?_; rintro e w1 ⟨rfl, hb1⟩; have h1 := (Blk.new w #[.int .u8 1, .int .i64 1, .complex .f64 x y, .string s] 35).ext hb1; have hE1 : Ext w w1 := (by (repeat (with_reducible (first | exact Ext.refl _ | assumption | exact held_left (by assumption) | apply Ext.drewN | apply Ext.drew | apply Ext.alloc | (refine Ext.setCell ?_ (by first | (simp; done) | (simp; omega) | omega) _) | (refine Ext.trans ?_ (by assumption)) | (refine Ext.trans ?_ (held_left (by assumption))))))); have k1 := h1.cell; have z1 := h1.lt)
        | (go_at_call 26; refine (clone_any v l _ (HL.out.ext hE1) (by omega)).mono ?_; rintro e w2 ⟨v2, rfl, ho2, hb2⟩; have HO2 := Hid.mk' (ho2.base hE1.size); have HE2 := Hid.mk' (hE1.trans hb2); have h2 := h1.ext hb2; have k2 := h2.cell; have z2 := h2.lt; clear h1 k1 z1 hb1 ho2 hb2)
        | (at_builtin; refine wpList_append_own _ rfl _ _ 29 rfl w.heap.size 5 i0 _ 1 1 Try.underlying29 hi hz0 hz1 hz2 rfl (by decide) _ _ _ rfl (HO2.out.alloc _) ⟨_, 0, none⟩ 1 1 (bs [1]) rfl rfl ?c1b ?c2b ?c3b ?c4b ?c5b ?_))
          case c1b => exact cells_one _ _
          case c2b => exact bs_one _
          case c3b => unfold maxLen; omega
          case c4b => omega
          case c5b => have := HE2.out.size; simp; omega
          intro v3 w3 hown hgrow _
          have hE3 := OB.grown (HE2.out.alloc _) (HO2.out.alloc _) hgrow
          have HO3 := Hid.mk' (OB.push hown (by simp))
          have HE3 := Hid.mk' hE3
          clear hown hgrow hE3
          go_wp2
          go_ret2
          exact ⟨_, by rw [HE.out]; rfl, fun _ => HO3.out, fun h => absurd HE.out h, HE3.out⟩
      · rcases HVV.out with rfl | rfl
        · go_enter Try.func30, Try.ntmps30
          go_wp2_with (first
        | (go_at_call 46; refine (HV.out _).mono ?_; rintro e w0 ⟨rfl, rfl⟩)
        | (go_at_call 47; refine (vbits_any _ _ _).mono ?_; rintro e w0 ⟨rfl, rfl⟩)
        | (go_at_call 39; refine (HR.out _).mono ?_; rintro e w1 ⟨rfl, hb1⟩; have h1 := (Blk.new w #[.int .u8 2, .int .i64 n, .complex .f64 x y, .string s] 35).ext hb1; have hE1 : Ext w w1 := (by (repeat (with_reducible (first | exact Ext.refl _ | assumption | exact held_left (by assumption) | apply Ext.drewN | apply Ext.drew | apply Ext.alloc | (refine Ext.setCell ?_ (by first | (simp; done) | (simp; omega) | omega) _) | (refine Ext.trans ?_ (by assumption)) | (refine Ext.trans ?_ (held_left (by assumption))))))); have k1 := h1.cell; have z1 := h1.lt)
        | (go_at_call 26; refine (clone_any v l _ (HL.out.ext hE1) (by omega)).mono ?_; rintro e w2 ⟨v2, rfl, ho2, hb2⟩; have HO2 := Hid.mk' (ho2.base hE1.size); have HE2 := Hid.mk' (hE1.trans hb2); have h2 := h1.ext hb2; have k2 := h2.cell; have z2 := h2.lt; clear h1 k1 z1 hb1 ho2 hb2)
        | (go_at_call 48; refine (putWord_any w v2 l _ _ HE2.out HO2.out (by omega)).mono ?_; rintro e w3 ⟨v3, rfl, ho3, hb3⟩; have HO3 := Hid.mk' ho3; have HE3 := Hid.mk' hb3; clear ho3 hb3))
          go_ret2
          exact ⟨_, by rw [HE.out]; rfl, fun _ => (by have h := HO3.out; rw [u64_wrap] at h; exact h), fun h => absurd HE.out h, HE3.out⟩
        · go_enter Try.func30, Try.ntmps30
          go_wp2_with (first
        | (go_at_call 46; refine (HV.out _).mono ?_; rintro e w0 ⟨rfl, rfl⟩)
        | (go_at_call 47; refine (vbits_any _ _ _).mono ?_; rintro e w0 ⟨rfl, rfl⟩)
        | (go_at_call 39; refine (HR.out _).mono ?_; rintro e w1 ⟨rfl, hb1⟩; have h1 := (Blk.new w #[.int .u8 2, .int .i64 n, .complex .f64 x y, .string s] 35).ext hb1; have hE1 : Ext w w1 := (by (repeat (with_reducible (first | exact Ext.refl _ | assumption | exact held_left (by assumption) | apply Ext.drewN | apply Ext.drew | apply Ext.alloc | (refine Ext.setCell ?_ (by first | (simp; done) | (simp; omega) | omega) _) | (refine Ext.trans ?_ (by assumption)) | (refine Ext.trans ?_ (held_left (by assumption))))))); have k1 := h1.cell; have z1 := h1.lt)
        | (go_at_call 26; refine (clone_any v l _ (HL.out.ext hE1) (by omega)).mono ?_; rintro e w2 ⟨v2, rfl, ho2, hb2⟩; have HO2 := Hid.mk' (ho2.base hE1.size); have HE2 := Hid.mk' (hE1.trans hb2); have h2 := h1.ext hb2; have k2 := h2.cell; have z2 := h2.lt; clear h1 k1 z1 hb1 ho2 hb2)
        | (go_at_call 49; refine (putInt_any v2 l n _ HO2.out.sl HN.out (by omega)).mono ?_; rintro e w3 ⟨v3, rfl, ho3, hb3⟩; have HO3 := Hid.mk' (ho3.base HE2.out.size); have HE3 := Hid.mk' (HE2.out.trans hb3); clear ho3 hb3))
          go_ret2
          exact ⟨_, by rw [HE.out]; rfl, fun _ => HO3.out, fun h => absurd HE.out h, HE3.out⟩
      · go_enter Try.func30, Try.ntmps30
        go_wp2_with (first
        | (go_at_call 46; refine (HV.out _).mono ?_; rintro e w0 ⟨rfl, rfl⟩)
        | (go_at_call 47; refine (vbits_any _ _ _).mono ?_; rintro e w0 ⟨rfl, rfl⟩)
        | (go_at_call 39; refine (HR.out _).mono ?_; rintro e w1 ⟨rfl, hb1⟩; have h1 := (Blk.new w #[.int .u8 3, .int .i64 n, .complex .f64 x y, .string s] 35).ext hb1; have hE1 : Ext w w1 := (by (repeat (with_reducible (first | exact Ext.refl _ | assumption | exact held_left (by assumption) | apply Ext.drewN | apply Ext.drew | apply Ext.alloc | (refine Ext.setCell ?_ (by first | (simp; done) | (simp; omega) | omega) _) | (refine Ext.trans ?_ (by assumption)) | (refine Ext.trans ?_ (held_left (by assumption))))))); have k1 := h1.cell; have z1 := h1.lt)
        | (go_at_call 26; refine (clone_any v l _ (HL.out.ext hE1) (by omega)).mono ?_; rintro e w2 ⟨v2, rfl, ho2, hb2⟩; have HO2 := Hid.mk' (ho2.base hE1.size); have HE2 := Hid.mk' (hE1.trans hb2); have h2 := h1.ext hb2; have k2 := h2.cell; have z2 := h2.lt; clear h1 k1 z1 hb1 ho2 hb2)
        | (go_at_call 50; refine (putFloat_any w v2 l x ver _ HE2.out HO2.out HX.out.1 (by omega)).mono ?_; rintro e w3 ⟨v3, rfl, ho3, hb3⟩; have HO3 := Hid.mk' ho3; have HE3 := Hid.mk' hb3; clear ho3 hb3))
        go_ret2
        exact ⟨_, by rw [HE.out]; rfl, fun _ => HO3.out, fun h => absurd HE.out h, HE3.out⟩
      · go_enter Try.func30, Try.ntmps30
        go_wp2_with (first
        | (go_at_call 46; refine (HV.out _).mono ?_; rintro e w0 ⟨rfl, rfl⟩)
        | (go_at_call 47; refine (vbits_any _ _ _).mono ?_; rintro e w0 ⟨rfl, rfl⟩)
        | (go_at_call 39; refine (HR.out _).mono ?_; rintro e w1 ⟨rfl, hb1⟩; have h1 := (Blk.new w #[.int .u8 4, .int .i64 n, .complex .f64 x y, .string s] 35).ext hb1; have hE1 : Ext w w1 := (by (repeat (with_reducible (first | exact Ext.refl _ | assumption | exact held_left (by assumption) | apply Ext.drewN | apply Ext.drew | apply Ext.alloc | (refine Ext.setCell ?_ (by first | (simp; done) | (simp; omega) | omega) _) | (refine Ext.trans ?_ (by assumption)) | (refine Ext.trans ?_ (held_left (by assumption))))))); have k1 := h1.cell; have z1 := h1.lt)
        | (go_at_call 26; refine (clone_any v l _ (HL.out.ext hE1) (by omega)).mono ?_; rintro e w2 ⟨v2, rfl, ho2, hb2⟩; have HO2 := Hid.mk' (ho2.base hE1.size); have HE2 := Hid.mk' (hE1.trans hb2); have h2 := h1.ext hb2; have k2 := h2.cell; have z2 := h2.lt; clear h1 k1 z1 hb1 ho2 hb2)
        | (go_at_call 51; refine (putComplex_any w v2 l x y ver _ HE2.out HO2.out HX.out.1 HX.out.2 (by omega)).mono ?_; rintro e w3 ⟨v3, rfl, ho3, hb3⟩; have HO3 := Hid.mk' ho3; have HE3 := Hid.mk' hb3; clear ho3 hb3))
        go_ret2
        exact ⟨_, by rw [HE.out]; rfl, fun _ => HO3.out, fun h => absurd HE.out h, HE3.out⟩
      · go_enter Try.func30, Try.ntmps30
        go_wp2_with (first
        | (go_at_call 46; refine (HV.out _).mono ?_; rintro e w0 ⟨rfl, rfl⟩)
        | (go_at_call 47; refine (vbits_any _ _ _).mono ?_; rintro e w0 ⟨rfl, rfl⟩)
        | (go_at_call 39; refine (HR.out _).mono ?_; rintro e w1 ⟨rfl, hb1⟩; have h1 := (Blk.new w #[.int .u8 5, .int .i64 n, .complex .f64 x y, .string s] 35).ext hb1; have hE1 : Ext w w1 := (by (repeat (with_reducible (first | exact Ext.refl _ | assumption | exact held_left (by assumption) | apply Ext.drewN | apply Ext.drew | apply Ext.alloc | (refine Ext.setCell ?_ (by first | (simp; done) | (simp; omega) | omega) _) | (refine Ext.trans ?_ (by assumption)) | (refine Ext.trans ?_ (held_left (by assumption))))))); have k1 := h1.cell; have z1 := h1.lt)
        | (go_at_call 26; refine (clone_any v l _ (HL.out.ext hE1) (by omega)).mono ?_; rintro e w2 ⟨v2, rfl, ho2, hb2⟩; have HO2 := Hid.mk' (ho2.base hE1.size); have HE2 := Hid.mk' (hE1.trans hb2); have h2 := h1.ext hb2; have k2 := h2.cell; have z2 := h2.lt; clear h1 k1 z1 hb1 ho2 hb2)
        | (go_at_call 52; refine (putText_any v2 l s _ HO2.out.sl (by omega) (by omega)).mono ?_; rintro e w3 ⟨v3, rfl, ho3, hb3⟩; have HO3 := Hid.mk' (ho3.base HE2.out.size); have HE3 := Hid.mk' (HE2.out.trans hb3); clear ho3 hb3))
        go_ret2
        exact ⟨_, by rw [HE.out]; rfl, fun _ => HO3.out, fun h => absurd HE.out h, HE3.out⟩
      · go_enter Try.func30, Try.ntmps30
        go_wp2_with (first
        | (go_at_call 46; refine (HV.out _).mono ?_; rintro e w0 ⟨rfl, rfl⟩)
        | (go_at_call 47; refine (vbits_any _ _ _).mono ?_; rintro e w0 ⟨rfl, rfl⟩)
        | (go_at_call 39; refine (HR.out _).mono ?_; rintro e w1 ⟨rfl, hb1⟩; have h1 := (Blk.new w #[.int .u8 6, .int .i64 n, .complex .f64 x y, .string s] 35).ext hb1; have hE1 : Ext w w1 := (by (repeat (with_reducible (first | exact Ext.refl _ | assumption | exact held_left (by assumption) | apply Ext.drewN | apply Ext.drew | apply Ext.alloc | (refine Ext.setCell ?_ (by first | (simp; done) | (simp; omega) | omega) _) | (refine Ext.trans ?_ (by assumption)) | (refine Ext.trans ?_ (held_left (by assumption))))))); have k1 := h1.cell; have z1 := h1.lt)
        | (go_at_call 26; refine (clone_any v l _ (HL.out.ext hE1) (by omega)).mono ?_; rintro e w2 ⟨v2, rfl, ho2, hb2⟩; have HO2 := Hid.mk' (ho2.base hE1.size); have HE2 := Hid.mk' (hE1.trans hb2); have h2 := h1.ext hb2; have k2 := h2.cell; have z2 := h2.lt; clear h1 k1 z1 hb1 ho2 hb2)
        | (go_at_call 52; refine (putText_any v2 l s _ HO2.out.sl (by omega) (by omega)).mono ?_; rintro e w3 ⟨v3, rfl, ho3, hb3⟩; have HO3 := Hid.mk' (ho3.base HE2.out.size); have HE3 := Hid.mk' (HE2.out.trans hb3); clear ho3 hb3))
        go_ret2
        exact ⟨_, by rw [HE.out]; rfl, fun _ => HO3.out, fun h => absurd HE.out h, HE3.out⟩
    · go_enter Try.func30, Try.ntmps30
      go_wp2_with (first
        | (go_at_call 46; refine (HV.out _).mono ?_; rintro e w0 ⟨rfl, rfl⟩)
        | (go_at_call 39; refine (HR.out _).mono ?_; rintro e w1 ⟨rfl, hb1⟩))
      go_ret2
      exact ⟨_, by rw [HE.out]; rfl, fun h => absurd (HE.out.symm.trans h) h0, fun _ => rfl, by (repeat (with_reducible (first | exact Ext.refl _ | assumption | exact held_left (by assumption) | apply Ext.drewN | apply Ext.drew | apply Ext.alloc | (refine Ext.setCell ?_ (by first | (simp; done) | (simp; omega) | omega) _) | (refine Ext.trans ?_ (by assumption)) | (refine Ext.trans ?_ (held_left (by assumption))))))⟩
  · have he : errV ty n x y s ver = 18 := by unfold errV; rw [if_neg hv]
    have HE := Hid.mk' he
    have HV := Hid.mk' (fun w => versioned_no ver w (by omega))
    clear he
    go_enter Try.func30, Try.ntmps30
    go_wp2_with (go_at_call 46; refine (HV.out _).mono ?_; rintro e w0 ⟨rfl, rfl⟩)
    go_ret2
    exact ⟨_, by rw [HE.out]; rfl, fun h => absurd (HE.out.symm.trans h) (by decide), fun _ => rfl, by (repeat (with_reducible (first | exact Ext.refl _ | assumption | exact held_left (by assumption) | apply Ext.drewN | apply Ext.drew | apply Ext.alloc | (refine Ext.setCell ?_ (by first | (simp; done) | (simp; omega) | omega) _) | (refine Ext.trans ?_ (by assumption)) | (refine Ext.trans ?_ (held_left (by assumption))))))⟩

end Go.Proofs.Ytmpnopjkpamhaaa
