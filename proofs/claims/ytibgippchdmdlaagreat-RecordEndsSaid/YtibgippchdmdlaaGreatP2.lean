/-
The program's Put of a value.
-/
import Derived.Scope
import Derived.WalkMore
import Derived.Test.YtibgippchdmdlaaGreatP1
namespace Go.Proofs.YtibgippchdmdlaaGreat
open Go.RowKit

/-- What is wrong with putting a value; its bytes. -/
def errV (ty n x y : Int) (s : ByteArray) (ver : Int) : Int := if ver = 1 ∨ ver = 2 then rightV ty n x y s else 18
def putL (ty n : Int) (x y : Nat) (s : ByteArray) (ver : Int) : List Int :=
  if ty = 1 then [n] else if ty = 2 then (if ver = 1 then wordL (n % 18446744073709551616) else sevens (zig n)) else if ty = 3 then floatL x ver else if ty = 4 then complexL x y ver else sevens s.size ++ strL s

set_option maxRecDepth 20000 in set_option maxHeartbeats 400000 in
theorem versioned_yes (ver : Int) (w : World) (h1 : 1 ≤ ver) (h2 : ver ≤ 2) : Calls Tryz.prog 201 #[.int .u8 ver] w fun e w' => e = .returned (.bool true) ∧ w = w' := by
  go_enter Tryz.func201, Tryz.ntmps201
  go_wp2
  go_ret
  exact ⟨ret_bool (by first | (simp; done) | (simp; omega)), rfl⟩
set_option maxRecDepth 20000 in set_option maxHeartbeats 400000 in
theorem versioned_no (ver : Int) (w : World) (h1 : ver < 1 ∨ 2 < ver) : Calls Tryz.prog 201 #[.int .u8 ver] w fun e w' => e = .returned (.bool false) ∧ w = w' := by
  go_enter Tryz.func201, Tryz.ntmps201
  go_wp2
  all_goals
    go_ret
    exact ⟨ret_bool (by first | (simp; done) | (simp; omega)), rfl⟩

def PutPost (l : List Int) (ty n : Int) (x y : Nat) (s : ByteArray) (ver : Int) (w : World) (e : Ending) (w' : World) : Prop :=
  ∃ v', e = .returned (.tuple #[v', .int .i64 (errV ty n x y s ver)]) ∧ (errV ty n x y s ver = 0 → OB w' w.heap.size v' (l ++ putL ty n x y s ver)) ∧ (errV ty n x y s ver ≠ 0 → v' = .slice none 0 0) ∧ Ext w w'

set_option maxRecDepth 100000 in set_option maxHeartbeats 1600000 in
theorem vput_any (v : Value) (l : List Int) (ty n : Int) (x y : Nat) (s : ByteArray) (ver : Int) (w : World) (hl : Sl w v 1 (l.map bcell)) (hlen : l.length ≤ 800000) (hn : -9223372036854775808 ≤ n ∧ n < 9223372036854775808) (hx : x < 2 ^ 64) (hy : y < 2 ^ 64) (hs : s.size ≤ 9223372036854775807) :
    Calls Tryz.prog 175 #[v, .agg #[.int .u8 ty, .int .i64 n, .complex .f64 x y, .string s], .int .u8 ver] w (PutPost l ty n x y s ver w) := by
  obtain ⟨i0, hi, hz0, hz1, hz2⟩ := info_parts Tryz.infoU8
  have HL := Hid.mk' hl
  have HX := Hid.mk' (And.intro hx hy)
  have HN := Hid.mk' hn
  have HR := Hid.mk' (fun w => vright_any ty n x y s w hs)
  clear hx hy hs hl hn
  by_cases hv : ver = 1 ∨ ver = 2
  · have he : errV ty n x y s ver = rightV ty n x y s := by unfold errV; rw [if_pos hv]
    have HV := Hid.mk' (fun w => versioned_yes ver w (by omega) (by omega))
    obtain ⟨R, hR⟩ : ∃ R, R = rightV ty n x y s := ⟨_, rfl⟩
    rw [← hR] at HR he
    have HE := Hid.mk' he
    have HRR := Hid.mk' hR
    clear he hR
    by_cases h0 : R = 0
    · subst h0
      have hz := right_zero HRR.out.symm
      have ht : ty = 1 ∨ ty = 2 ∨ ty = 3 ∨ ty = 4 ∨ ty = 5 ∨ ty = 6 := by omega
      have hs2 : s.size ≤ 2048 := hz.2.2.1
      have HZ := Hid.mk' hz
      clear hz
      have HVV := Hid.mk' hv
      clear hv
      rcases ht with rfl | rfl | rfl | rfl | rfl | rfl
      · rcases HZ.out.2.2.2.1 rfl with hn01 | hn01
        · subst hn01
          go_enter Tryz.func175, Tryz.ntmps175
          go_wp2_with (first
        | (go_at_call 201; refine (HV.out _).mono ?_; rintro e w0 ⟨rfl, rfl⟩)
        | (go_at_call 190; refine (vbits_any _ _ _).mono ?_; rintro e w0 ⟨rfl, rfl⟩)
        | (go_at_call 200; refine (HR.out _).mono ?_; rintro e w1 ⟨rfl, hb1⟩; have h1 := (Blk.new w #[.int .u8 1, .int .i64 0, .complex .f64 x y, .string s] 193).ext hb1; have hE1 : Ext w w1 := (by (repeat (with_reducible (first | exact Ext.refl _ | assumption | exact held_left (by assumption) | apply Ext.drewN | apply Ext.drew | apply Ext.alloc | (refine Ext.setCell ?_ (by first | (simp; done) | (simp; omega) | omega) _) | (refine Ext.trans ?_ (by assumption)) | (refine Ext.trans ?_ (held_left (by assumption))))))); have k1 := h1.cell; have z1 := h1.lt)
        | (go_at_call 102; refine (clone_any v l _ (HL.out.ext hE1) (by omega)).mono ?_; rintro e w2 ⟨v2, rfl, ho2, hb2⟩; have HO2 := Hid.mk' (ho2.base hE1.size); have HE2 := Hid.mk' (hE1.trans hb2); have h2 := h1.ext hb2; have k2 := h2.cell; have z2 := h2.lt; clear h1 k1 z1 hb1 ho2 hb2)
        | (at_builtin; refine wpList_append_own _ rfl _ _ 40 rfl w.heap.size 5 i0 _ 1 1 Tryz.underlying40 hi hz0 hz1 hz2 rfl (by decide) _ _ _ rfl (HO2.out.alloc _) ⟨_, 0, none⟩ 1 1 (bs [0]) rfl rfl ?c1a ?c2a ?c3a ?c4a ?c5a ?_))
          case c1a => exact cells_one _ _
          case c2a => exact bs_one _
          case c3a => unfold maxLen; omega
          case c4a => omega
          case c5a => have := HE2.out.size; simp; omega
          intro v3 w3 hown hgrow _
          have hE3 := OB.grown (HE2.out.alloc _) (HO2.out.alloc _) hgrow
          have HO3 := Hid.mk' (OB.push hown (by simp))
          have HE3 := Hid.mk' hE3
          clear hown hgrow hE3
          go_wp2
          go_ret2
          exact ⟨_, by rw [HE.out]; rfl, fun _ => HO3.out, fun h => absurd HE.out h, HE3.out⟩
        · subst hn01
          go_enter Tryz.func175, Tryz.ntmps175
          go_wp2_with (first
        | (go_at_call 201; refine (HV.out _).mono ?_; rintro e w0 ⟨rfl, rfl⟩)
        | (go_at_call 190; refine (vbits_any _ _ _).mono ?_; rintro e w0 ⟨rfl, rfl⟩)
        | (go_at_call 200; refine (HR.out _).mono ?_; rintro e w1 ⟨rfl, hb1⟩; have h1 := (Blk.new w #[.int .u8 1, .int .i64 1, .complex .f64 x y, .string s] 193).ext hb1; have hE1 : Ext w w1 := (by (repeat (with_reducible (first | exact Ext.refl _ | assumption | exact held_left (by assumption) | apply Ext.drewN | apply Ext.drew | apply Ext.alloc | (refine Ext.setCell ?_ (by first | (simp; done) | (simp; omega) | omega) _) | (refine Ext.trans ?_ (by assumption)) | (refine Ext.trans ?_ (held_left (by assumption))))))); have k1 := h1.cell; have z1 := h1.lt)
        | (go_at_call 102; refine (clone_any v l _ (HL.out.ext hE1) (by omega)).mono ?_; rintro e w2 ⟨v2, rfl, ho2, hb2⟩; have HO2 := Hid.mk' (ho2.base hE1.size); have HE2 := Hid.mk' (hE1.trans hb2); have h2 := h1.ext hb2; have k2 := h2.cell; have z2 := h2.lt; clear h1 k1 z1 hb1 ho2 hb2)
        | (at_builtin; refine wpList_append_own _ rfl _ _ 40 rfl w.heap.size 5 i0 _ 1 1 Tryz.underlying40 hi hz0 hz1 hz2 rfl (by decide) _ _ _ rfl (HO2.out.alloc _) ⟨_, 0, none⟩ 1 1 (bs [1]) rfl rfl ?c1b ?c2b ?c3b ?c4b ?c5b ?_))
          case c1b => exact cells_one _ _
          case c2b => exact bs_one _
          case c3b => unfold maxLen; omega
          case c4b => omega
          case c5b => have := HE2.out.size; simp; omega
          intro v3 w3 hown hgrow _
          have hE3 := OB.grown (HE2.out.alloc _) (HO2.out.alloc _) hgrow
          have HO3 := Hid.mk' (OB.push hown (by simp))
          have HE3 := Hid.mk' hE3
          clear hown hgrow hE3
          go_wp2
          go_ret2
          exact ⟨_, by rw [HE.out]; rfl, fun _ => HO3.out, fun h => absurd HE.out h, HE3.out⟩
      · rcases HVV.out with rfl | rfl
        · go_enter Tryz.func175, Tryz.ntmps175
          go_wp2_with (first
        | (go_at_call 201; refine (HV.out _).mono ?_; rintro e w0 ⟨rfl, rfl⟩)
        | (go_at_call 190; refine (vbits_any _ _ _).mono ?_; rintro e w0 ⟨rfl, rfl⟩)
        | (go_at_call 200; refine (HR.out _).mono ?_; rintro e w1 ⟨rfl, hb1⟩; have h1 := (Blk.new w #[.int .u8 2, .int .i64 n, .complex .f64 x y, .string s] 193).ext hb1; have hE1 : Ext w w1 := (by (repeat (with_reducible (first | exact Ext.refl _ | assumption | exact held_left (by assumption) | apply Ext.drewN | apply Ext.drew | apply Ext.alloc | (refine Ext.setCell ?_ (by first | (simp; done) | (simp; omega) | omega) _) | (refine Ext.trans ?_ (by assumption)) | (refine Ext.trans ?_ (held_left (by assumption))))))); have k1 := h1.cell; have z1 := h1.lt)
        | (go_at_call 102; refine (clone_any v l _ (HL.out.ext hE1) (by omega)).mono ?_; rintro e w2 ⟨v2, rfl, ho2, hb2⟩; have HO2 := Hid.mk' (ho2.base hE1.size); have HE2 := Hid.mk' (hE1.trans hb2); have h2 := h1.ext hb2; have k2 := h2.cell; have z2 := h2.lt; clear h1 k1 z1 hb1 ho2 hb2)
        | (go_at_call 202; refine (putWord_any w v2 l _ _ HE2.out HO2.out (by omega)).mono ?_; rintro e w3 ⟨v3, rfl, ho3, hb3⟩; have HO3 := Hid.mk' ho3; have HE3 := Hid.mk' hb3; clear ho3 hb3))
          go_ret2
          exact ⟨_, by rw [HE.out]; rfl, fun _ => (by have h := HO3.out; rw [u64_wrap] at h; exact h), fun h => absurd HE.out h, HE3.out⟩
        · go_enter Tryz.func175, Tryz.ntmps175
          go_wp2_with (first
        | (go_at_call 201; refine (HV.out _).mono ?_; rintro e w0 ⟨rfl, rfl⟩)
        | (go_at_call 190; refine (vbits_any _ _ _).mono ?_; rintro e w0 ⟨rfl, rfl⟩)
        | (go_at_call 200; refine (HR.out _).mono ?_; rintro e w1 ⟨rfl, hb1⟩; have h1 := (Blk.new w #[.int .u8 2, .int .i64 n, .complex .f64 x y, .string s] 193).ext hb1; have hE1 : Ext w w1 := (by (repeat (with_reducible (first | exact Ext.refl _ | assumption | exact held_left (by assumption) | apply Ext.drewN | apply Ext.drew | apply Ext.alloc | (refine Ext.setCell ?_ (by first | (simp; done) | (simp; omega) | omega) _) | (refine Ext.trans ?_ (by assumption)) | (refine Ext.trans ?_ (held_left (by assumption))))))); have k1 := h1.cell; have z1 := h1.lt)
        | (go_at_call 102; refine (clone_any v l _ (HL.out.ext hE1) (by omega)).mono ?_; rintro e w2 ⟨v2, rfl, ho2, hb2⟩; have HO2 := Hid.mk' (ho2.base hE1.size); have HE2 := Hid.mk' (hE1.trans hb2); have h2 := h1.ext hb2; have k2 := h2.cell; have z2 := h2.lt; clear h1 k1 z1 hb1 ho2 hb2)
        | (go_at_call 203; refine (putInt_any v2 l n _ HO2.out.sl HN.out (by omega)).mono ?_; rintro e w3 ⟨v3, rfl, ho3, hb3⟩; have HO3 := Hid.mk' (ho3.base HE2.out.size); have HE3 := Hid.mk' (HE2.out.trans hb3); clear ho3 hb3))
          go_ret2
          exact ⟨_, by rw [HE.out]; rfl, fun _ => HO3.out, fun h => absurd HE.out h, HE3.out⟩
      · go_enter Tryz.func175, Tryz.ntmps175
        go_wp2_with (first
        | (go_at_call 201; refine (HV.out _).mono ?_; rintro e w0 ⟨rfl, rfl⟩)
        | (go_at_call 190; refine (vbits_any _ _ _).mono ?_; rintro e w0 ⟨rfl, rfl⟩)
        | (go_at_call 200; refine (HR.out _).mono ?_; rintro e w1 ⟨rfl, hb1⟩; have h1 := (Blk.new w #[.int .u8 3, .int .i64 n, .complex .f64 x y, .string s] 193).ext hb1; have hE1 : Ext w w1 := (by (repeat (with_reducible (first | exact Ext.refl _ | assumption | exact held_left (by assumption) | apply Ext.drewN | apply Ext.drew | apply Ext.alloc | (refine Ext.setCell ?_ (by first | (simp; done) | (simp; omega) | omega) _) | (refine Ext.trans ?_ (by assumption)) | (refine Ext.trans ?_ (held_left (by assumption))))))); have k1 := h1.cell; have z1 := h1.lt)
        | (go_at_call 102; refine (clone_any v l _ (HL.out.ext hE1) (by omega)).mono ?_; rintro e w2 ⟨v2, rfl, ho2, hb2⟩; have HO2 := Hid.mk' (ho2.base hE1.size); have HE2 := Hid.mk' (hE1.trans hb2); have h2 := h1.ext hb2; have k2 := h2.cell; have z2 := h2.lt; clear h1 k1 z1 hb1 ho2 hb2)
        | (go_at_call 204; refine (putFloat_any w v2 l x ver _ HE2.out HO2.out HX.out.1 (by omega)).mono ?_; rintro e w3 ⟨v3, rfl, ho3, hb3⟩; have HO3 := Hid.mk' ho3; have HE3 := Hid.mk' hb3; clear ho3 hb3))
        go_ret2
        exact ⟨_, by rw [HE.out]; rfl, fun _ => HO3.out, fun h => absurd HE.out h, HE3.out⟩
      · go_enter Tryz.func175, Tryz.ntmps175
        go_wp2_with (first
        | (go_at_call 201; refine (HV.out _).mono ?_; rintro e w0 ⟨rfl, rfl⟩)
        | (go_at_call 190; refine (vbits_any _ _ _).mono ?_; rintro e w0 ⟨rfl, rfl⟩)
        | (go_at_call 200; refine (HR.out _).mono ?_; rintro e w1 ⟨rfl, hb1⟩; have h1 := (Blk.new w #[.int .u8 4, .int .i64 n, .complex .f64 x y, .string s] 193).ext hb1; have hE1 : Ext w w1 := (by (repeat (with_reducible (first | exact Ext.refl _ | assumption | exact held_left (by assumption) | apply Ext.drewN | apply Ext.drew | apply Ext.alloc | (refine Ext.setCell ?_ (by first | (simp; done) | (simp; omega) | omega) _) | (refine Ext.trans ?_ (by assumption)) | (refine Ext.trans ?_ (held_left (by assumption))))))); have k1 := h1.cell; have z1 := h1.lt)
        | (go_at_call 102; refine (clone_any v l _ (HL.out.ext hE1) (by omega)).mono ?_; rintro e w2 ⟨v2, rfl, ho2, hb2⟩; have HO2 := Hid.mk' (ho2.base hE1.size); have HE2 := Hid.mk' (hE1.trans hb2); have h2 := h1.ext hb2; have k2 := h2.cell; have z2 := h2.lt; clear h1 k1 z1 hb1 ho2 hb2)
        | (go_at_call 205; refine (putComplex_any w v2 l x y ver _ HE2.out HO2.out HX.out.1 HX.out.2 (by omega)).mono ?_; rintro e w3 ⟨v3, rfl, ho3, hb3⟩; have HO3 := Hid.mk' ho3; have HE3 := Hid.mk' hb3; clear ho3 hb3))
        go_ret2
        exact ⟨_, by rw [HE.out]; rfl, fun _ => HO3.out, fun h => absurd HE.out h, HE3.out⟩
      · go_enter Tryz.func175, Tryz.ntmps175
        go_wp2_with (first
        | (go_at_call 201; refine (HV.out _).mono ?_; rintro e w0 ⟨rfl, rfl⟩)
        | (go_at_call 190; refine (vbits_any _ _ _).mono ?_; rintro e w0 ⟨rfl, rfl⟩)
        | (go_at_call 200; refine (HR.out _).mono ?_; rintro e w1 ⟨rfl, hb1⟩; have h1 := (Blk.new w #[.int .u8 5, .int .i64 n, .complex .f64 x y, .string s] 193).ext hb1; have hE1 : Ext w w1 := (by (repeat (with_reducible (first | exact Ext.refl _ | assumption | exact held_left (by assumption) | apply Ext.drewN | apply Ext.drew | apply Ext.alloc | (refine Ext.setCell ?_ (by first | (simp; done) | (simp; omega) | omega) _) | (refine Ext.trans ?_ (by assumption)) | (refine Ext.trans ?_ (held_left (by assumption))))))); have k1 := h1.cell; have z1 := h1.lt)
        | (go_at_call 102; refine (clone_any v l _ (HL.out.ext hE1) (by omega)).mono ?_; rintro e w2 ⟨v2, rfl, ho2, hb2⟩; have HO2 := Hid.mk' (ho2.base hE1.size); have HE2 := Hid.mk' (hE1.trans hb2); have h2 := h1.ext hb2; have k2 := h2.cell; have z2 := h2.lt; clear h1 k1 z1 hb1 ho2 hb2)
        | (go_at_call 206; refine (putText_any v2 l s _ HO2.out.sl (by omega) (by omega)).mono ?_; rintro e w3 ⟨v3, rfl, ho3, hb3⟩; have HO3 := Hid.mk' (ho3.base HE2.out.size); have HE3 := Hid.mk' (HE2.out.trans hb3); clear ho3 hb3))
        go_ret2
        exact ⟨_, by rw [HE.out]; rfl, fun _ => HO3.out, fun h => absurd HE.out h, HE3.out⟩
      · go_enter Tryz.func175, Tryz.ntmps175
        go_wp2_with (first
        | (go_at_call 201; refine (HV.out _).mono ?_; rintro e w0 ⟨rfl, rfl⟩)
        | (go_at_call 190; refine (vbits_any _ _ _).mono ?_; rintro e w0 ⟨rfl, rfl⟩)
        | (go_at_call 200; refine (HR.out _).mono ?_; rintro e w1 ⟨rfl, hb1⟩; have h1 := (Blk.new w #[.int .u8 6, .int .i64 n, .complex .f64 x y, .string s] 193).ext hb1; have hE1 : Ext w w1 := (by (repeat (with_reducible (first | exact Ext.refl _ | assumption | exact held_left (by assumption) | apply Ext.drewN | apply Ext.drew | apply Ext.alloc | (refine Ext.setCell ?_ (by first | (simp; done) | (simp; omega) | omega) _) | (refine Ext.trans ?_ (by assumption)) | (refine Ext.trans ?_ (held_left (by assumption))))))); have k1 := h1.cell; have z1 := h1.lt)
        | (go_at_call 102; refine (clone_any v l _ (HL.out.ext hE1) (by omega)).mono ?_; rintro e w2 ⟨v2, rfl, ho2, hb2⟩; have HO2 := Hid.mk' (ho2.base hE1.size); have HE2 := Hid.mk' (hE1.trans hb2); have h2 := h1.ext hb2; have k2 := h2.cell; have z2 := h2.lt; clear h1 k1 z1 hb1 ho2 hb2)
        | (go_at_call 206; refine (putText_any v2 l s _ HO2.out.sl (by omega) (by omega)).mono ?_; rintro e w3 ⟨v3, rfl, ho3, hb3⟩; have HO3 := Hid.mk' (ho3.base HE2.out.size); have HE3 := Hid.mk' (HE2.out.trans hb3); clear ho3 hb3))
        go_ret2
        exact ⟨_, by rw [HE.out]; rfl, fun _ => HO3.out, fun h => absurd HE.out h, HE3.out⟩
    · go_enter Tryz.func175, Tryz.ntmps175
      go_wp2_with (first
        | (go_at_call 201; refine (HV.out _).mono ?_; rintro e w0 ⟨rfl, rfl⟩)
        | (go_at_call 200; refine (HR.out _).mono ?_; rintro e w1 ⟨rfl, hb1⟩))
      go_ret2
      exact ⟨_, by rw [HE.out]; rfl, fun h => absurd (HE.out.symm.trans h) h0, fun _ => rfl, by (repeat (with_reducible (first | exact Ext.refl _ | assumption | exact held_left (by assumption) | apply Ext.drewN | apply Ext.drew | apply Ext.alloc | (refine Ext.setCell ?_ (by first | (simp; done) | (simp; omega) | omega) _) | (refine Ext.trans ?_ (by assumption)) | (refine Ext.trans ?_ (held_left (by assumption))))))⟩
  · have he : errV ty n x y s ver = 18 := by unfold errV; rw [if_neg hv]
    have HE := Hid.mk' he
    have HV := Hid.mk' (fun w => versioned_no ver w (by omega))
    clear he
    go_enter Tryz.func175, Tryz.ntmps175
    go_wp2_with (go_at_call 201; refine (HV.out _).mono ?_; rintro e w0 ⟨rfl, rfl⟩)
    go_ret2
    exact ⟨_, by rw [HE.out]; rfl, fun h => absurd (HE.out.symm.trans h) (by decide), fun _ => rfl, by (repeat (with_reducible (first | exact Ext.refl _ | assumption | exact held_left (by assumption) | apply Ext.drewN | apply Ext.drew | apply Ext.alloc | (refine Ext.setCell ?_ (by first | (simp; done) | (simp; omega) | omega) _) | (refine Ext.trans ?_ (by assumption)) | (refine Ext.trans ?_ (held_left (by assumption))))))⟩

end Go.Proofs.YtibgippchdmdlaaGreat

/-
Reading: what a reader answers, in plain words: numbers by sevens, words, texts, values; and what is put is read back.
-/
namespace Go.Proofs.YtibgippchdmdlaaGreat
open Go.RowKit

/-- A reader: what is left, and the error with which it gave up. -/
structure RS where
  l : List Int
  e : Int

/-- Bytes. -/
def isB (l : List Int) : Prop := ∀ x ∈ l, 0 ≤ x ∧ x < 256
theorem isB.drop {l : List Int} (h : isB l) (n : Nat) : isB (l.drop n) := fun x hx => h x (List.mem_of_mem_drop hx)
theorem isB.take {l : List Int} (h : isB l) (n : Nat) : isB (l.take n) := fun x hx => h x (List.mem_of_mem_take hx)
theorem isB.nil : isB [] := fun x hx => by cases hx
theorem isB.append {l m : List Int} (h : isB l) (k : isB m) : isB (l ++ m) := fun x hx => by rcases List.mem_append.1 hx with h1 | h1; exact h x h1; exact k x h1
theorem isB.tail {x : Int} {l : List Int} (h : isB (x :: l)) : isB l := fun y hy => h y (List.mem_cons_of_mem _ hy)
theorem isB.head {x : Int} {l : List Int} (h : isB (x :: l)) : 0 ≤ x ∧ x < 256 := h x (by simp)

def giveS (st : RS) (e : Int) : RS := if st.e = 0 then ⟨[], e⟩ else st

/-- The next number by sevens: its value, how many bytes it has, what is wrong. -/
def digs : List Int → Nat → Nat → Nat × Nat × Int
  | [], _, _ => (0, 0, 1)
  | x :: l, n, v =>
    if n = 9 ∧ 1 < x then (0, 0, 5)
    else if 128 ≤ x then digs l (n + 1) (v + (x % 128).toNat * 128 ^ n)
    else if 1 ≤ n ∧ x = 0 then (0, 0, 5)
    else (v + (x % 128).toNat * 128 ^ n, n + 1, 0)

theorem digs_sevens : ∀ (k x n v : Nat) (l : List Int), x ≤ k → x * 128 ^ n < 2 ^ 64 → (1 ≤ n → 1 ≤ x) → digs (sevens x ++ l) n v = (v + x * 128 ^ n, n + (sevens x).length, 0) := by
  intro k
  induction k using Nat.strongRecOn with
  | _ k ih =>
    intro x n v l hk hx hn
    have hn9 : n ≤ 9 := by
      rcases Nat.lt_or_ge n 10 with h | h
      · omega
      · have h1 := hn (by omega)
        have h2 : 128 ^ 10 ≤ 128 ^ n := Nat.pow_le_pow_right (by decide) h
        have h3 : 128 ^ n ≤ x * 128 ^ n := Nat.le_mul_of_pos_left _ h1
        have h4 : (2 : Nat) ^ 64 < 128 ^ 10 := by decide
        omega
    by_cases h : x < 128
    · rw [sevens_lt h]
      show digs ((x : Int) :: l) n v = _
      rw [digs, if_neg, if_neg (by omega), if_neg]
      · have e : ((x : Int) % 128).toNat = x := by omega
        rw [e]; rfl
      · rintro ⟨h1, h2⟩; have := hn h1; omega
      · rintro ⟨h1, h2⟩
        subst h1
        have h3 : 2 * 128 ^ 9 ≤ x * 128 ^ 9 := Nat.mul_le_mul_right _ (by omega)
        have h4 : (2 : Nat) ^ 64 = 2 * 128 ^ 9 := by decide
        omega
    · rw [sevens_ge h]
      show digs (((x % 128 + 128 : Nat) : Int) :: (sevens (x / 128) ++ l)) n v = _
      have hn8 : n ≤ 8 := by
        rcases Nat.lt_or_ge n 9 with h1 | h1
        · omega
        · have : n = 9 := by omega
          subst this
          have h3 : 128 * 128 ^ 9 ≤ x * 128 ^ 9 := Nat.mul_le_mul_right _ (by omega)
          have h4 : (2 : Nat) ^ 64 < 128 * 128 ^ 9 := by decide
          omega
      have ep : 128 ^ (n + 1) = 128 * 128 ^ n := by rw [Nat.pow_succ, Nat.mul_comm]
      have ed : x * 128 ^ n = (x % 128) * 128 ^ n + (x / 128) * (128 * 128 ^ n) := by
        rw [← Nat.mul_assoc, ← Nat.add_mul]; congr 1; omega
      rw [digs, if_neg (by omega), if_pos (by omega), ih (x / 128) (by omega) _ _ _ _ (Nat.le_refl _) (by rw [ep]; omega) (fun _ => by omega), ep]
      have e : (((x % 128 + 128 : Nat) : Int) % 128).toNat = x % 128 := by omega
      rw [e, List.length_cons]
      refine Prod.ext ?_ (Prod.ext ?_ rfl)
      · show _ + _ + _ = _; omega
      · show n + 1 + (sevens (x / 128)).length = n + ((sevens (x / 128)).length + 1); omega

theorem sev_room (x b K : Nat) (hb : b < 128) (hK : K ∣ 72057594037927936) (h : x * (128 * K) < 18446744073709551616) : x * (128 * K) + b * K < 18446744073709551616 := by
  obtain ⟨c, hc⟩ := hK
  have e : (18446744073709551616 : Nat) = (2 * c) * (128 * K) := by
    have : (18446744073709551616 : Nat) = 256 * 72057594037927936 := rfl
    rw [this, hc, Nat.mul_comm K c, ← Nat.mul_assoc, ← Nat.mul_assoc, Nat.mul_right_comm 2 c 128]
  rw [e] at h ⊢
  have h2 : x < 2 * c := Nat.lt_of_mul_lt_mul_right h
  have h3 : b * K ≤ 127 * K := Nat.mul_le_mul_right K (by omega)
  have h4 : (x + 1) * (128 * K) ≤ 2 * c * (128 * K) := Nat.mul_le_mul_right _ h2
  have hk : 0 < K := by
    rcases Nat.eq_zero_or_pos K with h | h
    · subst h; simp at hc
    · exact h
  have h5 : 127 * K < 128 * K := Nat.mul_lt_mul_of_pos_right (by decide) hk
  have h6 : (x + 1) * (128 * K) = x * (128 * K) + 128 * K := by rw [Nat.add_mul, Nat.one_mul]
  omega
theorem sev_dvd (n : Nat) (h : n ≤ 8) : 128 ^ n ∣ 72057594037927936 := by
  have e : (72057594037927936 : Nat) = 128 ^ 8 := by decide
  rw [e]; exact Nat.pow_dvd_pow 128 h

theorem digs_inv : ∀ (l : List Int) (n v v' m : Nat), isB l → n ≤ 9 → digs l n v = (v', m, 0) →
    ∃ x, v' = v + x * 128 ^ n ∧ m = n + (sevens x).length ∧ l = sevens x ++ l.drop (sevens x).length ∧ x * 128 ^ n < 2 ^ 64 ∧ (1 ≤ n → 1 ≤ x) := by
  intro l
  induction l with
  | nil => intro n v v' m _ _ h; simp [digs] at h
  | cons b l ih =>
    intro n v v' m hb hn h
    obtain ⟨hb0, hb1⟩ := hb.head
    rw [digs] at h
    by_cases h1 : n = 9 ∧ 1 < b
    · rw [if_pos h1] at h; simp at h
    rw [if_neg h1] at h
    by_cases h2 : 128 ≤ b
    · rw [if_pos h2] at h
      have hn8 : n ≤ 8 := by
        rcases Nat.lt_or_ge n 9 with h3 | h3
        · omega
        · exact absurd ⟨by omega, by omega⟩ h1
      obtain ⟨x, hv, hm, hl, hx, hp⟩ := ih (n + 1) _ _ _ hb.tail (by omega) h
      have hx1 := hp (by omega)
      have ep : 128 ^ (n + 1) = 128 * 128 ^ n := by rw [Nat.pow_succ, Nat.mul_comm]
      rw [ep] at hv hx
      refine ⟨128 * x + (b % 128).toNat, ?_, ?_, ?_, ?_, fun _ => by omega⟩
      · rw [hv, Nat.add_mul, Nat.mul_comm 128 x, Nat.mul_assoc]; omega
      · rw [sevens_ge (by omega), List.length_cons, hm]
        rw [show (128 * x + (b % 128).toNat) / 128 = x by omega]; omega
      · rw [sevens_ge (by omega), List.length_cons, show (128 * x + (b % 128).toNat) / 128 = x by omega, List.drop_succ_cons, List.cons_append, ← hl]
        congr 1; omega
      · rw [Nat.add_mul, Nat.mul_comm 128 x, Nat.mul_assoc]
        exact sev_room x _ _ (by omega) (sev_dvd n hn8) hx
    · rw [if_neg h2] at h
      by_cases h3 : 1 ≤ n ∧ b = 0
      · rw [if_pos h3] at h; simp at h
      rw [if_neg h3] at h
      simp only [Prod.mk.injEq] at h
      obtain ⟨rfl, rfl, -⟩ := h
      have e : (b % 128).toNat = b.toNat := by omega
      refine ⟨b.toNat, by rw [e], ?_, ?_, ?_, fun _ => by omega⟩
      · rw [sevens_lt (by omega)]; rfl
      · rw [sevens_lt (by omega)]
        show b :: l = ((b.toNat : Nat) : Int) :: l
        congr 1; omega
      · have hc : n = 0 ∨ n = 1 ∨ n = 2 ∨ n = 3 ∨ n = 4 ∨ n = 5 ∨ n = 6 ∨ n = 7 ∨ n = 8 ∨ n = 9 := by omega
        rcases hc with rfl | rfl | rfl | rfl | rfl | rfl | rfl | rfl | rfl | rfl <;> omega

/-- The next number, at most so great. -/
def uintR (most : Nat) (st : RS) : Nat × RS :=
  let d := digs st.l 0 0
  if d.2.2 ≠ 0 then (0, giveS st d.2.2) else if most < d.1 then (0, giveS st 4) else (d.1, ⟨st.l.drop d.2.1, st.e⟩)
def zag (v : Nat) : Int := if v % 2 = 1 then -((v / 2 : Nat) : Int) - 1 else ((v / 2 : Nat) : Int)
def intR (st : RS) : Int × RS := let r := uintR 18446744073709551615 st; (zag r.1, r.2)
def bytesR (n : Nat) (st : RS) : List Int × RS := if st.l.length < n then ([], giveS st 1) else (st.l.take n, ⟨st.l.drop n, st.e⟩)
def textR (most : Nat) (st : RS) : List Int × RS := let r := uintR most st; bytesR r.1 r.2
def byteR (st : RS) : Int × RS := let r := bytesR 1 st; (r.1.headD 0, r.2)
/-- The number of bytes, the least first. -/
def ofBytes : List Int → Nat
  | [] => 0
  | x :: l => x.toNat + 256 * ofBytes l
def wordR (st : RS) : Nat × RS := let r := bytesR 8 st; (ofBytes r.1, r.2)
def endE (st : RS) : Int := if st.e = 0 ∧ st.l ≠ [] then 2 else st.e

/-- A reader that gave up has nothing left. -/
def RS.ok (st : RS) : Prop := (st.e ≠ 0 → st.l = []) ∧ isB st.l
theorem giveS_ok {st : RS} (h : st.ok) (e : Int) : (giveS st e).ok := by unfold giveS; split; exact ⟨fun _ => rfl, isB.nil⟩; exact h
theorem giveS_gave {st : RS} (e : Int) (h : st.e ≠ 0) : giveS st e = st := by unfold giveS; rw [if_neg h]
theorem uintR_ok {st : RS} (h : st.ok) (m : Nat) : (uintR m st).2.ok := by
  unfold uintR; simp only; (repeat' split)
  · exact giveS_ok h _
  · exact giveS_ok h _
  · exact ⟨fun he => by have := h.1 he; simp [this], h.2.drop _⟩
theorem bytesR_ok {st : RS} (h : st.ok) (n : Nat) : (bytesR n st).2.ok := by
  unfold bytesR; split
  · exact giveS_ok h _
  · exact ⟨fun he => by have := h.1 he; simp [this], h.2.drop _⟩
theorem bytesR_isB {st : RS} (h : st.ok) (n : Nat) : isB (bytesR n st).1 := by
  unfold bytesR; split
  · exact isB.nil
  · exact h.2.take _
theorem uintR_le {st : RS} (m : Nat) : (uintR m st).1 ≤ m := by
  unfold uintR; simp only; (repeat' split) <;> simp; omega

end Go.Proofs.YtibgippchdmdlaaGreat

/-
Bytes as strings.
-/
namespace Go.Proofs.YtibgippchdmdlaaGreat
open Go.RowKit

/-- A row of bytes as a string. -/
theorem conv_Sl {w : World} {v : Value} {l : List Int} (h : Sl w v 1 (l.map bcell)) : (convert 40 9 v).run Tryz.prog w = .ok (.string (strOfNums l)) w := by
  have h0 := h
  obtain ⟨a, cap, rfl, hs⟩ := h
  rcases hs with hn | ⟨b, o, rfl, hb, hc⟩
  · have hl : l = [] := by simpa using hn
    subst hl
    cases a with
    | none => exact run_convert_bytes_nil w _ _ Tryz.underlying40 Tryz.underlying5 _ _ _ Tryz.underlying9
    | some ad =>
      rw [run_convert_bytes_string w _ _ _ _ _ _ Tryz.underlying40 Tryz.underlying5 Tryz.underlying9]
      have hl : (loadCells ad 0).run Tryz.prog w = .ok (([] : List Int).map (Value.int .u8)).toArray w := by
        have := run_loadCells_list (P := Tryz.prog) w ad [] (fun j v hj => by simp at hj)
        simpa using this
      exact run_bytesToString w ad 0 cap [] hl
  · simp only [List.length_map] at *
    refine run_convert_bytes_arg w _ _ Tryz.underlying40 Tryz.underlying5 b o _ cap l rfl (fun i hi => ?_) _ Tryz.underlying9
    exact (Sl.bytes h0 (by omega)).2.2 i hi

theorem fresh_bytes (w : World) (l : List Int) (n : Nat) (hn : n = l.length) : Sl (w.alloc (.cells (bs l).toArray 5)) (.slice (some ⟨w.heap.size, 0, none⟩) n n) 1 (l.map bcell) := by
  subst hn
  have := Sl.new w (bs l).toArray 5 1 l.length l.length (l.map bcell) (by rw [bs_flat]) (by intro xs hxs; simp at hxs; obtain ⟨x, _, rfl⟩ := hxs; rfl) (by simp)
  exact this

theorem nilSl (w : World) : Sl w (.slice none 0 0) 1 (([] : List Int).map bcell) := ⟨none, 0, rfl, .inl rfl⟩
theorem empty_small : ByteArray.empty.size ≤ 9223372036854775807 := Nat.zero_le _

end Go.Proofs.YtibgippchdmdlaaGreat

/-
The program's reader.
-/
namespace Go.Proofs.YtibgippchdmdlaaGreat
open Go.RowKit

/-- Of the blocks that there were only block g may have been written. -/
structure Tch (g : Nat) (w w' : World) : Prop where
  os : w'.os = w.os
  tape : w'.tape = w.tape
  output : w'.output = w.output
  size : w.heap.size ≤ w'.heap.size
  block : ∀ k, k < w.heap.size → k ≠ g → w'.heap[k]? = w.heap[k]?
theorem Tch.refl (g : Nat) (w : World) : Tch g w w := ⟨rfl, rfl, rfl, Nat.le_refl _, fun _ _ _ => rfl⟩
theorem Tch.trans {g : Nat} {a b c : World} (h : Tch g a b) (k : Tch g b c) : Tch g a c :=
  ⟨k.os.trans h.os, k.tape.trans h.tape, k.output.trans h.output, Nat.le_trans h.size k.size, fun i hi hg => (k.block i (Nat.lt_of_lt_of_le hi h.size) hg).trans (h.block i hi hg)⟩
theorem Tch.of_ext {g : Nat} {w w' : World} (h : Ext w w') : Tch g w w' := ⟨h.os, h.tape, h.output, h.size, fun k hk _ => h.block k hk⟩
theorem Tch.ext {g : Nat} {W w w' : World} (hE : Ext W w) (hg : W.heap.size ≤ g) (h : Tch g w w') : Ext W w' :=
  Below.trans hE ⟨h.os, h.tape, h.output, h.size, fun k hk => h.block k (Nat.lt_of_lt_of_le hk hE.size) (by omega)⟩
theorem Tch.set {g : Nat} {w w' : World} (h : Tch g w w') (i : Nat) (v : Value) : Tch g w (w'.setCell ⟨g, i, none⟩ v) :=
  h.trans ⟨rfl, rfl, rfl, by simp [World.setCell], fun k _ hg => Below.heap_setCell _ _ _ _ hg⟩
theorem Tch.alloc {g : Nat} {w w' : World} (h : Tch g w w') (o : Obj) : Tch g w (w'.alloc o) := h.trans (Tch.of_ext ((Ext.refl _).alloc o))
theorem Tch.drewN {g : Nat} {w w' : World} (h : Tch g w w') (n : Nat) : Tch g w (w'.drewN n) := h.trans (Tch.of_ext ((Ext.refl _).drewN n))
theorem Blk.tch {w w1 : World} {b g : Nat} {cs : Array Value} {t : TypeId} (h : Blk w b cs t) (he : Tch g w w1) (hne : b ≠ g) : Blk w1 b cs t := (he.block b h.lt hne).trans h

/-- The slice v reads as bytes; they lie in a block from d on, below g. -/
def SB (w : World) (g d : Nat) (v : Value) (l : List Int) : Prop :=
  ∃ a cap, v = .slice a l.length cap ∧ l.length ≤ cap ∧ (a = none → cap = 0) ∧ (l = [] ∨ ∃ b o, a = some ⟨b, o, none⟩ ∧ b < w.heap.size ∧ (d ≤ b ∧ b < g) ∧ ∀ i, i < l.length → w.cell? ⟨b, o + i, none⟩ = some (.int .u8 (l.getD i 0)))
theorem Tch.cell {g : Nat} {w w1 : World} (he : Tch g w w1) {b : Nat} (hb : b < w.heap.size) (hne : b ≠ g) (o : Nat) : w1.cell? ⟨b, o, none⟩ = w.cell? ⟨b, o, none⟩ :=
  World.cell?_of_block (w := w) (he.block b hb hne)
theorem SB.tch {w w1 : World} {g d h : Nat} {v : Value} {l : List Int} (hs : SB w g d v l) (he : Tch h w w1) (hh : h < d ∨ g ≤ h) : SB w1 g d v l := by
  obtain ⟨a, cap, rfl, h1, h2, hs⟩ := hs
  refine ⟨a, cap, rfl, h1, h2, hs.imp id ?_⟩
  rintro ⟨b, o, ha, hb, hd, hc⟩
  exact ⟨b, o, ha, Nat.lt_of_lt_of_le hb he.size, hd, fun i hi => (he.cell hb (by omega) _).trans (hc i hi)⟩
theorem SB.ext {w w1 : World} {g d : Nat} {v : Value} {l : List Int} (h : SB w g d v l) (he : Ext w w1) : SB w1 g d v l := by
  obtain ⟨a, cap, rfl, h1, h2, h⟩ := h
  refine ⟨a, cap, rfl, h1, h2, h.imp id ?_⟩
  rintro ⟨b, o, ha, hb, hd, hc⟩
  exact ⟨b, o, ha, Nat.lt_of_lt_of_le hb he.size, hd, fun i hi => (he.cells.1 b _ hb).trans (hc i hi)⟩
theorem SB.sl {w : World} {g d : Nat} {v : Value} {l : List Int} (h : SB w g d v l) : Sl w v 1 (l.map bcell) := by
  obtain ⟨a, cap, rfl, -, -, h⟩ := h
  refine ⟨a, cap, by simp, ?_⟩
  rcases h with rfl | ⟨b, o, ha, hb, hne, hc⟩
  · exact .inl rfl
  · refine .inr ⟨b, o, ha, hb, fun i hi j hj => ?_⟩
    obtain rfl : j = 0 := by omega
    have hi' : i < l.length := by simpa using hi
    rw [Nat.mul_one, Nat.add_zero, hc i hi']
    simp [bcell, List.getD, List.getElem?_map, List.getElem?_eq_getElem hi']
theorem SB.nil (w : World) (g d : Nat) : SB w g d (.slice none 0 0) [] := ⟨none, 0, rfl, Nat.le_refl _, fun _ => rfl, .inl rfl⟩
theorem SB.zero (w : World) (g d : Nat) (a : Option Addr) (cap : Nat) (h : a = none → cap = 0) : SB w g d (.slice a 0 cap) [] := ⟨a, cap, rfl, Nat.zero_le _, h, .inl rfl⟩
theorem SB.of_own {w : World} {g base : Nat} {v : Value} {l : List Int} (h : OB w base v l) (hg : w.heap.size ≤ g) : SB w g base v l := by
  have hs := h.sl
  rcases h.2 with ⟨rfl, h0⟩ | ⟨k, cap, cur, rfl, hb, hk, hn, _⟩
  · have : l = [] := List.length_eq_zero_iff.1 h0
    subst this; exact SB.nil _ _ _
  · refine ⟨_, cap, rfl, hn, fun h => (by cases h), ?_⟩
    rcases Nat.eq_zero_or_pos l.length with h0 | h0
    · exact .inl (List.length_eq_zero_iff.1 h0)
    · obtain ⟨h1, _, h2⟩ := Sl.bytes hs h0
      exact .inr ⟨k, 0, rfl, h1, ⟨hb, by omega⟩, h2⟩
/-- A part of a slice. -/
theorem SB.drop {w : World} {g d : Nat} {b o : Nat} {l : List Int} {len cap n : Nat} (h : SB w g d (.slice (some ⟨b, o, none⟩) len cap) l) (hn : n ≤ l.length) (len' cap' : Nat) (hlen : len' = l.length - n) (hcap : cap' = cap - n) : SB w g d (.slice (some ⟨b, o + n, none⟩) len' cap') (l.drop n) := by
  obtain ⟨a, c, hv, h1, h2, h⟩ := h
  simp only [Value.slice.injEq] at hv
  obtain ⟨rfl, rfl, rfl⟩ := hv
  subst hlen hcap
  refine ⟨some ⟨b, o + n, none⟩, cap - n, by simp, by simp; omega, fun h => (by cases h), ?_⟩
  rcases h with rfl | ⟨b', o', ha, hb, hne, hc⟩
  · exact .inl (by simp)
  · cases ha
    refine .inr ⟨b, o + n, rfl, hb, hne, fun i hi => ?_⟩
    simp only [List.length_drop] at hi
    rw [Nat.add_assoc, hc (n + i) (by omega)]
    simp [List.getD]
theorem SB.take {w : World} {g d : Nat} {a : Option Addr} {l : List Int} {len cap n : Nat} (h : SB w g d (.slice a len cap) l) (hn : n ≤ l.length) : SB w g d (.slice a n cap) (l.take n) := by
  obtain ⟨a', c, hv, h1, h2, h⟩ := h
  simp only [Value.slice.injEq] at hv
  obtain ⟨rfl, rfl, rfl⟩ := hv
  refine ⟨a, cap, by simp; omega, by simp; omega, h2, ?_⟩
  rcases h with rfl | ⟨b', o', ha, hb, hne, hc⟩
  · exact .inl (by simp)
  · refine .inr ⟨b', o', ha, hb, hne, fun i hi => ?_⟩
    simp only [List.length_take] at hi
    rw [hc i (by omega)]
    simp [List.getD, show i < n by omega]

/-- The program's reader in block g, its bytes in a block from d on, below g. -/
def RD (w : World) (g d : Nat) (st : RS) : Prop := ∃ v, Blk w g #[v, .int .i64 st.e] 206 ∧ SB w g d v st.l ∧ st.ok ∧ st.l.length ≤ 1000000
theorem RD.tch {w w1 : World} {g d h : Nat} {st : RS} (hr : RD w g d st) (he : Tch h w w1) (hg : h ≠ g) (hd : h < d ∨ g ≤ h) : RD w1 g d st := by
  obtain ⟨v, h1, h2, h3⟩ := hr
  exact ⟨v, h1.tch he hg.symm, h2.tch he hd, h3⟩
theorem RD.ext {w w1 : World} {g d : Nat} {st : RS} (hr : RD w g d st) (he : Ext w w1) : RD w1 g d st := by
  obtain ⟨v, h1, h2, h3⟩ := hr
  exact ⟨v, h1.ext he, h2.ext he, h3⟩
theorem RD.lt {w : World} {g d : Nat} {st : RS} (hr : RD w g d st) : g < w.heap.size := by obtain ⟨v, h1, _⟩ := hr; exact h1.lt

def RPost (g d : Nat) (w : World) (r : Value) (st : RS) (e : Ending) (w' : World) : Prop := e = .returned r ∧ RD w' g d st ∧ Tch g w w'

set_option maxRecDepth 100000 in set_option maxHeartbeats 1600000 in
theorem giveUp_any (g d : Nat) (st : RS) (x : Int) (w : World) (h : RD w g d st) (_hx : x ≠ 0) :
    Calls Tryz.prog 104 #[.pointer (some ⟨g, 0, none⟩), .int .i64 x] w (RPost g d w (.tuple #[]) (giveS st x)) := by
  obtain ⟨v, hb, hsb, hok, hlen⟩ := h
  have hc := hb.cell
  have hf := hb.frozen
  have hlt := hb.lt
  have H1 := Hid.mk' hb
  have H2 := Hid.mk' hsb
  clear hb hsb
  by_cases he : st.e = 0
  · rw [he] at hc H1
    go_enter Tryz.func104, Tryz.ntmps104
    go_wp2
    go_end0
    refine ⟨rfl, ?_, ?_⟩
    · unfold giveS; rw [if_pos he]
      exact ⟨_, (H1.out.set 1 _).set 0 _, SB.nil _ _ _, ⟨fun _ => rfl, isB.nil⟩, Nat.zero_le _⟩
    · exact ((Tch.refl g w).set 1 _).set 0 _
  · go_enter Tryz.func104, Tryz.ntmps104
    go_wp2
    go_end0
    refine ⟨rfl, ?_, Tch.refl g w⟩
    unfold giveS; rw [if_neg he]
    exact ⟨v, H1.out, H2.out, hok, hlen⟩

end Go.Proofs.YtibgippchdmdlaaGreat

/-
A scope in which the run jumps to more than one label.
-/
namespace Go.Proofs.YtibgippchdmdlaaGreat
open Go.RowKit

/-- By a goto to label l: J l; else as Q. -/
def jumps (J : Nat → Act → World → Prop) (Q : Exit → Act → World → Prop) : Exit → Act → World → Prop
  | .goto l, a, w => J l a w
  | e, a, w => Q e a w

theorem wp_scope_labels {P : Program} {a : Act} {w : World} {Q : Exit → Act → World → Prop} {c : Code} (rest : Nat → Code) (J : Nat → Act → World → Prop) (μ : Nat → Act → World → Nat) (hf : ∀ l a w, J l a w → findLabel c l = some (rest l))
    (first : c.wp P (jumps J Q) a w)
    (pass : ∀ l a w, J l a w → (rest l).wp P (jumps (fun l' a' w' => J l' a' w' ∧ μ l' a' w' < μ l a w) Q) a w) : (Code.scope c).wp P Q a w := by
  intro b k cs
  have hg : ∀ l a w, J l a w → gotoIn l (.inScope c :: k) = some (.code (rest l) :: .inScope c :: k) := fun l a w h => by simp [gotoIn, hf l a w h]
  have key : ∀ n l a w, μ l a w = n → J l a w → ∃ e a' w', Q e a' w' ∧ Arrives P (lone (b.at a (.code (rest l) :: .inScope c :: k)) cs w) b k cs e a' w' := by
    intro n
    induction n using Nat.strongRecOn with
    | _ n ih =>
      intro l a w hn hJ
      obtain ⟨e, a₁, w₁, hq, harr⟩ := pass l a w hJ b (.inScope c :: k) cs
      cases e with
      | normal => exact ⟨.normal, a₁, w₁, hq, Steps.trans harr (.one step_inScope)⟩
      | exit id => exact ⟨.exit id, a₁, w₁, hq, fun k' hk => harr k' (by simp [exitTo, hk])⟩
      | goto l' =>
        obtain ⟨hJ', hlt⟩ := hq
        obtain ⟨e₂, a₂, w₂, hq₂, harr₂⟩ := ih _ (by omega) l' a₁ w₁ rfl hJ'
        exact ⟨e₂, a₂, w₂, hq₂, .of_steps (harr _ (hg _ _ _ hJ')) harr₂⟩
      | ret => exact ⟨_, a₁, w₁, hq, harr⟩
      | panic ch => exact ⟨_, a₁, w₁, hq, harr⟩
      | outgrown => exact ⟨_, a₁, w₁, hq, harr⟩
  obtain ⟨e, a₁, w₁, hq, harr⟩ := first b (.inScope c :: k) cs
  cases e with
  | normal => exact ⟨.normal, a₁, w₁, hq, .head step_scope (Steps.trans harr (.one step_inScope))⟩
  | exit id => exact ⟨.exit id, a₁, w₁, hq, fun k' hk => .head step_scope (harr k' (by simp [exitTo, hk]))⟩
  | goto l' =>
    obtain ⟨e₂, a₂, w₂, hq₂, harr₂⟩ := key _ l' a₁ w₁ rfl hq
    exact ⟨e₂, a₂, w₂, hq₂, .of_steps (.head step_scope (harr _ (hg _ _ _ hq))) harr₂⟩
  | ret => exact ⟨_, a₁, w₁, hq, .of_steps (.one step_scope) harr⟩
  | panic ch => exact ⟨_, a₁, w₁, hq, .of_steps (.one step_scope) harr⟩
  | outgrown => exact ⟨_, a₁, w₁, hq, .of_steps (.one step_scope) harr⟩

/-- By a goto to label 0: J0; to label 1: J1; else as Q. -/
def jumps2 (J0 J1 : Act → World → Prop) (Q : Exit → Act → World → Prop) : Exit → Act → World → Prop := jumps (fun l a w => (l = 0 ∧ J0 a w) ∨ (l = 1 ∧ J1 a w)) Q
theorem jumps2_zero {J0 J1 : Act → World → Prop} {Q : Exit → Act → World → Prop} {a : Act} {w : World} (h : J0 a w) : jumps2 J0 J1 Q (.goto 0) a w := .inl ⟨rfl, h⟩
theorem jumps2_one {J0 J1 : Act → World → Prop} {Q : Exit → Act → World → Prop} {a : Act} {w : World} (h : J1 a w) : jumps2 J0 J1 Q (.goto 1) a w := .inr ⟨rfl, h⟩
theorem jumps2_ret {J0 J1 : Act → World → Prop} {Q : Exit → Act → World → Prop} {a : Act} {w : World} (h : Q .ret a w) : jumps2 J0 J1 Q .ret a w := h
theorem jumps2_mono {J0 J1 J0' J1' : Act → World → Prop} {Q : Exit → Act → World → Prop} (h0 : ∀ a w, J0 a w → J0' a w) (h1 : ∀ a w, J1 a w → J1' a w) : ∀ e a w, jumps2 J0 J1 Q e a w → jumps2 J0' J1' Q e a w := by
  intro e a w h
  cases e with
  | goto l => exact h.imp (fun ⟨x, y⟩ => ⟨x, h0 _ _ y⟩) (fun ⟨x, y⟩ => ⟨x, h1 _ _ y⟩)
  | normal => exact h
  | exit id => exact h
  | ret => exact h
  | panic c => exact h
  | outgrown => exact h

theorem skip_seq {P : Program} {a : Act} {w : World} {Q : Exit → Act → World → Prop} {c : Code} (h : c.wp P Q a w) : (Code.skip.seq c).wp P Q a w := wp_seq (wp_skip h)
theorem wp_scope_two {P : Program} {a : Act} {w : World} {Q : Exit → Act → World → Prop} {c X0 X1 : Code} (J0 J1 : Act → World → Prop) (μ : Act → World → Nat) (h0 : findLabel c 0 = some (Code.skip.seq X0)) (h1 : findLabel c 1 = some (Code.skip.seq X1))
    (first : (∀ a w, J0 a w → X0.wp P (jumps2 J0 J1 Q) a w) → c.wp P (jumps2 J0 J1 Q) a w)
    (pass0 : ∀ a w, J0 a w → X0.wp P (jumps2 (fun a' w' => J0 a' w' ∧ μ a' w' < μ a w) J1 Q) a w)
    (pass1 : ∀ a w, J1 a w → X1.wp P (jumps2 (fun _ _ => False) (fun _ _ => False) Q) a w) : (Code.scope c).wp P Q a w := by
  refine wp_scope_labels (fun l => if l = 0 then Code.skip.seq X0 else Code.skip.seq X1) (fun l a w => (l = 0 ∧ J0 a w) ∨ (l = 1 ∧ J1 a w)) (fun l a w => if l = 0 then μ a w + 1 else 0) ?_ (first fun a w h => wp_mono (pass0 a w h) (jumps2_mono (fun _ _ h => h.1) (fun _ _ h => h))) ?_
  · rintro l a w (⟨rfl, _⟩ | ⟨rfl, _⟩)
    · exact h0
    · exact h1
  · rintro l a w (⟨rfl, h⟩ | ⟨rfl, h⟩)
    · refine skip_seq (wp_mono (pass0 a w h) ?_)
      intro e a' w' he
      cases e with
      | goto l' =>
        rcases he with ⟨rfl, hj, hlt⟩ | ⟨rfl, hj⟩
        · exact ⟨.inl ⟨rfl, hj⟩, by simpa using hlt⟩
        · exact ⟨.inr ⟨rfl, hj⟩, by simp⟩
      | normal => exact he
      | exit id => exact he
      | ret => exact he
      | panic c => exact he
      | outgrown => exact he
    · refine skip_seq (wp_mono (pass1 a w h) ?_)
      intro e a' w' he
      cases e with
      | goto l' => rcases he with ⟨_, hj⟩ | ⟨_, hj⟩ <;> exact hj.elim
      | normal => exact he
      | exit id => exact he
      | ret => exact he
      | panic c => exact he
      | outgrown => exact he

end Go.Proofs.YtibgippchdmdlaaGreat

/-
Taking a value, in plain words; what is put is taken as it was, and from no other bytes; cut anywhere it is too short.
-/
namespace Go.Proofs.YtibgippchdmdlaaGreat
open Go.RowKit

def V.put (v : V) (ver : Int) : List Int := putL v.ty v.n v.x v.y v.s ver
def toI64 (w : Nat) : Int := if w < 9223372036854775808 then (w : Int) else (w : Int) - 18446744073709551616
def floatR (ver : Int) (st : RS) : Nat × RS := if ver = 1 then wordR st else let r := uintR 18446744073709551615 st; (rev r.1, r.2)
def failS (st : RS) (e : Int) : RS := if e ≠ 0 then giveS st e else st
def partR (there : Bool) (st : RS) : Nat × RS := if there then let r := floatR 2 st; (r.1, if r.1 = 0 then giveS r.2 3 else r.2) else (0, st)
def complexR (ver : Int) (st : RS) : (Nat × Nat) × RS :=
  if ver = 1 then let a := wordR st; let b := wordR a.2; ((a.1, b.1), b.2)
  else let m := byteR st; let a := partR (decide (m.1 % 2 = 1)) (if 3 < m.1 then giveS m.2 4 else m.2); let b := partR (decide (m.1 / 2 % 2 = 1)) a.2; ((a.1, b.1), b.2)
def bodyR (kind ver : Int) (st : RS) : V × RS :=
  if kind = 1 then let r := byteR st; (⟨kind, r.1, 0, 0, ByteArray.empty⟩, r.2)
  else if kind = 2 then (if ver = 1 then let r := wordR st; (⟨kind, toI64 r.1, 0, 0, ByteArray.empty⟩, r.2) else let r := intR st; (⟨kind, r.1, 0, 0, ByteArray.empty⟩, r.2))
  else if kind = 3 then let r := floatR ver st; (⟨kind, 0, r.1, 0, ByteArray.empty⟩, r.2)
  else if kind = 4 then let r := complexR ver st; (⟨kind, 0, r.1.1, r.1.2, ByteArray.empty⟩, r.2)
  else if kind = 5 ∨ kind = 6 then let r := textR 2048 st; (⟨kind, 0, 0, 0, strOfNums r.1⟩, r.2)
  else (⟨kind, 0, 0, 0, ByteArray.empty⟩, st)
def takeV (kind ver : Int) (st : RS) : V × RS :=
  if ver = 1 ∨ ver = 2 then
    let r := bodyR kind ver st
    let st2 := failS r.2 r.1.right
    if st2.e ≠ 0 then (V.zero, st2) else (r.1, st2)
  else (V.zero, giveS st 18)

theorem failS_ok {st : RS} (h : st.ok) (e : Int) : (failS st e).ok := by unfold failS; split; exact giveS_ok h e; exact h
theorem wordR_ok {st : RS} (h : st.ok) : (wordR st).2.ok := bytesR_ok h 8
theorem byteR_ok {st : RS} (h : st.ok) : (byteR st).2.ok := bytesR_ok h 1
theorem floatR_ok {st : RS} (h : st.ok) (ver : Int) : (floatR ver st).2.ok := by unfold floatR; split; exact wordR_ok h; exact uintR_ok h _
theorem partR_ok {st : RS} (h : st.ok) (b : Bool) : (partR b st).2.ok := by
  unfold partR; split
  · simp only; split
    · exact giveS_ok (floatR_ok h 2) 3
    · exact floatR_ok h 2
  · exact h
theorem complexR_ok {st : RS} (h : st.ok) (ver : Int) : (complexR ver st).2.ok := by
  unfold complexR; split
  · exact wordR_ok (wordR_ok h)
  · refine partR_ok (partR_ok ?_ _) _
    split
    · exact giveS_ok (byteR_ok h) 4
    · exact byteR_ok h
theorem textR_ok {st : RS} (h : st.ok) (m : Nat) : (textR m st).2.ok := bytesR_ok (uintR_ok h m) _
theorem bodyR_ok {st : RS} (h : st.ok) (kind ver : Int) : (bodyR kind ver st).2.ok := by
  unfold bodyR; (repeat' split)
  · exact byteR_ok h
  · exact wordR_ok h
  · exact uintR_ok h _
  · exact floatR_ok h ver
  · exact complexR_ok h ver
  · exact textR_ok h 2048
  · exact h
theorem takeV_ok {st : RS} (h : st.ok) (kind ver : Int) : (takeV kind ver st).2.ok := by
  unfold takeV; split
  · simp only; split <;> exact failS_ok (bodyR_ok h kind ver) _
  · exact giveS_ok h 18

/-- Words. -/
theorem ofBytes_lt : ∀ l, isB l → ofBytes l < 256 ^ l.length := by
  intro l
  induction l with
  | nil => intro _; simp [ofBytes]
  | cons x l ih =>
    intro h
    have h1 := h.head
    have h2 := ih h.tail
    rw [ofBytes, List.length_cons, Nat.pow_succ, Nat.mul_comm (256 ^ l.length)]
    have : x.toNat < 256 := by omega
    omega
theorem ofBytes_word_go : ∀ (k : Nat) (x : Nat), ofBytes ((List.range k).map fun i => ((x / 256 ^ i % 256 : Nat) : Int)) = x % 256 ^ k := by
  intro k
  induction k with
  | zero => intro x; simp [ofBytes, Nat.mod_one]
  | succ k ih =>
    intro x
    rw [List.range_succ_eq_map, List.map_cons, List.map_map, ofBytes]
    have e : ((fun i => ((x / 256 ^ i % 256 : Nat) : Int)) ∘ Nat.succ) = fun i => ((x / 256 / 256 ^ i % 256 : Nat) : Int) := by
      funext i; simp only [Function.comp]; rw [Nat.pow_succ, Nat.mul_comm, ← Nat.div_div_eq_div_mul]
    rw [e, ih, Nat.pow_succ, Nat.mul_comm (256 ^ k), Nat.mod_mul]
    simp; omega
theorem wordL_nat (x : Nat) : wordL (x : Int) = (List.range 8).map fun i => ((x / 256 ^ i % 256 : Nat) : Int) := by
  unfold wordL byteAt
  refine List.map_congr_left fun i _ => ?_
  have h : ((2 : Int) ^ (8 * i)) = ((256 ^ i : Nat) : Int) := by rw [show (256 : Nat) = 2 ^ 8 from rfl, ← Nat.pow_mul, Int.natCast_pow]; rfl
  rw [h, Int.natCast_emod, Int.natCast_ediv]
  rfl
theorem ofBytes_word {x : Nat} (h : x < 2 ^ 64) : ofBytes (wordL (x : Int)) = x := by
  rw [wordL_nat, ofBytes_word_go, Nat.mod_eq_of_lt]; exact h
theorem isB_word (x : Int) : isB (wordL x) := by
  intro b hb
  simp only [wordL, byteAt, List.mem_map] at hb
  obtain ⟨k, _, rfl⟩ := hb
  omega
theorem word_inv_go : ∀ (l : List Int), isB l → ∀ r : Nat, (List.range l.length).map (fun i => (((ofBytes l + r * 256 ^ l.length) / 256 ^ i % 256 : Nat) : Int)) = l := by
  intro l
  induction l with
  | nil => intro _ _; rfl
  | cons x l ih =>
    intro h r
    have h1 := h.head
    rw [List.length_cons, List.range_succ_eq_map, List.map_cons, List.map_map]
    have e : ofBytes (x :: l) + r * 256 ^ (l.length + 1) = x.toNat + 256 * (ofBytes l + r * 256 ^ l.length) := by
      rw [ofBytes, Nat.pow_succ, Nat.mul_add, ← Nat.mul_assoc r, Nat.mul_comm (r * 256 ^ l.length)]; omega
    have e2 : ((fun i => (((ofBytes (x :: l) + r * 256 ^ (l.length + 1)) / 256 ^ i % 256 : Nat) : Int)) ∘ Nat.succ) = fun i => (((ofBytes l + r * 256 ^ l.length) / 256 ^ i % 256 : Nat) : Int) := by
      funext i; simp only [Function.comp]
      rw [e, Nat.pow_succ, Nat.mul_comm (256 ^ i), ← Nat.div_div_eq_div_mul, show (x.toNat + 256 * (ofBytes l + r * 256 ^ l.length)) / 256 = ofBytes l + r * 256 ^ l.length by omega]
    rw [e2, ih h.tail r, e]
    congr 1
    simp; omega
theorem word_inv {l : List Int} (h : isB l) (h8 : l.length = 8) : wordL (ofBytes l : Int) = l := by
  have := word_inv_go l h 0
  rw [wordL_nat]
  rw [h8] at this
  simpa using this
theorem ofBytes_lt64 {l : List Int} (h : isB l) (h8 : l.length ≤ 8) : ofBytes l < 2 ^ 64 := by
  have := ofBytes_lt l h
  have h2 : 256 ^ l.length ≤ 256 ^ 8 := Nat.pow_le_pow_right (by decide) h8
  have h3 : (256 : Nat) ^ 8 = 2 ^ 64 := by decide
  omega

/-- Signs. -/
theorem zag_zig {n : Int} : zag (zig n) = n := by unfold zag zig; split <;> split <;> omega
theorem zig_zag (v : Nat) : zig (zag v) = v := by unfold zag zig; split <;> split <;> omega
theorem zag_rng {v : Nat} (h : v < 2 ^ 64) : -9223372036854775808 ≤ zag v ∧ zag v < 9223372036854775808 := by unfold zag; split <;> omega
theorem toI64_rng {v : Nat} (h : v < 2 ^ 64) : -9223372036854775808 ≤ toI64 v ∧ toI64 v < 9223372036854775808 := by unfold toI64; split <;> omega
theorem toI64_mod {n : Int} (hn : -9223372036854775808 ≤ n ∧ n < 9223372036854775808) : toI64 (n % 18446744073709551616).toNat = n := by unfold toI64; split <;> omega
theorem mod_toI64 {v : Nat} (h : v < 2 ^ 64) : (toI64 v) % 18446744073709551616 = (v : Int) := by unfold toI64; split <;> omega

/-- What is put, read. -/
theorem uintR_sevens {x m : Nat} (l : List Int) (hx : x < 2 ^ 64) (hm : x ≤ m) : uintR m ⟨sevens x ++ l, 0⟩ = (x, ⟨l, 0⟩) := by
  unfold uintR
  have h := digs_sevens x x 0 0 l (Nat.le_refl _) (by simpa using hx) (fun h => by omega)
  simp only [Nat.pow_zero, Nat.mul_one, Nat.zero_add] at h
  simp only [h]
  rw [if_neg (by simp), if_neg (by omega)]
  simp
theorem bytesR_put {n : Nat} (m l : List Int) (h : m.length = n) (e : Int) : bytesR n ⟨m ++ l, e⟩ = (m, ⟨l, e⟩) := by
  unfold bytesR
  rw [if_neg (by simp; omega)]
  subst h; simp
theorem wordR_put {x : Nat} (l : List Int) (hx : x < 2 ^ 64) : wordR ⟨wordL (x : Int) ++ l, 0⟩ = (x, ⟨l, 0⟩) := by
  unfold wordR; rw [bytesR_put _ _ (wordL_len _)]; simp only [ofBytes_word hx]
theorem floatR_put {x : Nat} (l : List Int) (hx : x < 2 ^ 64) (ver : Int) : floatR ver ⟨floatL x ver ++ l, 0⟩ = (x, ⟨l, 0⟩) := by
  unfold floatR floatL
  by_cases h : ver = 1
  · rw [if_pos h, if_pos h]; exact wordR_put l hx
  · rw [if_neg h, if_neg h, uintR_sevens l rev_lt (by have := rev_lt (x := x); omega)]; simp only [rev_rev hx]
theorem partR_put {x : Nat} (l : List Int) (hx : x < 2 ^ 64) : partR (decide (x ≠ 0)) ⟨(if x = 0 then [] else floatL x 2) ++ l, 0⟩ = (x, ⟨l, 0⟩) := by
  unfold partR
  by_cases h : x = 0
  · simp [h]
  · simp only [h, ne_eq, not_false_eq_true, decide_true, if_true, if_false, floatR_put l hx 2]
theorem complexR_put {x y : Nat} (l : List Int) (hx : x < 2 ^ 64) (hy : y < 2 ^ 64) {ver : Int} (hv : ver = 1 ∨ ver = 2) : complexR ver ⟨complexL x y ver ++ l, 0⟩ = ((x, y), ⟨l, 0⟩) := by
  unfold complexR complexL
  rcases hv with rfl | rfl
  · rw [if_pos rfl, if_neg (by decide)]
    have e : ∀ z, floatL z 1 = wordL (z : Int) := fun z => by unfold floatL; rw [if_pos rfl]
    simp only [e, List.append_assoc, wordR_put _ hx, wordR_put _ hy]
  · rw [if_neg (by decide), if_pos rfl]
    have hb : byteR ⟨[markOf x y] ++ ((if x = 0 then [] else floatL x 2) ++ ((if y = 0 then [] else floatL y 2) ++ l)), 0⟩ = (markOf x y, ⟨(if x = 0 then [] else floatL x 2) ++ ((if y = 0 then [] else floatL y 2) ++ l), 0⟩) := by
      unfold byteR; rw [bytesR_put (n := 1) [markOf x y] _ rfl 0]; rfl
    have m1 : decide (markOf x y % 2 = 1) = decide (x ≠ 0) := by unfold markOf; split <;> split <;> simp_all
    have m2 : decide (markOf x y / 2 % 2 = 1) = decide (y ≠ 0) := by unfold markOf; split <;> split <;> simp_all
    have m3 : ¬ 3 < markOf x y := by unfold markOf; split <;> split <;> omega
    simp only [List.append_assoc, hb, m1, m2, if_neg m3, partR_put _ hx, partR_put _ hy]
theorem strOf_strL (s : ByteArray) : strOfNums (strL s) = s := by
  cases s with | mk d => simp [strOfNums, strL, Function.comp_def]
theorem strL_strOf {l : List Int} (h : isB l) : strL (strOfNums l) = l := by
  simp only [strL, strOfNums, List.map_map]
  conv => rhs; rw [← List.map_id l]
  refine List.map_congr_left fun x hx => ?_
  have := h x hx
  simp only [Function.comp, id, UInt8.toNat_ofNat']
  omega
theorem isB_strL (s : ByteArray) : isB (strL s) := by
  intro x hx
  simp only [strL, List.mem_map] at hx
  obtain ⟨b, _, rfl⟩ := hx
  have := b.toNat_lt
  omega
theorem textR_put {s : ByteArray} {m : Nat} (l : List Int) (h : s.size ≤ m) (hm : m < 2 ^ 64) : textR m ⟨sevens s.size ++ strL s ++ l, 0⟩ = (strL s, ⟨l, 0⟩) := by
  unfold textR
  rw [List.append_assoc, uintR_sevens _ (by omega) h]
  exact bytesR_put _ _ (strL_len s) 0

theorem takeV_put (v : V) (ver : Int) (l : List Int) (hv : ver = 1 ∨ ver = 2) (hr : v.right = 0) (hw : v.wf) : takeV v.ty ver ⟨v.put ver ++ l, 0⟩ = (v, ⟨l, 0⟩) := by
  obtain ⟨h1, h2, h3, h4, h5, h6, h7, h8, h9⟩ := right_zero hr
  obtain ⟨w1, w2, w3⟩ := hw
  have hb : bodyR v.ty ver ⟨v.put ver ++ l, 0⟩ = (v, ⟨l, 0⟩) := by
    obtain ⟨ty, n, x, y, s⟩ := v
    simp only at *
    have ht : ty = 1 ∨ ty = 2 ∨ ty = 3 ∨ ty = 4 ∨ ty = 5 ∨ ty = 6 := by omega
    unfold bodyR
    rcases ht with rfl | rfl | rfl | rfl | rfl | rfl
    · obtain rfl : x = 0 := by have := h6 (by decide) (by decide); omega
      obtain rfl : y = 0 := by have := h7 (by decide); omega
      obtain rfl : s = ByteArray.empty := (size_zero s).2 (h8 (by decide))
      rfl
    · obtain rfl : x = 0 := by have := h6 (by decide) (by decide); omega
      obtain rfl : y = 0 := by have := h7 (by decide); omega
      obtain rfl : s = ByteArray.empty := (size_zero s).2 (h8 (by decide))
      rcases hv with rfl | rfl
      · have e : V.put ⟨2, n, 0, 0, ByteArray.empty⟩ 1 = wordL (((n % 18446744073709551616).toNat : Nat) : Int) := by
          simp [V.put, putL]; congr 1; omega
        rw [e, if_neg (by decide), if_pos rfl, if_pos rfl]
        simp only [wordR_put l (show (n % 18446744073709551616).toNat < 2 ^ 64 by omega), toI64_mod w1]
      · have e : V.put ⟨2, n, 0, 0, ByteArray.empty⟩ 2 = sevens (zig n) := by
          simp [V.put, putL]
        have hz := zig_lt n w1
        rw [e, if_neg (by decide), if_pos rfl, if_neg (by decide)]
        simp only [intR, uintR_sevens l hz (show zig n ≤ 18446744073709551615 by omega), zag_zig]
    · obtain rfl : n = 0 := h5 (by decide)
      obtain rfl : y = 0 := by have := h7 (by decide); omega
      obtain rfl : s = ByteArray.empty := (size_zero s).2 (h8 (by decide))
      have e : V.put ⟨3, 0, x, 0, ByteArray.empty⟩ ver = floatL x ver := by
        simp [V.put, putL]
      rw [e, if_neg (by decide), if_neg (by decide), if_pos rfl]
      simp only [floatR_put l w2 ver]
    · obtain rfl : n = 0 := h5 (by decide)
      obtain rfl : s = ByteArray.empty := (size_zero s).2 (h8 (by decide))
      have e : V.put ⟨4, 0, x, y, ByteArray.empty⟩ ver = complexL x y ver := by
        simp [V.put, putL]
      rw [e, if_neg (by decide), if_neg (by decide), if_neg (by decide), if_pos rfl]
      simp only [complexR_put l w2 w3 hv]
    all_goals
      obtain rfl : n = 0 := h5 (by decide)
      obtain rfl : x = 0 := by have := h6 (by decide) (by decide); omega
      obtain rfl : y = 0 := by have := h7 (by decide); omega
      simp [V.put, putL, textR_put l h3 (show 2048 < 2 ^ 64 by decide), strOf_strL, -List.append_assoc]
  unfold takeV
  rw [if_pos hv]
  simp only [hb, hr, failS]
  rfl

/-- No two values have the same bytes. -/
theorem put_inj {a b : V} {ver : Int} (hv : ver = 1 ∨ ver = 2) (ha : a.right = 0) (hb : b.right = 0) (wa : a.wf) (wb : b.wf) (ht : a.ty = b.ty) (h : a.put ver = b.put ver) : a = b := by
  have h1 := takeV_put a ver [] hv ha wa
  have h2 := takeV_put b ver [] hv hb wb
  rw [h, ht, h2] at h1
  exact (Prod.ext_iff.1 h1).1.symm

end Go.Proofs.YtibgippchdmdlaaGreat

/-
The program's reader: what it tells; its digits.
-/
namespace Go.Proofs.YtibgippchdmdlaaGreat
open Go.RowKit

set_option maxRecDepth 100000 in set_option maxHeartbeats 1600000 in
theorem fail_any (g d : Nat) (st : RS) (x : Int) (w : World) (h : RD w g d st) :
    Calls Tryz.prog 108 #[.pointer (some ⟨g, 0, none⟩), .int .i64 x] w (RPost g d w (.tuple #[]) (failS st x)) := by
  have H := Hid.mk' h
  clear h
  by_cases hx : x = 0
  · subst hx
    go_enter Tryz.func108, Tryz.ntmps108
    go_wp2
    go_end0
    exact ⟨rfl, by unfold failS; rw [if_neg (by decide)]; exact H.out, Tch.refl g w⟩
  · have hx2 : (x != 0) = true := by simpa using hx
    have HX := Hid.mk' hx
    clear hx
    go_enter Tryz.func108, Tryz.ntmps108
    go_wp2_with (go_at_call 104; refine (giveUp_any g d st x _ H.out HX.out).mono ?_; rintro e w1 ⟨rfl, hr, ht⟩; have HR := Hid.mk' hr; have HT := Hid.mk' ht; clear hr ht)
    go_end0
    exact ⟨rfl, by unfold failS; rw [if_pos HX.out]; exact HR.out, HT.out⟩

set_option maxRecDepth 100000 in set_option maxHeartbeats 1600000 in
theorem rerr_any (g d : Nat) (st : RS) (w : World) (h : RD w g d st) :
    Calls Tryz.prog 151 #[.pointer (some ⟨g, 0, none⟩)] w fun e w' => e = .returned (.int .i64 st.e) ∧ w = w' := by
  obtain ⟨v, hb, hsb, hok, hlen⟩ := h
  have hc := hb.cell
  clear hb
  go_enter Tryz.func151, Tryz.ntmps151
  go_wp2
  go_ret
  exact ⟨rfl, rfl⟩

set_option maxRecDepth 100000 in set_option maxHeartbeats 1600000 in
theorem rleft_any (g d : Nat) (st : RS) (w : World) (h : RD w g d st) :
    Calls Tryz.prog 182 #[.pointer (some ⟨g, 0, none⟩)] w fun e w' => e = .returned (.int .i64 st.l.length) ∧ w = w' := by
  obtain ⟨v, hb, ⟨a, cap, rfl, hlc, hnc, hs⟩, hok, hlen⟩ := h
  have hc := hb.cell
  clear hb hlc hnc
  go_enter Tryz.func182, Tryz.ntmps182
  go_wp2
  go_ret
  exact ⟨rfl, rfl⟩

set_option maxRecDepth 100000 in set_option maxHeartbeats 1600000 in
theorem rend_any (g d : Nat) (st : RS) (w : World) (h : RD w g d st) :
    Calls Tryz.prog 61 #[.pointer (some ⟨g, 0, none⟩)] w fun e w' => e = .returned (.int .i64 (endE st)) ∧ w = w' := by
  obtain ⟨v, hb, ⟨a, cap, rfl, hlc, hnc, hs⟩, hok, hlen⟩ := h
  have hc := hb.cell
  clear hb hlc hnc
  obtain ⟨L, E⟩ := st
  simp only at *
  go_enter Tryz.func61, Tryz.ntmps61
  by_cases hE : E = 0
  · subst hE
    cases L with
    | nil =>
      go_wp2
      go_ret
      exact ⟨rfl, rfl⟩
    | cons x L =>
      have hpos : (0 : Int) < ((L.length + 1 : Nat) : Int) := by omega
      simp only [List.length_cons] at *
      go_wp2
      go_ret
      exact ⟨rfl, rfl⟩
  · have HE : Hid (endE ⟨L, E⟩ = E) := Hid.mk' (by unfold endE; rw [if_neg (fun h => hE h.1)])
    have hE1 : (E == 0) = false := by simpa using hE
    go_wp2
    go_ret
    exact ⟨ret_int HE.out.symm, rfl⟩

set_option maxRecDepth 100000 in set_option maxHeartbeats 1600000 in
theorem read_any (v : Value) (l : List Int) (w : World) (hl : Sl w v 1 (l.map bcell)) (hlen : l.length ≤ 1000000) (hb : isB l) :
    Calls Tryz.prog 58 #[v] w fun e w' => ∃ g, e = .returned (.pointer (some ⟨g, 0, none⟩)) ∧ w.heap.size ≤ g ∧ RD w' g w.heap.size ⟨l, 0⟩ ∧ Ext w w' := by
  have HL := Hid.mk' hl
  have HB := Hid.mk' hb
  clear hl hb
  go_enter Tryz.func58, Tryz.ntmps58
  go_wp2_with (go_at_call 102; refine (clone_any v l _ HL.out hlen).mono ?_; rintro e w1 ⟨v1, rfl, ho1, hb1⟩; obtain ⟨a1, cap1, rfl⟩ := ho1.shape; have HO1 := Hid.mk' ho1; have HE1 := Hid.mk' hb1; clear ho1 hb1)
  go_ret
  exact ⟨_, rfl, HE1.out.size, ⟨_, Blk.new _ _ _, (SB.of_own HO1.out (Nat.le_refl _)).ext ((Ext.refl w1).alloc _), ⟨fun h => absurd rfl h, HB.out⟩, hlen⟩, HE1.out.alloc _⟩

end Go.Proofs.YtibgippchdmdlaaGreat

/-
The program's reader: the digits of a number.
-/
namespace Go.Proofs.YtibgippchdmdlaaGreat
open Go.RowKit

/-- The value grows by sevens: or is plus. -/
theorem or_seven (v x n : Nat) (hv : v < 128 ^ n) : v ||| x * 128 ^ n = v + x * 128 ^ n := by
  have e : x * 128 ^ n = 2 ^ (7 * n) * x := by rw [Nat.pow_mul, Nat.mul_comm]
  have hv' : v < 2 ^ (7 * n) := by rw [Nat.pow_mul]; exact hv
  rw [e, or_apart (7 * n) x v hv', Nat.add_comm]



theorem pow_le9 {n : Nat} (h : n ≤ 9) : 128 ^ n ≤ 9223372036854775808 := by
  have h1 : 128 ^ n ≤ 128 ^ 9 := Nat.pow_le_pow_right (by decide) h
  have h2 : (128 : Nat) ^ 9 = 9223372036854775808 := by decide
  omega
theorem dig_room {q n : Nat} (hn : n ≤ 9) (hq : q < 128) (h9 : n = 9 → q ≤ 1) : q * 128 ^ n < 18446744073709551616 := by
  by_cases h : n = 9
  · subst h; have := h9 rfl; have h2 : (128 : Nat) ^ 9 = 9223372036854775808 := by decide
    rw [h2]; omega
  · have h1 : 128 ^ n ≤ 128 ^ 8 := Nat.pow_le_pow_right (by decide) (by omega)
    have h2 : (128 : Nat) ^ 8 = 72057594037927936 := by decide
    have h3 : q * 128 ^ n ≤ 127 * 128 ^ n := Nat.mul_le_mul_right _ (by omega)
    omega
theorem dig_or {v n : Nat} {x : Int} (hv : v < 128 ^ n) (hn : n ≤ 9) (hx : 0 ≤ x) (_h9 : ¬ (n = 9 ∧ 1 < x)) (hx1 : x < 256) (hx2 : n = 9 → x ≤ 1) :
    bits BinOp.or IntKind.u64 (v : Int) (IntKind.u64.wrap (x % 128 * 2 ^ (7 * n))) = ((v + (x % 128).toNat * 128 ^ n : Nat) : Int) := by
  have hp := pow_le9 hn
  have e : x % 128 * 2 ^ (7 * n) = (((x % 128).toNat * 128 ^ n : Nat) : Int) := by
    have h1 : ((2 : Int) ^ (7 * n)) = ((128 ^ n : Nat) : Int) := by rw [show (128 : Nat) = 2 ^ 7 from rfl, ← Nat.pow_mul, Int.natCast_pow]; rfl
    rw [h1, Int.natCast_mul]; congr 1; omega
  have hr := dig_room (q := (x % 128).toNat) hn (by omega) (fun h => by have := hx2 h; omega)
  rw [e, u64_wrap', Int.emod_eq_of_lt (by omega) (by omega), bits_or_u64_nat _ _ (by omega) (by omega), or_seven _ _ _ hv]
theorem dig_lt {v q n : Nat} (hv : v < 128 ^ n) (hq : q < 128) : v + q * 128 ^ n < 128 ^ (n + 1) := by
  have h3 : q * 128 ^ n ≤ 127 * 128 ^ n := Nat.mul_le_mul_right _ (by omega)
  rw [Nat.pow_succ]; omega

def DigJ0 (g : Nat) (l : List Int) (w : World) (a' : Act) (w' : World) : Prop := w' = w ∧ ∃ (n v : Nat) (u5 u6 u7 u8 u9 u10 u11 u12 u13 u14 u15 u16 u17 u18 u19 u20 u21 u22 u23 u24 u25 u26 u27 u28 u29 u30 u31 u32 u33 u34 u35 u36 u37 u38 u39 u40 u41 u42 u43 u44 u45 : Value), a' = { tmps := #[.pointer (some ⟨g, 0, none⟩), undef, .int .u64 v, .int .i64 n, .int .i64 0, u5, u6, u7, u8, u9, u10, u11, u12, u13, u14, u15, u16, u17, u18, u19, u20, u21, u22, u23, u24, u25, u26, u27, u28, u29, u30, u31, u32, u33, u34, u35, u36, u37, u38, u39, u40, u41, u42, u43, u44, u45], defers := [] } ∧ n ≤ l.length ∧ n ≤ 9 ∧ v < 128 ^ n ∧ Hid (digs (l.drop n) n v = digs l 0 0)
def DigJ1 (g : Nat) (l : List Int) (w : World) (a' : Act) (w' : World) : Prop := w' = w ∧ ∃ (u2 u3 u4 u5 u6 u7 u8 u9 u10 u11 u12 u13 u14 u15 u16 u17 u18 u19 u20 u21 u22 u23 u24 u25 u26 u27 u28 u29 u30 u31 u32 u33 u34 u35 u36 u37 u38 u39 u40 u41 u42 u43 u44 u45 : Value), a' = { tmps := #[.pointer (some ⟨g, 0, none⟩), undef, u2, u3, u4, u5, u6, u7, u8, u9, u10, u11, u12, u13, u14, u15, u16, u17, u18, u19, u20, u21, u22, u23, u24, u25, u26, u27, u28, u29, u30, u31, u32, u33, u34, u35, u36, u37, u38, u39, u40, u41, u42, u43, u44, u45], defers := [] } ∧ Hid (digs l 0 0 = (0, 0, 5))
def DigM (a' : Act) (_ : World) : Nat := 20 - (intOf (a'.tmps.getD 3 undef)).toNat

set_option maxRecDepth 100000 in set_option maxHeartbeats 1600000 in
theorem digits_any (g d : Nat) (st : RS) (w : World) (h : RD w g d st) :
    Calls Tryz.prog 103 #[.pointer (some ⟨g, 0, none⟩)] w fun e w' => e = .returned (.tuple #[.int .u64 (digs st.l 0 0).1, .int .i64 (digs st.l 0 0).2.1, .int .i64 (digs st.l 0 0).2.2]) ∧ w = w' := by
  obtain ⟨v, hb, ⟨a, cap, rfl, hlc, hnc, hs⟩, hok, hlen⟩ := h
  have hc := hb.cell
  clear hb
  have HC : Hid (∀ k, k < st.l.length → ∃ b o, a = some ⟨b, o, none⟩ ∧ w.cell? ⟨b, o + k, none⟩ = some (.int .u8 (st.l.getD k 0))) := Hid.mk' (fun k hk => by
    rcases hs with h0 | ⟨b, o, ha, hb, hne, hc⟩
    · rw [h0] at hk; simp at hk
    · exact ⟨b, o, ha, hc k hk⟩)
  have HOK := Hid.mk' hok
  clear hs hok hlc hnc
  go_enter Tryz.func103, Tryz.ntmps103
  go_wp2
  refine wp_scope_two (DigJ0 g st.l w) (DigJ1 g st.l w) DigM rfl rfl ?first ?pass0 ?pass1
  case first =>
    intro hp
    go_wp2
    go_step3
    rename_i hK
    refine hK _ _ (hp _ _ ?_)
    exact ⟨rfl, 0, 0, _, _, _, _, _, _, _, _, _, _, _, _, _, _, _, _, _, _, _, _, _, _, _, _, _, _, _, _, _, _, _, _, _, _, _, _, _, _, _, _, _, rfl, Nat.zero_le _, by omega, by simp, Hid.mk' rfl⟩
  case pass0 =>
    rintro a' w' ⟨rfl, n, v, u5, u6, u7, u8, u9, u10, u11, u12, u13, u14, u15, u16, u17, u18, u19, u20, u21, u22, u23, u24, u25, u26, u27, u28, u29, u30, u31, u32, u33, u34, u35, u36, u37, u38, u39, u40, u41, u42, u43, u44, u45, rfl, hn, hn9, hv, hd⟩
    by_cases hlt : n < st.l.length
    · obtain ⟨b, o, rfl, hx⟩ := HC.out n hlt
      have hd2 := hd.out
      have e : st.l.drop n = st.l.getD n 0 :: st.l.drop (n + 1) := by
        rw [List.drop_eq_getElem_cons hlt]; simp [List.getD, List.getElem?_eq_getElem hlt]
      rw [e, digs] at hd2
      have hxr : 0 ≤ st.l.getD n 0 ∧ st.l.getD n 0 < 256 := HOK.out.2 _ (by rw [List.getD_eq_getElem?_getD, List.getElem?_eq_getElem hlt]; exact List.getElem_mem hlt)
      clear e
      generalize st.l.getD n 0 = x at *
      obtain ⟨hx0, hx1⟩ := hxr
      have HD := Hid.mk' hd2
      clear hd2 hd
      have HV := Hid.mk' hv
      clear hv
      by_cases h9 : n = 9 ∧ 1 < x
      · have HO : Hid (digs st.l 0 0 = (0, 0, 5)) := by have := HD.out; rw [if_pos h9] at this; exact Hid.mk' this.symm
        obtain ⟨rfl, h9⟩ := h9
        clear HD
        go_wp2
        go_step3
        exact jumps2_one ⟨rfl, _, _, _, _, _, _, _, _, _, _, _, _, _, _, _, _, _, _, _, _, _, _, _, _, _, _, _, _, _, _, _, _, _, _, _, _, _, _, _, _, _, _, _, _, rfl, HO⟩
      · have hd3 := HD.out
        rw [if_neg h9] at hd3
        have HD3 := Hid.mk' hd3
        clear hd3 HD
        by_cases h128 : 128 ≤ x
        · have hn8 : n ≤ 8 := by
            rcases Nat.lt_or_ge n 9 with h3 | h3
            · omega
            · exact absurd ⟨by omega, by omega⟩ h9
          have HB := Hid.mk' (dig_or HV.out hn9 hx0 h9 hx1 (by omega))
          have HL := Hid.mk' (dig_lt (q := (x % 128).toNat) HV.out (by omega))
          have HD4 : Hid (digs (st.l.drop (n + 1)) (n + 1) (v + (x % 128).toNat * 128 ^ n) = digs st.l 0 0) := by have := HD3.out; rw [if_pos h128] at this; exact Hid.mk' this
          clear h9 HD3
          go_wp2
          go_step3
          exact jumps2_zero ⟨⟨rfl, n + 1, v + (x % 128).toNat * 128 ^ n, _, _, _, _, _, _, _, _, _, _, _, _, _, _, _, _, _, _, _, _, _, _, _, _, _, _, _, _, _, _, _, _, _, _, _, _, _, _, _, _, _, by rw [HB.out]; rfl, by omega, by omega, HL.out, HD4⟩, by show 20 - (intOf (.int .i64 ((n : Int) + 1))).toNat < 20 - (intOf (.int .i64 (n : Int))).toNat; simp [intOf]; omega⟩
        · by_cases h0 : 1 ≤ n ∧ x = 0
          · obtain ⟨h0, rfl⟩ := h0
            have HO : Hid (digs st.l 0 0 = (0, 0, 5)) := by have := HD3.out; rw [if_neg (by decide), if_pos ⟨h0, rfl⟩] at this; exact Hid.mk' this.symm
            clear h9 HD3
            have hn1 : (1 : Int) < (n : Int) + 1 := by omega
            go_wp2
            all_goals
              go_step3
              exact jumps2_one ⟨rfl, _, _, _, _, _, _, _, _, _, _, _, _, _, _, _, _, _, _, _, _, _, _, _, _, _, _, _, _, _, _, _, _, _, _, _, _, _, _, _, _, _, _, _, _, rfl, HO⟩
          · have HB := Hid.mk' (dig_or HV.out hn9 hx0 h9 hx1 (by omega))
            have HO : Hid (digs st.l 0 0 = (v + (x % 128).toNat * 128 ^ n, n + 1, 0)) := by have := HD3.out; rw [if_neg h128, if_neg h0] at this; exact Hid.mk' this.symm
            have H9 := Hid.mk' h9
            clear h9 HD3
            by_cases hn0 : n = 0
            · have hn1 : (n : Int) + 1 ≤ 1 := by omega
              clear hn0
              go_wp2
              all_goals
                refine jumps2_ret ?_
                go_ret3
                exact ⟨by rw [HO.out, ← HB.out]; rfl, rfl⟩
            · have hn1 : (1 : Int) < (n : Int) + 1 := by omega
              have hx3 : 0 < x := by omega
              have hx4 : (x == 0) = false := by simp; omega
              by_cases hn8 : n ≤ 8
              · clear hn0 hn9
                go_wp2
                refine jumps2_ret ?_
                go_ret3
                exact ⟨by rw [HO.out, ← HB.out]; rfl, rfl⟩
              · obtain rfl : n = 9 := by omega
                obtain rfl : x = 1 := by have h := H9.out; omega
                have HB2 : Hid (bits BinOp.or IntKind.u64 (v : Int) 9223372036854775808 = ((v + (1 % 128 : Int).toNat * 128 ^ 9 : Nat) : Int)) := Hid.mk' HB.out
                clear HB hn0 hn8 hn9
                go_wp2
                refine jumps2_ret ?_
                go_ret3
                exact ⟨by rw [HO.out, ← HB2.out]; rfl, rfl⟩
    · have hn2 : n = st.l.length := by omega
      have HD : Hid (digs st.l 0 0 = (0, 0, 1)) := Hid.mk' (by rw [← hd.out, hn2, List.drop_length]; rfl)
      clear hd
      subst hn2
      go_wp2
      refine jumps2_ret ?_
      go_ret3
      exact ⟨by rw [HD.out]; rfl, rfl⟩
  case pass1 =>
    rintro a' w' ⟨rfl, u2, u3, u4, u5, u6, u7, u8, u9, u10, u11, u12, u13, u14, u15, u16, u17, u18, u19, u20, u21, u22, u23, u24, u25, u26, u27, u28, u29, u30, u31, u32, u33, u34, u35, u36, u37, u38, u39, u40, u41, u42, u43, u44, u45, rfl, hd⟩
    go_wp2
    refine jumps2_ret ?_
    go_ret3
    exact ⟨by rw [hd.out]; rfl, rfl⟩

end Go.Proofs.YtibgippchdmdlaaGreat

/-
The program's reader: numbers, bytes, texts, words.
-/
namespace Go.Proofs.YtibgippchdmdlaaGreat
open Go.RowKit

theorem digs_len : ∀ (l : List Int) (n v v' m : Nat) (e : Int), digs l n v = (v', m, e) → m ≤ n + l.length := by
  intro l
  induction l with
  | nil => intro n v v' m e h; simp [digs] at h; omega
  | cons x l ih =>
    intro n v v' m e h
    rw [digs] at h
    (repeat' split at h)
    · simp at h; omega
    · have := ih _ _ _ _ _ h; simp; omega
    · simp at h; omega
    · simp at h; simp; omega
theorem digs_lt : ∀ (l : List Int) (n v : Nat), isB l → n ≤ 9 → v < 128 ^ n → (digs l n v).1 < 18446744073709551616 := by
  intro l
  induction l with
  | nil => intro n v _ _ _; simp [digs]
  | cons x l ih =>
    intro n v hb hn hv
    obtain ⟨h0, h1⟩ := hb.head
    have hp := pow_le9 hn
    rw [digs]
    (repeat' split)
    · simp
    · rename_i h9 h128
      exact ih _ _ hb.tail (by rcases Nat.lt_or_ge n 9 with h3 | h3; omega; exact absurd ⟨by omega, by omega⟩ h9) (dig_lt hv (by omega))
    · simp
    · rename_i h9 h128 _
      have := dig_room (q := (x % 128).toNat) hn (by omega) (fun h => by by_cases h1 : 1 < x; exact absurd ⟨h, h1⟩ h9; omega)
      show v + _ < _
      by_cases hn9 : n = 9
      · have : x ≤ 1 := by by_cases h1 : 1 < x; exact absurd ⟨hn9, h1⟩ h9; omega
        subst hn9
        have h2 : (128 : Nat) ^ 9 = 9223372036854775808 := by decide
        have h3 : (x % 128).toNat * 128 ^ 9 ≤ 1 * 128 ^ 9 := Nat.mul_le_mul_right _ (by omega)
        omega
      · have h5 := dig_lt hv (q := (x % 128).toNat) (by omega)
        have h6 := pow_le9 (n := n + 1) (by omega)
        omega

set_option maxRecDepth 100000 in set_option maxHeartbeats 1600000 in
theorem rbytes_any (g d : Nat) (st : RS) (n : Nat) (w : World) (h : RD w g d st) (hn : n ≤ 9223372036854775807) :
    Calls Tryz.prog 150 #[.pointer (some ⟨g, 0, none⟩), .int .i64 n] w fun e w' => ∃ v, e = .returned v ∧ SB w' g d v (bytesR n st).1 ∧ RD w' g d (bytesR n st).2 ∧ Tch g w w' := by
  have H := Hid.mk' h
  obtain ⟨v, hb, ⟨a, cap, rfl, hlc, hnc, hs⟩, hok, hlen⟩ := h
  have hc := hb.cell
  have hf := hb.frozen
  have hlt := hb.lt
  have HB := Hid.mk' hb
  have HS : Hid (SB w g d (.slice a st.l.length cap) st.l) := Hid.mk' ⟨a, cap, rfl, hlc, hnc, hs⟩
  clear hb
  by_cases hk : st.l.length < n
  · have hE : Hid (bytesR n st = ([], giveS st 1)) := Hid.mk' (by unfold bytesR; rw [if_pos hk])
    clear hs hok hlc hnc
    go_enter Tryz.func150, Tryz.ntmps150
    go_wp2_with (go_at_call 104; refine (giveUp_any g d st 1 _ H.out (by decide)).mono ?_; rintro e w1 ⟨rfl, hr, ht⟩; have HR := Hid.mk' hr; have HT := Hid.mk' ht; clear hr ht)
    go_ret
    exact ⟨_, rfl, by rw [hE.out]; exact SB.nil _ _ _, by rw [hE.out]; exact HR.out, HT.out⟩
  · have hE : Hid (bytesR n st = (st.l.take n, ⟨st.l.drop n, st.e⟩)) := Hid.mk' (by unfold bytesR; rw [if_neg hk])
    have HOK : Hid ((⟨st.l.drop n, st.e⟩ : RS).ok) := Hid.mk' (by have := bytesR_ok hok n; rw [hE.out] at this; exact this)
    have HLE : Hid ((st.l.drop n).length ≤ 1000000) := Hid.mk' (by simp; omega)
    have hnl : n ≤ st.l.length := by omega
    have HNC := Hid.mk' hnc
    clear hok hnc hk
    by_cases hcn : cap = n
    · subst hcn
      have hdl : Hid (st.l.drop cap = []) := Hid.mk' (List.drop_eq_nil_of_le (by omega))
      have hls : (st.l.length : Int) - (cap : Int) = 0 := by omega
      clear hs
      go_enter Tryz.func150, Tryz.ntmps150
      go_wp2
      go_ret
      have hTT : ∀ u, Tch g w (w.setCell ⟨g, 0, none⟩ u) := fun u => (Tch.refl g w).set 0 u
      refine ⟨_, rfl, ?_, ?_, hTT _⟩
      · rw [hE.out]; exact (HS.out.take hnl).tch (hTT _) (.inr (Nat.le_refl _))
      · rw [hE.out]
        refine ⟨_, HB.out.set 0 _, ?_, HOK.out, HLE.out⟩
        rw [hdl.out]
        exact SB.zero _ _ _ _ _ (fun _ => rfl)
    · rcases hs with h0 | ⟨b, o, rfl, hb, hne, hcs⟩
      · have hn0 : n = 0 := by rw [h0] at hnl; simpa using hnl
        subst hn0
        cases a with
        | none => exact absurd (HNC.out rfl) hcn
        | some ad =>
          clear h0
          go_enter Tryz.func150, Tryz.ntmps150
          go_wp2
          go_ret
          have hTT : ∀ u, Tch g w (w.setCell ⟨g, 0, none⟩ u) := fun u => (Tch.refl g w).set 0 u
          refine ⟨_, rfl, ?_, ?_, hTT _⟩
          · rw [hE.out]; exact (HS.out.take hnl).tch (hTT _) (.inr (Nat.le_refl _))
          · rw [hE.out]
            refine ⟨_, HB.out.set 0 _, ?_, HOK.out, HLE.out⟩
            exact HS.out.tch (hTT _) (.inr (Nat.le_refl _))
      · clear hcs
        go_enter Tryz.func150, Tryz.ntmps150
        go_wp2
        go_ret
        have hTT : ∀ u, Tch g w (w.setCell ⟨g, 0, none⟩ u) := fun u => (Tch.refl g w).set 0 u
        refine ⟨_, rfl, ?_, ?_, hTT _⟩
        · rw [hE.out]; exact (HS.out.take hnl).tch (hTT _) (.inr (Nat.le_refl _))
        · rw [hE.out]
          exact ⟨_, HB.out.set 0 _, (HS.out.drop hnl _ _ rfl rfl).tch (hTT _) (.inr (Nat.le_refl _)), HOK.out, HLE.out⟩

theorem sevens_pos2 (x : Nat) : 0 < (sevens x).length := by
  by_cases h : x < 128
  · rw [sevens_lt h]; simp
  · rw [sevens_ge h]; simp

set_option maxRecDepth 100000 in set_option maxHeartbeats 1600000 in
theorem ruint2_any (g d : Nat) (st : RS) (m : Nat) (w : World) (h : RD w g d st) (_hm : m < 18446744073709551616) :
    Calls Tryz.prog 60 #[.pointer (some ⟨g, 0, none⟩), .int .u64 m] w (RPost g d w (.int .u64 (uintR m st).1) (uintR m st).2) := by
  have H := Hid.mk' h
  obtain ⟨v, hb, ⟨a, cap, rfl, hlc, hnc, hs⟩, hok, hlen⟩ := h
  have hc := hb.cell
  have hf := hb.frozen
  have hlt := hb.lt
  have HB := Hid.mk' hb
  have HS : Hid (SB w g d (.slice a st.l.length cap) st.l) := Hid.mk' ⟨a, cap, rfl, hlc, hnc, hs⟩
  clear hb
  obtain ⟨D, hD⟩ : ∃ D, D = digs st.l 0 0 := ⟨_, rfl⟩
  have HDG := Hid.mk' (fun w h => digits_any g d st w h)
  rw [← hD] at HDG
  have hv64 := digs_lt st.l 0 0 hok.2 (by omega) (by decide)
  have hnl : D.2.1 ≤ st.l.length := by
    obtain ⟨d0, d1, d2⟩ := D
    have := digs_len st.l 0 0 d0 d1 d2 hD.symm
    show d1 ≤ _
    omega
  rw [← hD] at hv64
  obtain ⟨d0, d1, d2⟩ := D
  simp only at *
  by_cases hz : d2 = 0
  · subst hz
    by_cases hgt : m < d0
    · have hE : Hid (uintR m st = (0, giveS st 4)) := Hid.mk' (by unfold uintR; simp only [← hD]; rw [if_neg (by simp), if_pos hgt])
      clear hs hok hlc hnc hD
      go_enter Tryz.func60, Tryz.ntmps60
      go_wp2_with (first
        | (go_at_call 103; refine (HDG.out _ H.out).mono ?_; rintro e w1 ⟨rfl, rfl⟩)
        | (go_at_call 104; refine (giveUp_any g d st 4 _ H.out (by decide)).mono ?_; rintro e w2 ⟨rfl, hr, ht⟩; have HR := Hid.mk' hr; have HT := Hid.mk' ht; clear hr ht))
      go_ret
      exact ⟨by rw [hE.out]; rfl, by rw [hE.out]; exact HR.out, HT.out⟩
    · have hE : Hid (uintR m st = (d0, ⟨st.l.drop d1, st.e⟩)) := Hid.mk' (by unfold uintR; simp only [← hD]; rw [if_neg (by simp), if_neg hgt])
      have HOK : Hid ((⟨st.l.drop d1, st.e⟩ : RS).ok) := Hid.mk' (by have := uintR_ok hok m; rw [hE.out] at this; exact this)
      have HLE : Hid ((st.l.drop d1).length ≤ 1000000) := Hid.mk' (by simp; omega)
      have hd1 : 1 ≤ d1 := by
        rcases Nat.eq_zero_or_pos d1 with h0 | h0
        · exfalso
          subst h0
          cases hL : st.l with
          | nil => rw [hL] at hD; simp [digs] at hD
          | cons x L =>
            obtain ⟨y, _, h2, _⟩ := digs_inv st.l 0 0 _ _ hok.2 (by omega) hD.symm
            have := sevens_pos2 y
            omega
        · exact h0
      have hge : d0 ≤ m := by omega
      clear hok hD hgt
      rcases hs with h0 | ⟨b, o, rfl, hb, hne, hcs⟩
      · rw [h0] at hnl; simp at hnl; omega
      clear hcs hnc
      have hTT : ∀ u, Tch g w (w.setCell ⟨g, 0, none⟩ u) := fun u => (Tch.refl g w).set 0 u
      have HTT := Hid.mk' hTT
      clear hTT
      by_cases hcn : cap = d1
      · have hdl : Hid (st.l.drop d1 = []) := Hid.mk' (List.drop_eq_nil_of_le (by omega))
        subst hcn
        go_enter Tryz.func60, Tryz.ntmps60
        go_wp2_with (go_at_call 103; refine (HDG.out _ H.out).mono ?_; rintro e w1 ⟨rfl, rfl⟩)
        go_ret
        refine ⟨by rw [hE.out]; rfl, ?_, HTT.out _⟩
        rw [hE.out]
        refine ⟨_, HB.out.set 0 _, ?_, HOK.out, HLE.out⟩
        rw [hdl.out]
        first
          | exact SB.zero _ _ _ _ _ (fun _ => rfl)
          | (rw [show st.l.length - cap = 0 by omega]; exact SB.zero _ _ _ _ _ (fun _ => rfl))
      · go_enter Tryz.func60, Tryz.ntmps60
        go_wp2_with (go_at_call 103; refine (HDG.out _ H.out).mono ?_; rintro e w1 ⟨rfl, rfl⟩)
        go_ret
        refine ⟨by rw [hE.out]; rfl, ?_, HTT.out _⟩
        rw [hE.out]
        exact ⟨_, HB.out.set 0 _, (HS.out.drop hnl _ _ rfl rfl).tch (HTT.out _) (.inr (Nat.le_refl _)), HOK.out, HLE.out⟩
  · have hE : Hid (uintR m st = (0, giveS st d2)) := Hid.mk' (by unfold uintR; simp only [← hD]; rw [if_pos hz])
    have hz1 : (d2 == 0) = false := by simpa using hz
    have hz2 : (d2 != 0) = true := by simpa using hz
    have HZ := Hid.mk' hz
    clear hs hok hlc hnc hD hz
    go_enter Tryz.func60, Tryz.ntmps60
    go_wp2_with (first
      | (go_at_call 103; refine (HDG.out _ H.out).mono ?_; rintro e w1 ⟨rfl, rfl⟩)
      | (go_at_call 104; refine (giveUp_any g d st d2 _ H.out HZ.out).mono ?_; rintro e w2 ⟨rfl, hr, ht⟩; have HR := Hid.mk' hr; have HT := Hid.mk' ht; clear hr ht))
    go_ret
    exact ⟨by rw [hE.out]; rfl, by rw [hE.out]; exact HR.out, HT.out⟩

end Go.Proofs.YtibgippchdmdlaaGreat
