/-
The walk of TotalTimes.
-/
import Derived.Test.YtkofnmbkfaebcaaAwake23
import Derived.Test.YtkofnmbkfaebcaaPart
import Derived.Deep.DeepCutAuto
namespace Go.Proofs.Ytkofnmbkfaebcaa
open Go.RowKit

/-- The four numbers lie as far out as is looked at. -/
abbrev outT (a b c d : Int) : Prop := a < -2199023255552 ∨ 2199023255552 < a ∨ b < -2199023255552 ∨ 2199023255552 < b ∨ c < -5000 ∨ 5000 < c ∨ d < -5000 ∨ 5000 < d
/-- The four numbers lie where a sum's number is turned. -/
abbrev mayT (a b c d : Int) : Prop := -1099511627776 ≤ a ∧ a ≤ 1099511627776 ∧ -1099511627776 ≤ b ∧ b ≤ 1099511627776 ∧ -1024 ≤ c ∧ c ≤ 1024 ∧ -1024 ≤ d ∧ d ≤ 1024

theorem fint_fw {n : Int} (h : n.natAbs < 2 ^ 53) : fint (Fl.fw n) = n := fint_eq (Fl.FI.fw n h)
theorem whB_fw {n B : Int} (h : n.natAbs < 2 ^ 53) : whB (Fl.fw n) B = decide (-B ≤ n ∧ n ≤ B) := by
  rw [Bool.eq_iff_iff, whB_true, decide_eq_true_eq]
  constructor
  · rintro ⟨m, hm, h1, h2⟩
    have := Fl.FI.unique hm (Fl.FI.fw n h)
    omega
  · rintro ⟨h1, h2⟩
    exact ⟨n, Fl.FI.fw n h, h1, h2⟩

theorem fw_lt (n : Int) : Hid (floatOfInt .f64 n < 2 ^ 64) := Hid.mk' (show floatOfInt .f64 n < 2 ^ 64 from Ieee.Format.write_lt Ieee.double (.number (decide (n < 0)) n.natAbs 0))
theorem timesB_fw {a b c d : Int} (h : ¬ outT a b c d) : timesB (floatOfInt .f64 a) (floatOfInt .f64 b) (floatOfInt .f64 c) (floatOfInt .f64 d) = decide (mayT a b c d) := by
  have h1 := whB_fw (n := a) (B := 1099511627776) (by omega)
  have h2 := whB_fw (n := b) (B := 1099511627776) (by omega)
  have h3 := whB_fw (n := c) (B := 1024) (by omega)
  have h4 := whB_fw (n := d) (B := 1024) (by omega)
  show ((whB (Fl.fw c) 1024 && whB (Fl.fw d) 1024) && (whB (Fl.fw a) 1099511627776 && whB (Fl.fw b) 1099511627776)) = _
  rw [h1, h2, h3, h4, ← Bool.decide_and, ← Bool.decide_and, ← Bool.decide_and]
  exact decide_eq_decide.2 (by unfold mayT; omega)

theorem whB_mono {x : Nat} {B C : Int} (h : B ≤ C) (hw : whB x B = true) : whB x C = true := by
  obtain ⟨n, h1, h2, h3⟩ := whB_true.1 hw
  exact whB_true.2 ⟨n, h1, by omega, by omega⟩
theorem whB_in {x : Nat} {B C : Int} (hw : whB x C = true) : whB x B = decide (-B ≤ fint x ∧ fint x ≤ B) := by
  rw [Bool.eq_iff_iff, whB_true, decide_eq_true_eq]
  have h0 := (whB_fint hw).1
  constructor
  · rintro ⟨m, hm, h1, h2⟩
    have := Fl.FI.unique hm h0
    omega
  · rintro ⟨h1, h2⟩
    exact ⟨_, h0, h1, h2⟩
theorem ge_1024 {x : Nat} {C : Int} (hw : whB x C = true) : (FloatKind.f64.format.order x 13875590451928498176 == some .gt || FloatKind.f64.format.order x 13875590451928498176 == some .eq) = decide (-1024 ≤ fint x) := by
  have h0 := (whB_fint hw).1
  have e : (13875590451928498176 : Nat) = Fl.fw (-1024) := by decide +kernel
  have h1 : FloatKind.f64.format.order x (Fl.fw (-1024)) = some (compare (fint x) (-1024)) := Fl.FI.order h0 (Fl.FI.fw (-1024) (by decide))
  rw [e, h1]; exact Fl.ge_beq _ _
theorem le_1024 {x : Nat} {C : Int} (hw : whB x C = true) : (FloatKind.f64.format.order x 4652218415073722368 == some .lt || FloatKind.f64.format.order x 4652218415073722368 == some .eq) = decide (fint x ≤ 1024) := by
  have h0 := (whB_fint hw).1
  have e : (4652218415073722368 : Nat) = Fl.fw 1024 := by decide +kernel
  have h1 : FloatKind.f64.format.order x (Fl.fw 1024) = some (compare (fint x) 1024) := Fl.FI.order h0 (Fl.FI.fw 1024 (by decide))
  rw [e, h1]; exact Fl.le_beq _ _

set_option maxRecDepth 100000 in set_option maxHeartbeats 16000000 in
theorem timesT_any (ty n : Int) (x y : Nat) (s : ByteArray) (a b c d : Int) (w : World) (hx : Hid (x < 2 ^ 64)) (hy : Hid (y < 2 ^ 64)) :
    Calls Try.prog 4 #[.agg #[.int .u8 ty, .int .i64 n, .int .u64 x, .int .u64 y, .string s], .agg #[.int .i64 a, .int .i64 b], .agg #[.int .i64 c, .int .i64 d]] w fun e w' => e = .returned (.bool true) ∧ Ext w w' := by
  obtain ⟨A, hA⟩ : ∃ A, A = whB x 1048576 := ⟨_, rfl⟩
  obtain ⟨B, hB⟩ : ∃ B, B = whB y 1048576 := ⟨_, rfl⟩
  have HA := Hid.mk' hA
  have HB := Hid.mk' hB
  clear hA hB
  go_enter Try.func4, Try.ntmps4
  go_upto_region 4 with (first
    | (go_at_call 19; refine (vof_any x y _).mono ?_; rintro e w1 ⟨rfl, rfl⟩; simp only [Int.toNat_natCast])
    | (go_at_call_of 20 (Value.int IntKind.u64 (x : Int)); refine (part_any x _).mono ?_; unfold PartPost; rw [← HA.out]; rintro e w2 ⟨n1, rfl, hn1, rfl⟩; clear hn1)
    | (go_at_call_of 20 (Value.int IntKind.u64 (y : Int)); refine (part_any y _).mono ?_; unfold PartPost; rw [← HB.out]; rintro e w3 ⟨n2, rfl, hn2, rfl⟩; clear hn2))
  go_cut [9, 11, 44] (fun v9 v11 v wx => v9 = .bool A ∧ v11 = .bool B ∧ v = .bool false ∧ Ext (((w.alloc (.cells #[.int .u8 ty, .int .i64 n, .int .u64 x, .int .u64 y, .string s] 42)).alloc (.cells #[.int .i64 a, .int .i64 b] 43)).alloc (.cells #[.int .i64 c, .int .i64 d] 43)) wx)
  case first =>
    as_aux_lemma =>
      go_wp2_with (go_at_call 21; refine (whole_any x y _ hx hy).mono ?_; rw [← HA.out, ← HB.out]; rintro e w4 ⟨rfl, hb4⟩)
      all_goals (go_meet; case rel => exact ⟨by simp_all, by simp_all, by simp_all, hb4⟩)
  case rest =>
    as_aux_lemma =>
      obtain ⟨rfl, rfl, rfl, hE⟩ := hcut
      have hB1 := (((Blk.new' (w := w.alloc (.cells #[.int .u8 ty, .int .i64 n, .int .u64 x, .int .u64 y, .string s] 42)) (b := w.heap.size + 1) #[.int .i64 a, .int .i64 b] 43 (by simp))).alloc (.cells #[.int .i64 c, .int .i64 d] 43)).ext hE
      have hB2 := (Blk.new' (w := (w.alloc (.cells #[.int .u8 ty, .int .i64 n, .int .u64 x, .int .u64 y, .string s] 42)).alloc (.cells #[.int .i64 a, .int .i64 b] 43)) (b := w.heap.size + 1 + 1) #[.int .i64 c, .int .i64 d] 43 (by simp)).ext hE
      have hEw : Ext w wc := by (repeat (with_reducible (first | exact Ext.refl _ | assumption | exact held_left (by assumption) | apply Ext.drewN | apply Ext.drew | apply Ext.alloc | (refine Ext.setCell ?_ (by first | (simp; done) | (simp; omega) | omega) _) | (refine Ext.trans ?_ (by assumption)) | (refine Ext.trans ?_ (held_left (by assumption))))))
      have HEw := Hid.mk' hEw
      clear hE hEw
      have k1 := hB1.cell
      have k2 := hB2.cell
      have z1 := hB1.lt
      have z2 := hB2.lt
      go_upto_region 7 with (fail)
      go_cut [90] (fun v wx => v = .bool (decide (outT a b c d)) ∧ wx = wc)
      case first =>
        as_aux_lemma =>
          go_wp2_with (fail)
          all_goals (go_meet; case rel => exact ⟨(by first | exact congrArg Value.bool (decide_eq_true (p := outT a b c d) (by unfold outT; omega)).symm | exact congrArg Value.bool (decide_eq_false (p := outT a b c d) (by unfold outT; omega)).symm | simp [outT, Bool.or_assoc, Bool.decide_or]), rfl⟩)
      case rest =>
        as_aux_lemma =>
          obtain ⟨rfl, rfl⟩ := hcut
          by_cases hO : outT a b c d
          · have hO' : decide (outT a b c d) = true := decide_eq_true hO
            go_wp2_with (go_at_call 18; refine (awake23_any _).mono ?_; rintro e w12 ⟨rfl, hb12⟩)
            have hEw := HEw.out
            go_ret
            exact ⟨rfl, by (repeat (with_reducible (first | exact Ext.refl _ | assumption | exact held_left (by assumption) | apply Ext.drewN | apply Ext.drew | apply Ext.alloc | (refine Ext.setCell ?_ (by first | (simp; done) | (simp; omega) | omega) _) | (refine Ext.trans ?_ (by assumption)) | (refine Ext.trans ?_ (held_left (by assumption))))))⟩
          · have hO' : decide (outT a b c d) = false := decide_eq_false hO
            have hr : ¬ outT a b c d := hO
            have HR := Hid.mk' hr
            clear hO hr
            have HT := Hid.mk' (timesB_fw HR.out)
            obtain ⟨M, hM⟩ : ∃ M, M = decide (mayT a b c d) := ⟨_, rfl⟩
            rw [← hM] at HT
            have HM := Hid.mk' hM
            clear hM
            have HF := Hid.mk' (show fint (floatOfInt .f64 a) = a ∧ fint (floatOfInt .f64 b) = b ∧ fint (floatOfInt .f64 c) = c ∧ fint (floatOfInt .f64 d) = d from ⟨fint_fw (by have := HR.out; omega), fint_fw (by have := HR.out; omega), fint_fw (by have := HR.out; omega), fint_fw (by have := HR.out; omega)⟩)
            go_upto_region 11 with (go_at_call 17; refine (times_any _ _ _ _ _ _ _ _ _ _ (fw_lt _) (fw_lt _) (fw_lt _) (fw_lt _)).mono ?_; unfold TimesPost; rw [HT.out, HF.out.1, HF.out.2.1, HF.out.2.2.1, HF.out.2.2.2]; rintro e w5 ⟨px, py, rfl, hp1, hp2, hb5⟩; have HP1 := Hid.mk' hp1; have HP2 := Hid.mk' hp2; have h1' : Blk w5 _ _ _ := hB1.ext (by (repeat (with_reducible (first | exact Ext.refl _ | assumption | exact held_left (by assumption) | apply Ext.drewN | apply Ext.drew | apply Ext.alloc | (refine Ext.setCell ?_ (by first | (simp; done) | (simp; omega) | omega) _) | (refine Ext.trans ?_ (by assumption)) | (refine Ext.trans ?_ (held_left (by assumption))))))); have h2' : Blk w5 _ _ _ := hB2.ext (by (repeat (with_reducible (first | exact Ext.refl _ | assumption | exact held_left (by assumption) | apply Ext.drewN | apply Ext.drew | apply Ext.alloc | (refine Ext.setCell ?_ (by first | (simp; done) | (simp; omega) | omega) _) | (refine Ext.trans ?_ (by assumption)) | (refine Ext.trans ?_ (held_left (by assumption))))))); have HE5 := Hid.mk' (Ext.trans HEw.out (by (repeat (with_reducible (first | exact Ext.refl _ | assumption | exact held_left (by assumption) | apply Ext.drewN | apply Ext.drew | apply Ext.alloc | (refine Ext.setCell ?_ (by first | (simp; done) | (simp; omega) | omega) _) | (refine Ext.trans ?_ (by assumption)) | (refine Ext.trans ?_ (held_left (by assumption))))))) : Ext w w5); clear hp1 hp2 hB1 hB2 hb5 k1 k2 z1 z2; have k1 := h1'.cell; have k2 := h2'.cell; have z1 := h1'.lt; have z2 := h2'.lt)
            go_cut [16] (fun v wx => v = .bool M ∧ wx = w5)
            case first =>
              as_aux_lemma =>
                go_wp2_with (fail)
                all_goals (go_meet; case rel => exact ⟨(by first | exact congrArg Value.bool (HM.out.trans (decide_eq_true (p := mayT a b c d) (by unfold mayT; omega))).symm | exact congrArg Value.bool (HM.out.trans (decide_eq_false (p := mayT a b c d) (by unfold mayT; omega))).symm | exact congrArg Value.bool ((decide_eq_decide.2 (by unfold mayT; omega)).trans HM.out.symm)), rfl⟩)
            case rest =>
              as_aux_lemma =>
                obtain ⟨rfl, rfl⟩ := hcut
                obtain ⟨W1, W2, hW⟩ : ∃ W1 W2, Hid ((M = false → W1 = 0 ∧ W2 = 0) ∧ (M = true → W1 = floatOfInt .f64 (a * c - b * d) ∧ W2 = floatOfInt .f64 (a * d + b * c))) := by
                  cases M
                  · exact ⟨0, 0, fun _ => ⟨rfl, rfl⟩, fun h => absurd h (by decide)⟩
                  · exact ⟨_, _, fun h => absurd h (by decide), fun _ => ⟨rfl, rfl⟩⟩
                go_upto_if 159 with (fail)
                go_cut [15, 16, 17] (fun v15 v16 v wx => v15 = .bool M ∧ v16 = .bool M ∧ v = .complex .f64 W1 W2 ∧ wx = wc)
                case first =>
                  as_aux_lemma =>
                    cases M
                    · obtain ⟨e1, e2⟩ := hW.out.1 rfl
                      go_wp2_with (fail)
                      go_meet
                      case rel => exact ⟨rfl, rfl, by rw [e1, e2], rfl⟩
                    · obtain ⟨e1, e2⟩ := hW.out.2 rfl
                      have hm : mayT a b c d := of_decide_eq_true HM.out.symm
                      have m1 := times_small ⟨hm.1, hm.2.1⟩ ⟨hm.2.2.2.2.1, hm.2.2.2.2.2.1⟩
                      have m2 := times_small ⟨hm.2.2.1, hm.2.2.2.1⟩ ⟨hm.2.2.2.2.2.2.1, hm.2.2.2.2.2.2.2⟩
                      have m3 := times_small ⟨hm.1, hm.2.1⟩ ⟨hm.2.2.2.2.2.2.1, hm.2.2.2.2.2.2.2⟩
                      have m4 := times_small ⟨hm.2.2.1, hm.2.2.2.1⟩ ⟨hm.2.2.2.2.1, hm.2.2.2.2.2.1⟩
                      have m1' := Int.ofNat_lt.2 m1
                      have q1 : wrap64 (a * c) = a * c := wrap64_small (by omega)
                      have q2 : wrap64 (b * d) = b * d := wrap64_small (by omega)
                      have q3 : wrap64 (a * d) = a * d := wrap64_small (by omega)
                      have q4 : wrap64 (b * c) = b * c := wrap64_small (by omega)
                      have q5 : wrap64 (a * c - b * d) = a * c - b * d := wrap64_small (by omega)
                      have q6 : wrap64 (a * d + b * c) = a * d + b * c := wrap64_small (by omega)
                      have HE := Hid.mk' e1
                      have HE2 := Hid.mk' e2
                      clear e1 e2 hm m1 m2 m3 m4 m1'
                      go_wp2_with (fail)
                      go_meet
                      case rel => exact ⟨rfl, rfl, by rw [HE.out, HE2.out], rfl⟩
                case rest =>
                  as_aux_lemma =>
                    obtain ⟨rfl, rfl, rfl, rfl⟩ := hcut
                    obtain ⟨D, hD⟩ : ∃ D, D = (whB x 1024 && whB y 1024) := ⟨_, rfl⟩
                    have hD2 : timesB 4607182418800017408 0 x y = D := by
                      have w1 := whB_of (B := 1099511627776) fi1 (by decide) (by decide)
                      have w0 := whB_of (B := 1099511627776) fi_zero (by decide) (by decide)
                      unfold timesB; rw [w1, w0, hD]; simp
                    have HD := Hid.mk' hD
                    have HD2 := Hid.mk' hD2
                    clear hD hD2
                    have F1 := fint_eq fi1
                    have F0 := fint_eq fi_zero
                    have HFI := Hid.mk' (And.intro F1 F0)
                    clear F1 F0
                    have hEq : (FloatKind.f64.format.order px W1 == some .eq) = true ∧ (FloatKind.f64.format.order py W2 == some .eq) = true := by
                      cases M
                      · obtain ⟨e1, e2⟩ := hW.out.1 rfl
                        obtain ⟨e3, e4⟩ := HP2.out rfl
                        subst e1 e2 e3 e4
                        exact ⟨by decide +kernel, by decide +kernel⟩
                      · obtain ⟨e1, e2⟩ := hW.out.2 rfl
                        have hp := HP1.out rfl
                        have hm : mayT a b c d := of_decide_eq_true HM.out.symm
                        have m1 := times_small ⟨hm.1, hm.2.1⟩ ⟨hm.2.2.2.2.1, hm.2.2.2.2.2.1⟩
                        have m2 := times_small ⟨hm.2.2.1, hm.2.2.2.1⟩ ⟨hm.2.2.2.2.2.2.1, hm.2.2.2.2.2.2.2⟩
                        have m3 := times_small ⟨hm.1, hm.2.1⟩ ⟨hm.2.2.2.2.2.2.1, hm.2.2.2.2.2.2.2⟩
                        have m4 := times_small ⟨hm.2.2.1, hm.2.2.2.1⟩ ⟨hm.2.2.2.2.1, hm.2.2.2.2.2.1⟩
                        rw [e1, e2]
                        exact ⟨(fi_eql hp.fx (Fl.FI.fw _ (by omega))).trans (by simp), (fi_eql hp.fy (Fl.FI.fw _ (by omega))).trans (by simp)⟩
                    obtain ⟨E1, E2⟩ := hEq
                    clear HP1 HP2 hW HM HT HF
                    go_upto_region 18 with (go_at_call 17; refine (times_any _ _ _ _ _ _ _ _ _ _ (Hid.mk' (by decide)) (Hid.mk' (by decide)) hx hy).mono ?_; unfold TimesPost; rw [HD2.out, HFI.out.1, HFI.out.2]; rintro e w6 ⟨qx, qy, rfl, hq1, hq2, hb6⟩; have HQ1 := Hid.mk' hq1; have HQ2 := Hid.mk' hq2; have HE6 := Hid.mk' (Ext.trans HE5.out (by (repeat (with_reducible (first | exact Ext.refl _ | assumption | exact held_left (by assumption) | apply Ext.drewN | apply Ext.drew | apply Ext.alloc | (refine Ext.setCell ?_ (by first | (simp; done) | (simp; omega) | omega) _) | (refine Ext.trans ?_ (by assumption)) | (refine Ext.trans ?_ (held_left (by assumption))))))) : Ext w w6); clear hq1 hq2 hb6)
                    go_cut [9, 11, 20] (fun v9 v11 v wx => v9 = .bool A ∧ v11 = .bool B ∧ v = .bool D ∧ wx = w6)
                    case first =>
                      as_aux_lemma =>
                        cases A
                        · have hD0 : D = false := by rw [HD.out]; rw [show whB x 1024 = false from Bool.eq_false_iff.2 fun h => absurd (HA.out.trans (whB_mono (by decide) h)) (by decide), Bool.false_and]
                          subst hD0
                          go_wp2_with (fail)
                          all_goals (go_meet; case rel => exact ⟨rfl, by simp_all, by simp_all, rfl⟩)
                        · cases B
                          · have hD0 : D = false := by rw [HD.out]; rw [show whB y 1024 = false from Bool.eq_false_iff.2 fun h => absurd (HB.out.trans (whB_mono (by decide) h)) (by decide), Bool.and_false]
                            subst hD0
                            go_wp2_with (fail)
                            all_goals (go_meet; case rel => exact ⟨rfl, rfl, by simp_all, rfl⟩)
                          · have g1 := ge_1024 HA.out.symm
                            have g2 := le_1024 HA.out.symm
                            have g3 := ge_1024 HB.out.symm
                            have g4 := le_1024 HB.out.symm
                            have hD1 : D = decide (-1024 ≤ fint x ∧ fint x ≤ 1024 ∧ -1024 ≤ fint y ∧ fint y ≤ 1024) := by
                              rw [HD.out, whB_in HA.out.symm, whB_in HB.out.symm, ← Bool.decide_and]; exact decide_eq_decide.2 (by omega)
                            generalize fint x = X at *
                            generalize fint y = Y at *
                            have HD1 := Hid.mk' hD1
                            clear hD1
                            as_aux_lemma =>
                              go_wp2_with (fail)
                              all_goals (go_meet; case rel => exact ⟨rfl, rfl, (by first | exact congrArg Value.bool (HD1.out.trans (decide_eq_true (by omega))).symm | exact congrArg Value.bool (HD1.out.trans (decide_eq_false (by omega))).symm | exact congrArg Value.bool ((decide_eq_decide.2 (by omega)).trans HD1.out.symm)), rfl⟩)
                    case rest =>
                      as_aux_lemma =>
                        obtain ⟨rfl, rfl, rfl, rfl⟩ := hcut
                        have hx1 := HE6.out
                        cases D
                        · obtain ⟨rfl, rfl⟩ := HQ2.out rfl
                          have E3 : (FloatKind.f64.format.order 0 0 == some .eq) = true := by decide +kernel
                          go_wp2_with (go_at_call 18; refine (awake23_any _).mono ?_; rintro e w12 ⟨rfl, hb12⟩)
                          go_ret
                          exact ⟨rfl, by (repeat (with_reducible (first | exact Ext.refl _ | assumption | exact held_left (by assumption) | apply Ext.drewN | apply Ext.drew | apply Ext.alloc | (refine Ext.setCell ?_ (by first | (simp; done) | (simp; omega) | omega) _) | (refine Ext.trans ?_ (by assumption)) | (refine Ext.trans ?_ (held_left (by assumption))))))⟩
                        · have hq := HQ1.out rfl
                          have hd := Bool.and_eq_true_iff.1 HD.out.symm
                          have E3 : (FloatKind.f64.format.order qx x == some .eq) = true := (fi_eql hq.fx (whB_fint hd.1).1).trans (by simp)
                          have E4 : (FloatKind.f64.format.order qy y == some .eq) = true := (fi_eql hq.fy (whB_fint hd.2).1).trans (by simp)
                          clear hq hd
                          go_wp2_with (go_at_call 18; refine (awake23_any _).mono ?_; rintro e w12 ⟨rfl, hb12⟩)
                          go_ret
                          exact ⟨rfl, by (repeat (with_reducible (first | exact Ext.refl _ | assumption | exact held_left (by assumption) | apply Ext.drewN | apply Ext.drew | apply Ext.alloc | (refine Ext.setCell ?_ (by first | (simp; done) | (simp; omega) | omega) _) | (refine Ext.trans ?_ (by assumption)) | (refine Ext.trans ?_ (held_left (by assumption))))))⟩
end Go.Proofs.Ytkofnmbkfaebcaa
