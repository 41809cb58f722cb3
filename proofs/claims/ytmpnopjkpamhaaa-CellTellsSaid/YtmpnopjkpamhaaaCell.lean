/-
The program's cell: texty, typed, Of, Large, Alike, Right.
-/
import Derived.Test.YtmpnopjkpamhaaaCellP
namespace Go.Proofs.Ytmpnopjkpamhaaa
open Go.RowKit

set_option maxRecDepth 20000 in set_option maxHeartbeats 400000 in
theorem texty_yes (kind : Int) (w : World) (h : kind = 5 ∨ kind = 6) : Calls Try.prog 28 #[.int .u8 kind] w fun e w' => e = .returned (.bool true) ∧ w = w' := by
  rcases h with rfl | rfl
  all_goals
    go_enter Try.func28, Try.ntmps28
    go_wp2
    go_ret
    exact ⟨rfl, rfl⟩
set_option maxRecDepth 20000 in set_option maxHeartbeats 400000 in
theorem texty_no (kind : Int) (w : World) (h : kind ≠ 5 ∧ kind ≠ 6) : Calls Try.prog 28 #[.int .u8 kind] w fun e w' => e = .returned (.bool false) ∧ w = w' := by
  have h5 : (kind == 5) = false := by simpa using h.1
  have h6 : (kind == 6) = false := by simpa using h.2
  clear h
  go_enter Try.func28, Try.ntmps28
  go_wp2
  go_ret
  exact ⟨rfl, rfl⟩
set_option maxRecDepth 20000 in set_option maxHeartbeats 400000 in
theorem typed_yes (kind : Int) (w : World) (h1 : 1 ≤ kind) (h2 : kind ≤ 6) : Calls Try.prog 37 #[.int .u8 kind] w fun e w' => e = .returned (.bool true) ∧ w = w' := by
  go_enter Try.func37, Try.ntmps37
  go_wp2
  go_ret
  exact ⟨ret_bool (by first | (simp; done) | (simp; omega)), rfl⟩
set_option maxRecDepth 20000 in set_option maxHeartbeats 400000 in
theorem typed_no (kind : Int) (w : World) (h : kind < 1 ∨ 6 < kind) : Calls Try.prog 37 #[.int .u8 kind] w fun e w' => e = .returned (.bool false) ∧ w = w' := by
  go_enter Try.func37, Try.ntmps37
  go_wp2
  all_goals
    go_ret
    exact ⟨ret_bool (by first | (simp; done) | (simp; omega)), rfl⟩

set_option maxRecDepth 100000 in set_option maxHeartbeats 1600000 in
theorem cof_any (ty n : Int) (x y : Nat) (s : ByteArray) (w : World) :
    Calls Try.prog 18 #[.agg #[.int .u8 ty, .int .i64 n, .complex .f64 x y, .string s]] w fun e w' =>
      e = .returned (.agg #[.int .u8 2, .int .u8 ty, .int .i64 n, .complex .f64 x y, .string s]) ∧ Ext w w' := by
  go_enter Try.func18, Try.ntmps18
  go_wp2
  simp [bodyPost, results, Try.results18, go_sem]
  (repeat (with_reducible (first | exact Ext.refl _ | assumption | exact held_left (by assumption) | apply Ext.drewN | apply Ext.drew | apply Ext.alloc | (refine Ext.setCell ?_ (by first | (simp; done) | (simp; omega) | omega) _) | (refine Ext.trans ?_ (by assumption)) | (refine Ext.trans ?_ (held_left (by assumption))))))

set_option maxRecDepth 100000 in set_option maxHeartbeats 1600000 in
theorem clarge_any (k ty n : Int) (x y : Nat) (s : ByteArray) (w : World) :
    Calls Try.prog 14 #[.agg #[.int .u8 k, .int .u8 ty, .int .i64 n, .complex .f64 x y, .string s]] w fun e w' => e = .returned (.bool (largeB k ty s)) ∧ Ext w w' := by
  by_cases hk : k = 2
  · subst hk
    by_cases ht : ty = 5 ∨ ty = 6
    · have hL : Hid (largeB 2 ty s = decide (64 < s.size)) := Hid.mk' (by unfold largeB; exact decide_eq_decide.2 ⟨fun h => h.2.2, fun h => ⟨rfl, ht, h⟩⟩)
      have HT := Hid.mk' (fun w => texty_yes ty w ht)
      clear ht
      go_enter Try.func14, Try.ntmps14
      go_wp2_with (go_at_call 28; refine (HT.out _).mono ?_; rintro e w1 ⟨rfl, rfl⟩)
      go_ret
      exact ⟨ret_bool (by rw [hL.out]; first | rfl | (apply decide_eq_decide.2; omega)), by (repeat (with_reducible (first | exact Ext.refl _ | assumption | exact held_left (by assumption) | apply Ext.drewN | apply Ext.drew | apply Ext.alloc | (refine Ext.setCell ?_ (by first | (simp; done) | (simp; omega) | omega) _) | (refine Ext.trans ?_ (by assumption)) | (refine Ext.trans ?_ (held_left (by assumption))))))⟩
    · have hL : Hid (largeB 2 ty s = false) := Hid.mk' (by unfold largeB; rw [decide_eq_false_iff_not]; exact fun h => ht h.2.1)
      have HT := Hid.mk' (fun w => texty_no ty w (by omega))
      clear ht
      go_enter Try.func14, Try.ntmps14
      go_wp2_with (go_at_call 28; refine (HT.out _).mono ?_; rintro e w1 ⟨rfl, rfl⟩)
      go_ret
      exact ⟨ret_bool hL.out.symm, by (repeat (with_reducible (first | exact Ext.refl _ | assumption | exact held_left (by assumption) | apply Ext.drewN | apply Ext.drew | apply Ext.alloc | (refine Ext.setCell ?_ (by first | (simp; done) | (simp; omega) | omega) _) | (refine Ext.trans ?_ (by assumption)) | (refine Ext.trans ?_ (held_left (by assumption))))))⟩
  · have hL : Hid (largeB k ty s = false) := Hid.mk' (by unfold largeB; rw [decide_eq_false_iff_not]; exact fun h => hk h.1)
    have hk2 : (k == 2) = false := by simpa using hk
    clear hk
    go_enter Try.func14, Try.ntmps14
    go_wp2
    go_ret
    exact ⟨ret_bool hL.out.symm, by (repeat (with_reducible (first | exact Ext.refl _ | assumption | exact held_left (by assumption) | apply Ext.drewN | apply Ext.drew | apply Ext.alloc | (refine Ext.setCell ?_ (by first | (simp; done) | (simp; omega) | omega) _) | (refine Ext.trans ?_ (by assumption)) | (refine Ext.trans ?_ (held_left (by assumption))))))⟩

/-- Are two cells alike? -/
def alikeB (k ty n : Int) (x y : Nat) (s : ByteArray) (k' ty' n' : Int) (x' y' : Nat) (s' : ByteArray) : Bool := decide (k = k' ∧ ty = ty' ∧ n = n' ∧ x = x' ∧ y = y' ∧ s = s')
theorem alike_same {k ty n : Int} {x y : Nat} {s : ByteArray} {ty' n' : Int} {x' y' : Nat} {s' : ByteArray} : alikeB k ty n x y s k ty' n' x' y' s' = sameB ty n x y s ty' n' x' y' s' := by
  unfold alikeB sameB; exact decide_eq_decide.2 ⟨fun h => h.2, fun h => ⟨rfl, h⟩⟩

set_option maxRecDepth 100000 in set_option maxHeartbeats 1600000 in
theorem calike_any (k ty n : Int) (x y : Nat) (s : ByteArray) (k' ty' n' : Int) (x' y' : Nat) (s' : ByteArray) (w : World) :
    Calls Try.prog 16 #[.agg #[.int .u8 k, .int .u8 ty, .int .i64 n, .complex .f64 x y, .string s], .agg #[.int .u8 k', .int .u8 ty', .int .i64 n', .complex .f64 x' y', .string s']] w fun e w' =>
      e = .returned (.bool (alikeB k ty n x y s k' ty' n' x' y' s')) ∧ Ext w w' := by
  by_cases hk : k = k'
  · subst hk
    have HS := Hid.mk' (fun w => vsame_any ty n x y s ty' n' x' y' s' w)
    go_enter Try.func16, Try.ntmps16
    go_wp2_with (go_at_call 38; refine (HS.out _).mono ?_; rintro e w1 ⟨rfl, hb1⟩)
    go_ret
    exact ⟨ret_bool (by rw [alike_same]), by (repeat (with_reducible (first | exact Ext.refl _ | assumption | exact held_left (by assumption) | apply Ext.drewN | apply Ext.drew | apply Ext.alloc | (refine Ext.setCell ?_ (by first | (simp; done) | (simp; omega) | omega) _) | (refine Ext.trans ?_ (by assumption)) | (refine Ext.trans ?_ (held_left (by assumption))))))⟩
  · have hL : Hid (alikeB k ty n x y s k' ty' n' x' y' s' = false) := Hid.mk' (by unfold alikeB; rw [decide_eq_false_iff_not]; exact fun h => hk h.1)
    have hk2 : (k == k') = false := by simpa using hk
    clear hk
    go_enter Try.func16, Try.ntmps16
    go_wp2
    go_ret
    exact ⟨ret_bool hL.out.symm, by (repeat (with_reducible (first | exact Ext.refl _ | assumption | exact held_left (by assumption) | apply Ext.drewN | apply Ext.drew | apply Ext.alloc | (refine Ext.setCell ?_ (by first | (simp; done) | (simp; omega) | omega) _) | (refine Ext.trans ?_ (by assumption)) | (refine Ext.trans ?_ (held_left (by assumption))))))⟩

theorem same_zero {ty n : Int} {x y : Nat} {s : ByteArray} : sameB ty n x y s 0 0 0 0 ByteArray.empty = decide (ty = 0 ∧ n = 0 ∧ (x : Int) = 0 ∧ (y : Int) = 0 ∧ s.size = 0) := by
  unfold sameB; exact decide_eq_decide.2 ⟨fun h => ⟨h.1, h.2.1, by omega, by omega, (size_zero s).1 h.2.2.2.2⟩, fun h => ⟨h.1, h.2.1, by omega, by omega, (size_zero s).2 h.2.2.2.2⟩⟩

set_option maxRecDepth 100000 in set_option maxHeartbeats 1600000 in
theorem cright_any (k ty n : Int) (x y : Nat) (s : ByteArray) (kind : Int) (w : World) (hk0 : 0 ≤ k) (hs : s.size ≤ 9223372036854775807) :
    Calls Try.prog 13 #[.agg #[.int .u8 k, .int .u8 ty, .int .i64 n, .complex .f64 x y, .string s], .int .u8 kind] w fun e w' => e = .returned (.int .i64 (rightC k ty n x y s kind)) ∧ Ext w w' := by
  have HV := Hid.mk' (fun w => vright_any ty n x y s w hs)
  have HSa := Hid.mk' (fun w => vsame_any ty n x y s 0 0 0 0 ByteArray.empty w)
  rw [same_zero] at HSa
  by_cases hkd : kind < 1 ∨ 6 < kind
  · have HR : Hid (rightC k ty n x y s kind = 11) := Hid.mk' (by unfold rightC; rw [if_pos hkd])
    have HT := Hid.mk' (fun w => typed_no kind w hkd)
    clear hkd
    go_enter Try.func13, Try.ntmps13
    go_wp2_with (go_at_call 37; refine (HT.out _).mono ?_; rintro e w1 ⟨rfl, rfl⟩)
    go_ret
    exact ⟨ret_int HR.out.symm, by (repeat (with_reducible (first | exact Ext.refl _ | assumption | exact held_left (by assumption) | apply Ext.drewN | apply Ext.drew | apply Ext.alloc | (refine Ext.setCell ?_ (by first | (simp; done) | (simp; omega) | omega) _) | (refine Ext.trans ?_ (by assumption)) | (refine Ext.trans ?_ (held_left (by assumption))))))⟩
  have HT := Hid.mk' (fun w => typed_yes kind w (by omega) (by omega))
  by_cases hk2 : 2 < k
  · have HR : Hid (rightC k ty n x y s kind = 7) := Hid.mk' (by unfold rightC; rw [if_neg hkd, if_pos hk2])
    clear hkd
    go_enter Try.func13, Try.ntmps13
    go_wp2_with (go_at_call 37; refine (HT.out _).mono ?_; rintro e w1 ⟨rfl, rfl⟩)
    go_ret
    exact ⟨ret_int HR.out.symm, by (repeat (with_reducible (first | exact Ext.refl _ | assumption | exact held_left (by assumption) | apply Ext.drewN | apply Ext.drew | apply Ext.alloc | (refine Ext.setCell ?_ (by first | (simp; done) | (simp; omega) | omega) _) | (refine Ext.trans ?_ (by assumption)) | (refine Ext.trans ?_ (held_left (by assumption))))))⟩
  by_cases hk3 : k < 2
  · by_cases hz : ty = 0 ∧ n = 0 ∧ (x : Int) = 0 ∧ (y : Int) = 0 ∧ s.size = 0
    · rw [decide_eq_true hz] at HSa
      by_cases h1 : k = 1
      · subst h1
        by_cases ht : kind = 5 ∨ kind = 6
        · have HR : Hid (rightC 1 ty n x y s kind = 0) := Hid.mk' (by unfold rightC; rw [if_neg hkd, if_neg hk2, if_pos hk3, if_pos hz, if_neg (by omega)])
          have HX := Hid.mk' (fun w => texty_yes kind w ht)
          clear hkd hz ht
          go_enter Try.func13, Try.ntmps13
          go_wp2_with (first
            | (go_at_call 37; refine (HT.out _).mono ?_; rintro e w1 ⟨rfl, rfl⟩)
            | (go_at_call 38; refine (HSa.out _).mono ?_; rintro e w1 ⟨rfl, hb1⟩; have h1 := (Blk.new w #[.int .u8 1, .int .u8 ty, .int .i64 n, .complex .f64 x y, .string s] 37).ext hb1; have k1 := h1.cell; have z1 := h1.lt)
            | (go_at_call 28; refine (HX.out _).mono ?_; rintro e w1 ⟨rfl, rfl⟩))
          go_ret
          exact ⟨ret_int HR.out.symm, by (repeat (with_reducible (first | exact Ext.refl _ | assumption | exact held_left (by assumption) | apply Ext.drewN | apply Ext.drew | apply Ext.alloc | (refine Ext.setCell ?_ (by first | (simp; done) | (simp; omega) | omega) _) | (refine Ext.trans ?_ (by assumption)) | (refine Ext.trans ?_ (held_left (by assumption))))))⟩
        · have HR : Hid (rightC 1 ty n x y s kind = 11) := Hid.mk' (by unfold rightC; rw [if_neg hkd, if_neg hk2, if_pos hk3, if_pos hz, if_pos (by omega)])
          have HX := Hid.mk' (fun w => texty_no kind w (by omega))
          clear hkd hz ht
          go_enter Try.func13, Try.ntmps13
          go_wp2_with (first
            | (go_at_call 37; refine (HT.out _).mono ?_; rintro e w1 ⟨rfl, rfl⟩)
            | (go_at_call 38; refine (HSa.out _).mono ?_; rintro e w1 ⟨rfl, hb1⟩; have h1 := (Blk.new w #[.int .u8 1, .int .u8 ty, .int .i64 n, .complex .f64 x y, .string s] 37).ext hb1; have k1 := h1.cell; have z1 := h1.lt)
            | (go_at_call 28; refine (HX.out _).mono ?_; rintro e w1 ⟨rfl, rfl⟩))
          go_ret
          exact ⟨ret_int HR.out.symm, by (repeat (with_reducible (first | exact Ext.refl _ | assumption | exact held_left (by assumption) | apply Ext.drewN | apply Ext.drew | apply Ext.alloc | (refine Ext.setCell ?_ (by first | (simp; done) | (simp; omega) | omega) _) | (refine Ext.trans ?_ (by assumption)) | (refine Ext.trans ?_ (held_left (by assumption))))))⟩
      · obtain rfl : k = 0 := by omega
        have HR : Hid (rightC 0 ty n x y s kind = 0) := Hid.mk' (by unfold rightC; rw [if_neg hkd, if_neg hk2, if_pos hk3, if_pos hz, if_neg (by omega)])
        clear hkd hz h1
        go_enter Try.func13, Try.ntmps13
        go_wp2_with (first
          | (go_at_call 37; refine (HT.out _).mono ?_; rintro e w1 ⟨rfl, rfl⟩)
          | (go_at_call 38; refine (HSa.out _).mono ?_; rintro e w1 ⟨rfl, hb1⟩; have h1 := (Blk.new w #[.int .u8 0, .int .u8 ty, .int .i64 n, .complex .f64 x y, .string s] 37).ext hb1; have k1 := h1.cell; have z1 := h1.lt))
        go_ret
        exact ⟨ret_int HR.out.symm, by (repeat (with_reducible (first | exact Ext.refl _ | assumption | exact held_left (by assumption) | apply Ext.drewN | apply Ext.drew | apply Ext.alloc | (refine Ext.setCell ?_ (by first | (simp; done) | (simp; omega) | omega) _) | (refine Ext.trans ?_ (by assumption)) | (refine Ext.trans ?_ (held_left (by assumption))))))⟩
    · rw [decide_eq_false hz] at HSa
      have HR : Hid (rightC k ty n x y s kind = 3) := Hid.mk' (by unfold rightC; rw [if_neg hkd, if_neg hk2, if_pos hk3, if_neg hz])
      have hkn : (k == 2) = false := by simp; omega
      have hkm : (k != 2) = true := by simp; omega
      clear hkd hz
      go_enter Try.func13, Try.ntmps13
      go_wp2_with (first
        | (go_at_call 37; refine (HT.out _).mono ?_; rintro e w1 ⟨rfl, rfl⟩)
        | (go_at_call 38; refine (HSa.out _).mono ?_; rintro e w1 ⟨rfl, hb1⟩; have h1 := (Blk.new w #[.int .u8 k, .int .u8 ty, .int .i64 n, .complex .f64 x y, .string s] 37).ext hb1; have k1 := h1.cell; have z1 := h1.lt))
      go_ret
      exact ⟨ret_int HR.out.symm, by (repeat (with_reducible (first | exact Ext.refl _ | assumption | exact held_left (by assumption) | apply Ext.drewN | apply Ext.drew | apply Ext.alloc | (refine Ext.setCell ?_ (by first | (simp; done) | (simp; omega) | omega) _) | (refine Ext.trans ?_ (by assumption)) | (refine Ext.trans ?_ (held_left (by assumption))))))⟩
  · obtain rfl : k = 2 := by omega
    obtain ⟨R, hR⟩ : ∃ R, R = rightV ty n x y s := ⟨_, rfl⟩
    rw [← hR] at HV
    by_cases h0 : R = 0
    · subst h0
      by_cases ht : ty = kind
      · have HR : Hid (rightC 2 ty n x y s kind = 0) := Hid.mk' (right_mk hR.symm ht)
        subst ht
        clear hkd hR
        go_enter Try.func13, Try.ntmps13
        go_wp2_with (first
          | (go_at_call 37; refine (HT.out _).mono ?_; rintro e w1 ⟨rfl, rfl⟩)
          | (go_at_call 39; refine (HV.out _).mono ?_; rintro e w1 ⟨rfl, hb1⟩; have h1 := (Blk.new w #[.int .u8 2, .int .u8 ty, .int .i64 n, .complex .f64 x y, .string s] 37).ext hb1; have k1 := h1.cell; have z1 := h1.lt))
        go_ret
        exact ⟨ret_int HR.out.symm, by (repeat (with_reducible (first | exact Ext.refl _ | assumption | exact held_left (by assumption) | apply Ext.drewN | apply Ext.drew | apply Ext.alloc | (refine Ext.setCell ?_ (by first | (simp; done) | (simp; omega) | omega) _) | (refine Ext.trans ?_ (by assumption)) | (refine Ext.trans ?_ (held_left (by assumption))))))⟩
      · have HR : Hid (rightC 2 ty n x y s kind = 11) := Hid.mk' (by unfold rightC; rw [if_neg hkd, if_neg hk2, if_neg hk3, if_neg (by rw [← hR]; decide), if_pos ht])
        have ht2 : (ty != kind) = true := by simpa using ht
        clear hkd hR ht
        go_enter Try.func13, Try.ntmps13
        go_wp2_with (first
          | (go_at_call 37; refine (HT.out _).mono ?_; rintro e w1 ⟨rfl, rfl⟩)
          | (go_at_call 39; refine (HV.out _).mono ?_; rintro e w1 ⟨rfl, hb1⟩; have h1 := (Blk.new w #[.int .u8 2, .int .u8 ty, .int .i64 n, .complex .f64 x y, .string s] 37).ext hb1; have k1 := h1.cell; have z1 := h1.lt))
        go_ret
        exact ⟨ret_int HR.out.symm, by (repeat (with_reducible (first | exact Ext.refl _ | assumption | exact held_left (by assumption) | apply Ext.drewN | apply Ext.drew | apply Ext.alloc | (refine Ext.setCell ?_ (by first | (simp; done) | (simp; omega) | omega) _) | (refine Ext.trans ?_ (by assumption)) | (refine Ext.trans ?_ (held_left (by assumption))))))⟩
    · have HR : Hid (rightC 2 ty n x y s kind = R) := Hid.mk' (by unfold rightC; rw [if_neg hkd, if_neg hk2, if_neg hk3, if_pos (by rw [← hR]; exact h0), hR])
      have h02 : (R != 0) = true := by simpa using h0
      clear hkd hR h0
      go_enter Try.func13, Try.ntmps13
      go_wp2_with (first
        | (go_at_call 37; refine (HT.out _).mono ?_; rintro e w1 ⟨rfl, rfl⟩)
        | (go_at_call 39; refine (HV.out _).mono ?_; rintro e w1 ⟨rfl, hb1⟩; have h1 := (Blk.new w #[.int .u8 2, .int .u8 ty, .int .i64 n, .complex .f64 x y, .string s] 37).ext hb1; have k1 := h1.cell; have z1 := h1.lt))
      go_ret
      exact ⟨ret_int HR.out.symm, by (repeat (with_reducible (first | exact Ext.refl _ | assumption | exact held_left (by assumption) | apply Ext.drewN | apply Ext.drew | apply Ext.alloc | (refine Ext.setCell ?_ (by first | (simp; done) | (simp; omega) | omega) _) | (refine Ext.trans ?_ (by assumption)) | (refine Ext.trans ?_ (held_left (by assumption))))))⟩

end Go.Proofs.Ytmpnopjkpamhaaa
