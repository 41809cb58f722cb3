/-
A value, in plain words.
-/
import Derived.Deep.RegionHeld
import Derived.Test.YthdjinicmnhgpaaP8
namespace Go.Proofs.Ythdjinicmnhgpaa
open Go.RowKit

/-- A value. -/
structure V where
  ty : Int
  n : Int
  x : Nat
  y : Nat
  s : ByteArray
def V.zero : V := ⟨0, 0, 0, 0, ByteArray.empty⟩
def V.right (v : V) : Int := rightV v.ty v.n v.x v.y v.s
def V.wf (v : V) : Prop := (-9223372036854775808 ≤ v.n ∧ v.n < 9223372036854775808) ∧ v.x < 2 ^ 64 ∧ v.y < 2 ^ 64

theorem right_zero {ty n x y : Int} {s : ByteArray} (h : rightV ty n x y s = 0) : 1 ≤ ty ∧ ty ≤ 6 ∧ s.size ≤ 2048 ∧ (ty = 1 → n = 0 ∨ n = 1) ∧ (2 < ty → n = 0) ∧ (ty ≠ 3 → ty ≠ 4 → x = 0) ∧ (ty ≠ 4 → y = 0) ∧ (ty < 5 → s.size = 0) ∧ (ty = 5 → plainB s = true) := by
  unfold rightV at h
  (repeat' split at h) <;> first | (exfalso; omega) | skip
  rename_i h1 h2 h3 h4 h5
  refine ⟨by omega, by omega, by omega, by omega, by omega, by omega, by omega, by omega, ?_⟩
  intro h6
  cases hp : plainB s
  · exact absurd ⟨h6, hp⟩ h5
  · rfl

end Go.Proofs.Ythdjinicmnhgpaa

/-
A cell, in plain words: what is wrong with one.
-/
namespace Go.Proofs.Ythdjinicmnhgpaa
open Go.RowKit

/-- What is wrong with a cell in a column. -/
def rightC (k ty n x y : Int) (s : ByteArray) (kind : Int) : Int :=
  if kind < 1 ∨ 6 < kind then 11 else if 2 < k then 7
  else if k < 2 then (if ty = 0 ∧ n = 0 ∧ x = 0 ∧ y = 0 ∧ s.size = 0 then (if k = 1 ∧ kind ≠ 5 ∧ kind ≠ 6 then 11 else 0) else 3)
  else if rightV ty n x y s ≠ 0 then rightV ty n x y s else if ty ≠ kind then 11 else 0
def largeB (k ty : Int) (s : ByteArray) : Bool := decide (k = 2 ∧ (ty = 5 ∨ ty = 6) ∧ 64 < s.size)
/-- A cell. -/
structure K where
  k : Int
  v : V
def K.zero : K := ⟨0, V.zero⟩
def K.right (c : K) (kind : Int) : Int := rightC c.k c.v.ty c.v.n c.v.x c.v.y c.v.s kind
theorem right_same {k ty n x y : Int} {s : ByteArray} {kind : Int} (hk : k < 2) (h : rightC k ty n x y s kind = 0) : ty = 0 ∧ n = 0 ∧ x = 0 ∧ y = 0 ∧ s.size = 0 ∧ (k = 1 → kind = 5 ∨ kind = 6) := by
  unfold rightC at h
  (repeat' split at h) <;> first | omega | (exfalso; omega)
theorem right_full {ty n x y : Int} {s : ByteArray} {kind : Int} (h : rightC 2 ty n x y s kind = 0) : rightV ty n x y s = 0 ∧ ty = kind := by
  unfold rightC at h
  (repeat' split at h) <;> first | omega | (exfalso; omega)
theorem right_mk {ty n x y : Int} {s : ByteArray} {kind : Int} (h : rightV ty n x y s = 0) (hk : ty = kind) : rightC 2 ty n x y s kind = 0 := by
  have := right_zero h
  unfold rightC
  (repeat' split) <;> first | rfl | omega | (exfalso; omega)

end Go.Proofs.Ythdjinicmnhgpaa

/-
The program's cell: texty, typed, Alike, Right.
-/
namespace Go.Proofs.Ythdjinicmnhgpaa
open Go.RowKit

set_option maxRecDepth 20000 in set_option maxHeartbeats 400000 in
theorem texty_yes (kind : Int) (w : World) (h : kind = 5 ∨ kind = 6) : Calls Try.prog 143 #[.int .u8 kind] w fun e w' => e = .returned (.bool true) ∧ w = w' := by
  rcases h with rfl | rfl
  all_goals
    go_enter Try.func143, Try.ntmps143
    go_wp2
    go_ret
    exact ⟨rfl, rfl⟩
set_option maxRecDepth 20000 in set_option maxHeartbeats 400000 in
theorem texty_no (kind : Int) (w : World) (h : kind ≠ 5 ∧ kind ≠ 6) : Calls Try.prog 143 #[.int .u8 kind] w fun e w' => e = .returned (.bool false) ∧ w = w' := by
  have h5 : (kind == 5) = false := by simpa using h.1
  have h6 : (kind == 6) = false := by simpa using h.2
  clear h
  go_enter Try.func143, Try.ntmps143
  go_wp2
  go_ret
  exact ⟨rfl, rfl⟩
set_option maxRecDepth 20000 in set_option maxHeartbeats 400000 in
theorem typed_yes (kind : Int) (w : World) (h1 : 1 ≤ kind) (h2 : kind ≤ 6) : Calls Try.prog 142 #[.int .u8 kind] w fun e w' => e = .returned (.bool true) ∧ w = w' := by
  go_enter Try.func142, Try.ntmps142
  go_wp2
  go_ret
  exact ⟨ret_bool (by first | (simp; done) | (simp; omega)), rfl⟩
set_option maxRecDepth 20000 in set_option maxHeartbeats 400000 in
theorem typed_no (kind : Int) (w : World) (h : kind < 1 ∨ 6 < kind) : Calls Try.prog 142 #[.int .u8 kind] w fun e w' => e = .returned (.bool false) ∧ w = w' := by
  go_enter Try.func142, Try.ntmps142
  go_wp2
  all_goals
    go_ret
    exact ⟨ret_bool (by first | (simp; done) | (simp; omega)), rfl⟩

/-- Are two cells alike? -/
def alikeB (k ty n : Int) (x y : Nat) (s : ByteArray) (k' ty' n' : Int) (x' y' : Nat) (s' : ByteArray) : Bool := decide (k = k' ∧ ty = ty' ∧ n = n' ∧ x = x' ∧ y = y' ∧ s = s')
theorem alike_same {k ty n : Int} {x y : Nat} {s : ByteArray} {ty' n' : Int} {x' y' : Nat} {s' : ByteArray} : alikeB k ty n x y s k ty' n' x' y' s' = sameB ty n x y s ty' n' x' y' s' := by
  unfold alikeB sameB; exact decide_eq_decide.2 ⟨fun h => h.2, fun h => ⟨rfl, h⟩⟩

set_option maxRecDepth 100000 in set_option maxHeartbeats 1600000 in
theorem calike_any (k ty n : Int) (x y : Nat) (s : ByteArray) (k' ty' n' : Int) (x' y' : Nat) (s' : ByteArray) (w : World) :
    Calls Try.prog 102 #[.agg #[.int .u8 k, .int .u8 ty, .int .i64 n, .complex .f64 x y, .string s], .agg #[.int .u8 k', .int .u8 ty', .int .i64 n', .complex .f64 x' y', .string s']] w fun e w' =>
      e = .returned (.bool (alikeB k ty n x y s k' ty' n' x' y' s')) ∧ Ext w w' := by
  by_cases hk : k = k'
  · subst hk
    have HS := Hid.mk' (fun w => vsame_any ty n x y s ty' n' x' y' s' w)
    go_enter Try.func102, Try.ntmps102
    go_wp2_with (go_at_call 116; refine (HS.out _).mono ?_; rintro e w1 ⟨rfl, hb1⟩)
    go_ret
    exact ⟨ret_bool (by rw [alike_same]), by (repeat (with_reducible (first | exact Ext.refl _ | assumption | exact held_left (by assumption) | apply Ext.drewN | apply Ext.drew | apply Ext.alloc | (refine Ext.setCell ?_ (by first | (simp; done) | (simp; omega) | omega) _) | (refine Ext.trans ?_ (by assumption)) | (refine Ext.trans ?_ (held_left (by assumption))))))⟩
  · have hL : Hid (alikeB k ty n x y s k' ty' n' x' y' s' = false) := Hid.mk' (by unfold alikeB; rw [decide_eq_false_iff_not]; exact fun h => hk h.1)
    have hk2 : (k == k') = false := by simpa using hk
    clear hk
    go_enter Try.func102, Try.ntmps102
    go_wp2
    go_ret
    exact ⟨ret_bool hL.out.symm, by (repeat (with_reducible (first | exact Ext.refl _ | assumption | exact held_left (by assumption) | apply Ext.drewN | apply Ext.drew | apply Ext.alloc | (refine Ext.setCell ?_ (by first | (simp; done) | (simp; omega) | omega) _) | (refine Ext.trans ?_ (by assumption)) | (refine Ext.trans ?_ (held_left (by assumption))))))⟩

theorem same_zero {ty n : Int} {x y : Nat} {s : ByteArray} : sameB ty n x y s 0 0 0 0 ByteArray.empty = decide (ty = 0 ∧ n = 0 ∧ (x : Int) = 0 ∧ (y : Int) = 0 ∧ s.size = 0) := by
  unfold sameB; exact decide_eq_decide.2 ⟨fun h => ⟨h.1, h.2.1, by omega, by omega, (size_zero s).1 h.2.2.2.2⟩, fun h => ⟨h.1, h.2.1, by omega, by omega, (size_zero s).2 h.2.2.2.2⟩⟩

set_option maxRecDepth 100000 in set_option maxHeartbeats 1600000 in
theorem cright_any (k ty n : Int) (x y : Nat) (s : ByteArray) (kind : Int) (w : World) (hk0 : 0 ≤ k) (hs : s.size ≤ 9223372036854775807) :
    Calls Try.prog 133 #[.agg #[.int .u8 k, .int .u8 ty, .int .i64 n, .complex .f64 x y, .string s], .int .u8 kind] w fun e w' => e = .returned (.int .i64 (rightC k ty n x y s kind)) ∧ Ext w w' := by
  have HV := Hid.mk' (fun w => vright_any ty n x y s w hs)
  have HSa := Hid.mk' (fun w => vsame_any ty n x y s 0 0 0 0 ByteArray.empty w)
  rw [same_zero] at HSa
  by_cases hkd : kind < 1 ∨ 6 < kind
  · have HR : Hid (rightC k ty n x y s kind = 11) := Hid.mk' (by unfold rightC; rw [if_pos hkd])
    have HT := Hid.mk' (fun w => typed_no kind w hkd)
    clear hkd
    go_enter Try.func133, Try.ntmps133
    go_wp2_with (go_at_call 142; refine (HT.out _).mono ?_; rintro e w1 ⟨rfl, rfl⟩)
    go_ret
    exact ⟨ret_int HR.out.symm, by (repeat (with_reducible (first | exact Ext.refl _ | assumption | exact held_left (by assumption) | apply Ext.drewN | apply Ext.drew | apply Ext.alloc | (refine Ext.setCell ?_ (by first | (simp; done) | (simp; omega) | omega) _) | (refine Ext.trans ?_ (by assumption)) | (refine Ext.trans ?_ (held_left (by assumption))))))⟩
  have HT := Hid.mk' (fun w => typed_yes kind w (by omega) (by omega))
  by_cases hk2 : 2 < k
  · have HR : Hid (rightC k ty n x y s kind = 7) := Hid.mk' (by unfold rightC; rw [if_neg hkd, if_pos hk2])
    clear hkd
    go_enter Try.func133, Try.ntmps133
    go_wp2_with (go_at_call 142; refine (HT.out _).mono ?_; rintro e w1 ⟨rfl, rfl⟩)
    go_ret
    exact ⟨ret_int HR.out.symm, by (repeat (with_reducible (first | exact Ext.refl _ | assumption | exact held_left (by assumption) | apply Ext.drewN | apply Ext.drew | apply Ext.alloc | (refine Ext.setCell ?_ (by first | (simp; done) | (simp; omega) | omega) _) | (refine Ext.trans ?_ (by assumption)) | (refine Ext.trans ?_ (held_left (by assumption))))))⟩
  by_cases hk3 : k < 2
  · by_cases hz : ty = 0 ∧ n = 0 ∧ (x : Int) = 0 ∧ (y : Int) = 0 ∧ s.size = 0
    · rw [decide_eq_true hz] at HSa
      by_cases h1 : k = 1
      · subst h1
        by_cases ht : kind = 5 ∨ kind = 6
        · have HR : Hid (rightC 1 ty n x y s kind = 0) := Hid.mk' (by unfold rightC; rw [if_neg hkd, if_neg hk2, if_pos hk3, if_pos hz, if_neg (by omega)])
          have HX := Hid.mk' (fun w => texty_yes kind w ht)
          clear hkd hz ht
          go_enter Try.func133, Try.ntmps133
          go_wp2_with (first
            | (go_at_call 142; refine (HT.out _).mono ?_; rintro e w1 ⟨rfl, rfl⟩)
            | (go_at_call 116; refine (HSa.out _).mono ?_; rintro e w1 ⟨rfl, hb1⟩; have h1 := (Blk.new w #[.int .u8 1, .int .u8 ty, .int .i64 n, .complex .f64 x y, .string s] 98).ext hb1; have k1 := h1.cell; have z1 := h1.lt)
            | (go_at_call 143; refine (HX.out _).mono ?_; rintro e w1 ⟨rfl, rfl⟩))
          go_ret
          exact ⟨ret_int HR.out.symm, by (repeat (with_reducible (first | exact Ext.refl _ | assumption | exact held_left (by assumption) | apply Ext.drewN | apply Ext.drew | apply Ext.alloc | (refine Ext.setCell ?_ (by first | (simp; done) | (simp; omega) | omega) _) | (refine Ext.trans ?_ (by assumption)) | (refine Ext.trans ?_ (held_left (by assumption))))))⟩
        · have HR : Hid (rightC 1 ty n x y s kind = 11) := Hid.mk' (by unfold rightC; rw [if_neg hkd, if_neg hk2, if_pos hk3, if_pos hz, if_pos (by omega)])
          have HX := Hid.mk' (fun w => texty_no kind w (by omega))
          clear hkd hz ht
          go_enter Try.func133, Try.ntmps133
          go_wp2_with (first
            | (go_at_call 142; refine (HT.out _).mono ?_; rintro e w1 ⟨rfl, rfl⟩)
            | (go_at_call 116; refine (HSa.out _).mono ?_; rintro e w1 ⟨rfl, hb1⟩; have h1 := (Blk.new w #[.int .u8 1, .int .u8 ty, .int .i64 n, .complex .f64 x y, .string s] 98).ext hb1; have k1 := h1.cell; have z1 := h1.lt)
            | (go_at_call 143; refine (HX.out _).mono ?_; rintro e w1 ⟨rfl, rfl⟩))
          go_ret
          exact ⟨ret_int HR.out.symm, by (repeat (with_reducible (first | exact Ext.refl _ | assumption | exact held_left (by assumption) | apply Ext.drewN | apply Ext.drew | apply Ext.alloc | (refine Ext.setCell ?_ (by first | (simp; done) | (simp; omega) | omega) _) | (refine Ext.trans ?_ (by assumption)) | (refine Ext.trans ?_ (held_left (by assumption))))))⟩
      · obtain rfl : k = 0 := by omega
        have HR : Hid (rightC 0 ty n x y s kind = 0) := Hid.mk' (by unfold rightC; rw [if_neg hkd, if_neg hk2, if_pos hk3, if_pos hz, if_neg (by omega)])
        clear hkd hz h1
        go_enter Try.func133, Try.ntmps133
        go_wp2_with (first
          | (go_at_call 142; refine (HT.out _).mono ?_; rintro e w1 ⟨rfl, rfl⟩)
          | (go_at_call 116; refine (HSa.out _).mono ?_; rintro e w1 ⟨rfl, hb1⟩; have h1 := (Blk.new w #[.int .u8 0, .int .u8 ty, .int .i64 n, .complex .f64 x y, .string s] 98).ext hb1; have k1 := h1.cell; have z1 := h1.lt))
        go_ret
        exact ⟨ret_int HR.out.symm, by (repeat (with_reducible (first | exact Ext.refl _ | assumption | exact held_left (by assumption) | apply Ext.drewN | apply Ext.drew | apply Ext.alloc | (refine Ext.setCell ?_ (by first | (simp; done) | (simp; omega) | omega) _) | (refine Ext.trans ?_ (by assumption)) | (refine Ext.trans ?_ (held_left (by assumption))))))⟩
    · rw [decide_eq_false hz] at HSa
      have HR : Hid (rightC k ty n x y s kind = 3) := Hid.mk' (by unfold rightC; rw [if_neg hkd, if_neg hk2, if_pos hk3, if_neg hz])
      have hkn : (k == 2) = false := by simp; omega
      have hkm : (k != 2) = true := by simp; omega
      clear hkd hz
      go_enter Try.func133, Try.ntmps133
      go_wp2_with (first
        | (go_at_call 142; refine (HT.out _).mono ?_; rintro e w1 ⟨rfl, rfl⟩)
        | (go_at_call 116; refine (HSa.out _).mono ?_; rintro e w1 ⟨rfl, hb1⟩; have h1 := (Blk.new w #[.int .u8 k, .int .u8 ty, .int .i64 n, .complex .f64 x y, .string s] 98).ext hb1; have k1 := h1.cell; have z1 := h1.lt))
      go_ret
      exact ⟨ret_int HR.out.symm, by (repeat (with_reducible (first | exact Ext.refl _ | assumption | exact held_left (by assumption) | apply Ext.drewN | apply Ext.drew | apply Ext.alloc | (refine Ext.setCell ?_ (by first | (simp; done) | (simp; omega) | omega) _) | (refine Ext.trans ?_ (by assumption)) | (refine Ext.trans ?_ (held_left (by assumption))))))⟩
  · obtain rfl : k = 2 := by omega
    obtain ⟨R, hR⟩ : ∃ R, R = rightV ty n x y s := ⟨_, rfl⟩
    rw [← hR] at HV
    by_cases h0 : R = 0
    · subst h0
      by_cases ht : ty = kind
      · have HR : Hid (rightC 2 ty n x y s kind = 0) := Hid.mk' (right_mk hR.symm ht)
        subst ht
        clear hkd hR
        go_enter Try.func133, Try.ntmps133
        go_wp2_with (first
          | (go_at_call 142; refine (HT.out _).mono ?_; rintro e w1 ⟨rfl, rfl⟩)
          | (go_at_call 144; refine (HV.out _).mono ?_; rintro e w1 ⟨rfl, hb1⟩; have h1 := (Blk.new w #[.int .u8 2, .int .u8 ty, .int .i64 n, .complex .f64 x y, .string s] 98).ext hb1; have k1 := h1.cell; have z1 := h1.lt))
        go_ret
        exact ⟨ret_int HR.out.symm, by (repeat (with_reducible (first | exact Ext.refl _ | assumption | exact held_left (by assumption) | apply Ext.drewN | apply Ext.drew | apply Ext.alloc | (refine Ext.setCell ?_ (by first | (simp; done) | (simp; omega) | omega) _) | (refine Ext.trans ?_ (by assumption)) | (refine Ext.trans ?_ (held_left (by assumption))))))⟩
      · have HR : Hid (rightC 2 ty n x y s kind = 11) := Hid.mk' (by unfold rightC; rw [if_neg hkd, if_neg hk2, if_neg hk3, if_neg (by rw [← hR]; decide), if_pos ht])
        have ht2 : (ty != kind) = true := by simpa using ht
        clear hkd hR ht
        go_enter Try.func133, Try.ntmps133
        go_wp2_with (first
          | (go_at_call 142; refine (HT.out _).mono ?_; rintro e w1 ⟨rfl, rfl⟩)
          | (go_at_call 144; refine (HV.out _).mono ?_; rintro e w1 ⟨rfl, hb1⟩; have h1 := (Blk.new w #[.int .u8 2, .int .u8 ty, .int .i64 n, .complex .f64 x y, .string s] 98).ext hb1; have k1 := h1.cell; have z1 := h1.lt))
        go_ret
        exact ⟨ret_int HR.out.symm, by (repeat (with_reducible (first | exact Ext.refl _ | assumption | exact held_left (by assumption) | apply Ext.drewN | apply Ext.drew | apply Ext.alloc | (refine Ext.setCell ?_ (by first | (simp; done) | (simp; omega) | omega) _) | (refine Ext.trans ?_ (by assumption)) | (refine Ext.trans ?_ (held_left (by assumption))))))⟩
    · have HR : Hid (rightC 2 ty n x y s kind = R) := Hid.mk' (by unfold rightC; rw [if_neg hkd, if_neg hk2, if_neg hk3, if_pos (by rw [← hR]; exact h0), hR])
      have h02 : (R != 0) = true := by simpa using h0
      clear hkd hR h0
      go_enter Try.func133, Try.ntmps133
      go_wp2_with (first
        | (go_at_call 142; refine (HT.out _).mono ?_; rintro e w1 ⟨rfl, rfl⟩)
        | (go_at_call 144; refine (HV.out _).mono ?_; rintro e w1 ⟨rfl, hb1⟩; have h1 := (Blk.new w #[.int .u8 2, .int .u8 ty, .int .i64 n, .complex .f64 x y, .string s] 98).ext hb1; have k1 := h1.cell; have z1 := h1.lt))
      go_ret
      exact ⟨ret_int HR.out.symm, by (repeat (with_reducible (first | exact Ext.refl _ | assumption | exact held_left (by assumption) | apply Ext.drewN | apply Ext.drew | apply Ext.alloc | (refine Ext.setCell ?_ (by first | (simp; done) | (simp; omega) | omega) _) | (refine Ext.trans ?_ (by assumption)) | (refine Ext.trans ?_ (held_left (by assumption))))))⟩

end Go.Proofs.Ythdjinicmnhgpaa

/-
The laws' Back of a value; a value against itself.
-/
namespace Go.Proofs.Ythdjinicmnhgpaa
open Go.RowKit

set_option maxRecDepth 100000 in set_option maxHeartbeats 1600000 in
theorem vback_any (ty n : Int) (x y : Nat) (s : ByteArray) (w : World) :
    Calls Try.prog 117 #[.agg #[.int .u8 ty, .int .i64 n, .complex .f64 x y, .string s]] w fun e w' =>
      e = .returned (.agg #[.int .u8 ty, .int .i64 n, .int .u64 x, .int .u64 y, .string s]) ∧ Ext w w' := by
  go_enter Try.func117, Try.ntmps117
  go_wp2_with (go_at_call 135; refine (vbits_any x y _).mono ?_; rintro e w1 ⟨rfl, rfl⟩)
  refine bodyPost_ret (v := .agg #[.int .u8 ty, .int .i64 n, .int .u64 x, .int .u64 y, .string s]) (by simp [results, Try.results117, go_sem]) rfl ⟨rfl, by (repeat (with_reducible (first | exact Ext.refl _ | assumption | exact held_left (by assumption) | apply Ext.drewN | apply Ext.drew | apply Ext.alloc | (refine Ext.setCell ?_ (by first | (simp; done) | (simp; omega) | omega) _) | (refine Ext.trans ?_ (by assumption)) | (refine Ext.trans ?_ (held_left (by assumption))))))⟩

set_option maxRecDepth 20000 in
theorem neq_val (ty n : Int) (x y : Nat) (s : ByteArray) (w : World) :
    (binOp .neq 157 (.agg #[.int .u8 ty, .int .i64 n, .int .u64 x, .int .u64 y, .string s]) (.agg #[.int .u8 ty, .int .i64 n, .int .u64 x, .int .u64 y, .string s])).run Try.prog w = .ok (.bool false) w := by
  simp [go_sem]

end Go.Proofs.Ythdjinicmnhgpaa

/-
The laws' Back of a cell; equality of two cells of the document.
-/
namespace Go.Proofs.Ythdjinicmnhgpaa
open Go.RowKit

set_option maxRecDepth 100000 in set_option maxHeartbeats 1600000 in
theorem eq_cell (k ty n : Int) (x y : Nat) (s : ByteArray) (k' ty' n' : Int) (x' y' : Nat) (s' : ByteArray) (w : World) :
    (binOp .eql 159 (.agg #[.int .u8 k, .int .u8 ty, .int .i64 n, .int .u64 x, .int .u64 y, .string s]) (.agg #[.int .u8 k', .int .u8 ty', .int .i64 n', .int .u64 x', .int .u64 y', .string s'])).run Try.prog w = .ok (.bool (alikeB k ty n x y s k' ty' n' x' y' s')) w := by
  by_cases h0 : k = k' <;> by_cases h1 : ty = ty' <;> by_cases h2 : n = n' <;> by_cases h3 : x = x' <;> by_cases h4 : y = y' <;> by_cases h5 : s = s' <;> simp [go_sem, alikeB, h0, h1, h2, h3, h4, h5]
  all_goals first
    | (intro h; exact absurd (toList_inj' h) h5)
    | omega
    | (intros; omega)
    | (intros; intro h; exact absurd (toList_inj' h) h5)

set_option maxRecDepth 100000 in set_option maxHeartbeats 1600000 in
theorem cback_any (k ty n : Int) (x y : Nat) (s : ByteArray) (w : World) :
    Calls Try.prog 103 #[.agg #[.int .u8 k, .int .u8 ty, .int .i64 n, .complex .f64 x y, .string s]] w fun e w' =>
      e = .returned (.agg #[.int .u8 k, .int .u8 ty, .int .i64 n, .int .u64 x, .int .u64 y, .string s]) ∧ Ext w w' := by
  go_enter Try.func103, Try.ntmps103
  go_wp2
  go_region_held3 (fun w' => Ext (w.alloc (.cells #[.int .u8 k, .int .u8 ty, .int .i64 n, .complex .f64 x y, .string s] 98)) w' ∧ (∀ b o, b < (w.alloc (.cells #[.int .u8 k, .int .u8 ty, .int .i64 n, .complex .f64 x y, .string s] 98)).heap.size → w'.cell? ⟨b, o, none⟩ = (w.alloc (.cells #[.int .u8 k, .int .u8 ty, .int .i64 n, .complex .f64 x y, .string s] 98)).cell? ⟨b, o, none⟩) ∧ (∀ b o, b < (w.alloc (.cells #[.int .u8 k, .int .u8 ty, .int .i64 n, .complex .f64 x y, .string s] 98)).heap.size → w'.frozen? ⟨b, o, none⟩ = (w.alloc (.cells #[.int .u8 k, .int .u8 ty, .int .i64 n, .complex .f64 x y, .string s] 98)).frozen? ⟨b, o, none⟩)) ((exact held_of (by (repeat (with_reducible (first | exact Ext.refl _ | assumption | exact held_left (by assumption) | apply Ext.drewN | apply Ext.drew | apply Ext.alloc | (refine Ext.setCell ?_ (by first | (simp; done) | (simp; omega) | omega) _) | (refine Ext.trans ?_ (by assumption)) | (refine Ext.trans ?_ (held_left (by assumption)))))))))
    (first
      | (go_at_call 117; refine (vback_any ty n x y s _).mono ?_; rintro e w' ⟨rfl, hb⟩; obtain ⟨hc, hf⟩ := hb.cells))
  go_wp2
  simp [bodyPost, results, Try.results103, go_sem, *]
  (repeat (with_reducible (first | exact Ext.refl _ | assumption | exact held_left (by assumption) | apply Ext.drewN | apply Ext.drew | apply Ext.alloc | (refine Ext.setCell ?_ (by first | (simp; done) | (simp; omega) | omega) _) | (refine Ext.trans ?_ (by assumption)) | (refine Ext.trans ?_ (held_left (by assumption))))))

end Go.Proofs.Ythdjinicmnhgpaa

/-
Rows: the laws' Own and Back of a list of cells; whether a law looks at so much.
-/
namespace Go.Proofs.Ythdjinicmnhgpaa
open Go.RowKit

/-- A cell's cells, the program's and the document's. -/
def K.pc (c : K) : List Value := [.int .u8 c.k, .int .u8 c.v.ty, .int .i64 c.v.n, .complex .f64 c.v.x c.v.y, .string c.v.s]
def K.rc (c : K) : List Value := [.int .u8 c.k, .int .u8 c.v.ty, .int .i64 c.v.n, .int .u64 c.v.x, .int .u64 c.v.y, .string c.v.s]
theorem K.pcAt {w wr : World} {b o : Nat} {l : List K} {k : Nat} (hk : k < l.length) (hc : ∀ j, j < 5 → w.cell? ⟨b, o + k * 5 + j, none⟩ = ((l.map K.pc).getD k [])[j]?) (hb : b < w.heap.size) (hE : Ext w wr) :
    wr.cell? ⟨b, o + k * 5, none⟩ = some (.int .u8 l[k].k) ∧ wr.cell? ⟨b, o + k * 5 + 1, none⟩ = some (.int .u8 l[k].v.ty) ∧ wr.cell? ⟨b, o + k * 5 + 2, none⟩ = some (.int .i64 l[k].v.n) ∧
    wr.cell? ⟨b, o + k * 5 + 3, none⟩ = some (.complex .f64 l[k].v.x l[k].v.y) ∧ wr.cell? ⟨b, o + k * 5 + 4, none⟩ = some (.string l[k].v.s) := by
  rw [getD_map K.pc l hk] at hc
  have c := hE.cells.1 b
  exact ⟨(c _ hb).trans (hc 0 (by omega)), (c _ hb).trans (hc 1 (by omega)), (c _ hb).trans (hc 2 (by omega)), (c _ hb).trans (hc 3 (by omega)), (c _ hb).trans (hc 4 (by omega))⟩
theorem K.rcAt {w wr : World} {b o : Nat} {l : List K} {k : Nat} (hk : k < l.length) (hc : ∀ j, j < 6 → w.cell? ⟨b, o + k * 6 + j, none⟩ = ((l.map K.rc).getD k [])[j]?) (hb : b < w.heap.size) (hE : Ext w wr) :
    wr.cell? ⟨b, o + k * 6, none⟩ = some (.int .u8 l[k].k) ∧ wr.cell? ⟨b, o + k * 6 + 1, none⟩ = some (.int .u8 l[k].v.ty) ∧ wr.cell? ⟨b, o + k * 6 + 2, none⟩ = some (.int .i64 l[k].v.n) ∧
    wr.cell? ⟨b, o + k * 6 + 3, none⟩ = some (.int .u64 l[k].v.x) ∧ wr.cell? ⟨b, o + k * 6 + 4, none⟩ = some (.int .u64 l[k].v.y) ∧ wr.cell? ⟨b, o + k * 6 + 5, none⟩ = some (.string l[k].v.s) := by
  rw [getD_map K.rc l hk] at hc
  have c := hE.cells.1 b
  exact ⟨(c _ hb).trans (hc 0 (by omega)), (c _ hb).trans (hc 1 (by omega)), (c _ hb).trans (hc 2 (by omega)), (c _ hb).trans (hc 3 (by omega)), (c _ hb).trans (hc 4 (by omega)), (c _ hb).trans (hc 5 (by omega))⟩

theorem Try.infoCellP : (Try.prog.info? 98).map (fun i => (i.zero, i.size, i.bytes)) = some (some (.agg #[.int .u8 0, .int .u8 0, .int .i64 0, .complex .f64 0 0, .string ByteArray.empty]), 5, 56) := by kernel_rfl
theorem Try.infoCellR : (Try.prog.info? 159).map (fun i => (i.zero, i.size, i.bytes)) = some (some (.agg #[.int .u8 0, .int .u8 0, .int .i64 0, .int .u64 0, .int .u64 0, .string ByteArray.empty]), 6, 56) := by kernel_rfl

set_option maxRecDepth 100000 in set_option maxHeartbeats 1600000 in
theorem ownK_any (l : List K) (a : Option Addr) (cap : Nat) (w : World) (hl : Sl w (.slice a l.length cap) 6 (l.map K.rc)) (hlen : l.length ≤ 1000) :
    Calls Try.prog 61 #[.slice a l.length cap] w fun e w' => ∃ a' cap', e = .returned (.slice a' l.length cap') ∧ l.length ≤ cap' ∧ Sl w' (.slice a' l.length cap') 5 (l.map K.pc) ∧ Ext w w' := by
  have HL := Hid.mk' hl
  clear hl
  obtain ⟨i0, hi, hz0, hz1, hz2⟩ := info_parts Try.infoCellP
  go_enter Try.func61, Try.ntmps61
  go_wp2
  go_loopw [3, 4] (fun v i wr => ∃ k : Nat, k ≤ l.length ∧ i = .int .i64 k ∧ Hid (wr.ownsRow w.heap.size 98 5 v k ((l.map K.pc).take k).flatten) ∧ Hid (Ext w wr)) (fun _ i _ => l.length - (intOf i).toNat)
  case atStart => exact ⟨0, Nat.zero_le _, rfl, World.ownsRow_nil _ _ _ _, Ext.refl _⟩
  case round =>
    obtain ⟨k, hk, rfl, hown, hE⟩ := hrel
    by_cases hlt : k < l.length
    · obtain ⟨b, o, rfl, hb, hx⟩ := HL.out.at_ (i := k) (by simpa using hlt)
      obtain ⟨f0, f1, f2, f3, f4, f5⟩ := K.rcAt hlt hx hb hE.out
      have hbw : b < wr.heap.size := Nat.lt_of_lt_of_le hb hE.out.size
      have HT := Hid.mk' (flat_snoc (f := K.pc) hlt)
      have HC := Hid.mk' (fun w => cown_any l[k].k l[k].v.ty l[k].v.n l[k].v.x l[k].v.y l[k].v.s w)
      simp only [Int.toNat_natCast] at HC
      obtain ⟨c, hc⟩ : ∃ c, c = l[k] := ⟨_, rfl⟩
      rw [← hc] at f0 f1 f2 f3 f4 f5 HT HC
      clear hc hx
      go_wp2_with (first
        | (go_at_call 90; refine (HC.out _).mono ?_; rintro e w1 ⟨rfl, hb1⟩; have HB1 := Hid.mk' hb1; have hz1' := hb1.size; clear hb1)
        | (at_builtin; refine wpList_append_own _ rfl _ _ 81 rfl w.heap.size 98 i0 _ 5 56 Try.underlying81 hi hz0 hz1 hz2 rfl (by decide) _ _ _ rfl ((owns_ext hown.out HB1.out).alloc _) ⟨_, 0, none⟩ 1 1 c.pc rfl rfl ?c1 ?c2 ?c3 ?c4 ?c5 ?_))
      case c1 => exact cells_new _ #[.int .u8 c.k, .int .u8 c.v.ty, .int .i64 c.v.n, .complex .f64 c.v.x c.v.y, .string c.v.s] _
      case c2 => intro u hu; simp [K.pc] at hu; rcases hu with rfl | rfl | rfl | rfl | rfl <;> rfl
      case c3 => unfold maxLen; omega
      case c4 => omega
      case c5 => have := (hE.out.trans HB1.out).size; simp; omega
      · intro v' w2 hown' hgrow _
        have HE2 := Hid.mk' (((hE.out.trans HB1.out).alloc _).grown ((owns_ext hown.out HB1.out).alloc _) hgrow)
        have HO2 := Hid.mk' hown'
        clear hown' hgrow
        go_wp2
        go_roundw
        case rel => exact ⟨k + 1, by omega, by go_num, Hid.mk' (by rw [HT.out]; exact HO2.out), HE2⟩
        case measure => simp [intOf]; omega
    · have hkk : k = l.length := by omega
      subst hkk
      rw [show l.length = (l.map K.pc).length by simp, List.take_length] at hown
      rw [List.length_map] at hown
      obtain ⟨a', c', rfl⟩ := owns_shape hown.out
      go_wp2
      go_ret
      refine ⟨a', c', rfl, owns_cap hown.out, Sl.of_owns (base := w.heap.size) (e := 98) ?_ ?_, hE.out⟩
      · have e : (l.map K.pc).length = l.length := by simp
        rw [e]; exact hown.out
      · intro xs hxs; simp at hxs; obtain ⟨a, _, rfl⟩ := hxs; rfl

set_option maxRecDepth 100000 in set_option maxHeartbeats 1600000 in
theorem backK_any (l : List K) (a : Option Addr) (cap : Nat) (w : World) (hl : Sl w (.slice a l.length cap) 5 (l.map K.pc)) (hlen : l.length ≤ 1000) :
    Calls Try.prog 71 #[.slice a l.length cap] w fun e w' => ∃ a' cap', e = .returned (.slice a' l.length cap') ∧ l.length ≤ cap' ∧ Sl w' (.slice a' l.length cap') 6 (l.map K.rc) ∧ Ext w w' := by
  have HL := Hid.mk' hl
  clear hl
  obtain ⟨i0, hi, hz0, hz1, hz2⟩ := info_parts Try.infoCellR
  go_enter Try.func71, Try.ntmps71
  go_wp2
  go_loopw [3, 4] (fun v i wr => ∃ k : Nat, k ≤ l.length ∧ i = .int .i64 k ∧ Hid (wr.ownsRow w.heap.size 159 6 v k ((l.map K.rc).take k).flatten) ∧ Hid (Ext w wr)) (fun _ i _ => l.length - (intOf i).toNat)
  case atStart => exact ⟨0, Nat.zero_le _, rfl, World.ownsRow_nil _ _ _ _, Ext.refl _⟩
  case round =>
    obtain ⟨k, hk, rfl, hown, hE⟩ := hrel
    by_cases hlt : k < l.length
    · obtain ⟨b, o, rfl, hb, hx⟩ := HL.out.at_ (i := k) (by simpa using hlt)
      obtain ⟨f0, f1, f2, f3, f4⟩ := K.pcAt hlt hx hb hE.out
      have hbw : b < wr.heap.size := Nat.lt_of_lt_of_le hb hE.out.size
      have HT := Hid.mk' (flat_snoc (f := K.rc) hlt)
      have HC := Hid.mk' (fun w => cback_any l[k].k l[k].v.ty l[k].v.n l[k].v.x l[k].v.y l[k].v.s w)
      obtain ⟨c, hc⟩ : ∃ c, c = l[k] := ⟨_, rfl⟩
      rw [← hc] at f0 f1 f2 f3 f4 HT HC
      clear hc hx
      go_wp2_with (first
        | (go_at_call 103; refine (HC.out _).mono ?_; rintro e w1 ⟨rfl, hb1⟩; have HB1 := Hid.mk' hb1; have hz1' := hb1.size; clear hb1)
        | (at_builtin; refine wpList_append_own _ rfl _ _ 71 rfl w.heap.size 159 i0 _ 6 56 Try.underlying71 hi hz0 hz1 hz2 rfl (by decide) _ _ _ rfl ((owns_ext hown.out HB1.out).alloc _) ⟨_, 0, none⟩ 1 1 c.rc rfl rfl ?c1 ?c2 ?c3 ?c4 ?c5 ?_))
      case c1 => exact cells_new _ #[.int .u8 c.k, .int .u8 c.v.ty, .int .i64 c.v.n, .int .u64 c.v.x, .int .u64 c.v.y, .string c.v.s] _
      case c2 => intro u hu; simp [K.rc] at hu; rcases hu with rfl | rfl | rfl | rfl | rfl | rfl <;> rfl
      case c3 => unfold maxLen; omega
      case c4 => omega
      case c5 => have := (hE.out.trans HB1.out).size; simp; omega
      · intro v' w2 hown' hgrow _
        have HE2 := Hid.mk' (((hE.out.trans HB1.out).alloc _).grown ((owns_ext hown.out HB1.out).alloc _) hgrow)
        have HO2 := Hid.mk' hown'
        clear hown' hgrow
        go_wp2
        go_roundw
        case rel => exact ⟨k + 1, by omega, by go_num, Hid.mk' (by rw [HT.out]; exact HO2.out), HE2⟩
        case measure => simp [intOf]; omega
    · have hkk : k = l.length := by omega
      subst hkk
      rw [show l.length = (l.map K.rc).length by simp, List.take_length] at hown
      rw [List.length_map] at hown
      obtain ⟨a', c', rfl⟩ := owns_shape hown.out
      go_wp2
      go_ret
      refine ⟨a', c', rfl, owns_cap hown.out, Sl.of_owns (base := w.heap.size) (e := 159) ?_ ?_, hE.out⟩
      · have e : (l.map K.rc).length = l.length := by simp
        rw [e]; exact hown.out
      · intro xs hxs; simp at hxs; obtain ⟨a, _, rfl⟩ := hxs; rfl

end Go.Proofs.Ythdjinicmnhgpaa

/-
The laws' Own of a relation and of a row, once more: what they give lies in blocks of their own.
-/
namespace Go.Proofs.Ythdjinicmnhgpaa
open Go.RowKit

/-- A slice whose block lies from N on, below M. -/
def Fr (W : World) (N M : Nat) (v : Value) (k : Nat) (xss : List (List Value)) : Prop := Sl W v k xss ∧ ∀ b o len cap, v = .slice (some ⟨b, o, none⟩) len cap → N ≤ b ∧ (xss ≠ [] → b < M)
section
variable {W W' : World} {N M k : Nat} {v : Value} {xss : List (List Value)}
theorem Fr.ext (h : Fr W N M v k xss) (he : Ext W W') : Fr W' N M v k xss := ⟨h.1.ext he, h.2⟩
theorem Fr.drew (h : Fr W N M v k xss) : Fr W.drew N M v k xss := h.ext (Ext.refl W).drew
theorem Fr.alloc (h : Fr W N M v k xss) (o : Obj) : Fr (W.alloc o) N M v k xss := h.ext ((Ext.refl W).alloc o)
theorem Fr.set (h : Fr W N M v k xss) {p : Addr} (hp : p.block < N ∨ M ≤ p.block) (u : Value) : Fr (W.setCell p u) N M v k xss := by
  obtain ⟨h1, h2⟩ := h
  refine ⟨?_, h2⟩
  obtain ⟨a, cap, rfl, h⟩ := h1
  refine ⟨a, cap, rfl, ?_⟩
  rcases h with h0 | ⟨b, o, rfl, hb, hx⟩
  · exact .inl h0
  · by_cases h0 : xss = []
    · exact .inl h0
    · have h3 := h2 b o _ _ rfl
      have h4 := h3.2 h0
      have h5 := h3.1
      refine .inr ⟨b, o, rfl, by simpa using hb, fun i hi j hj => ?_⟩
      rw [← hx i hi j hj]
      exact World.cell?_setCell_far _ _ _ _ (by show p.block ≠ b; omega)
theorem Fr.five {X : Nat} {v0 v1 v2 v3 v4 : Value} (h : Fr W N M v k xss) (hp : X < N ∨ M ≤ X) :
    Fr (((((W.setCell ⟨X, 0, none⟩ v0).setCell ⟨X, 1, none⟩ v1).setCell ⟨X, 2, none⟩ v2).setCell ⟨X, 3, none⟩ v3).setCell ⟨X, 4, none⟩ v4) N M v k xss := ((((h.set hp _).set hp _).set hp _).set hp _).set hp _
theorem Fr.sl (h : Fr W N M v k xss) : Sl W v k xss := h.1
theorem Fr.new {a : Option Addr} {n cap : Nat} (h : Sl W (.slice a n cap) k xss) (h2 : ∀ b o, a = some ⟨b, o, none⟩ → N ≤ b) : Fr W N W.heap.size (.slice a n cap) k xss := by
  refine ⟨h, fun b o len c e => ?_⟩
  simp only [Value.slice.injEq] at e
  obtain ⟨rfl, rfl, rfl⟩ := e
  refine ⟨h2 b o rfl, fun h0 => ?_⟩
  obtain ⟨a, c, hv, h⟩ := h
  simp only [Value.slice.injEq] at hv
  obtain ⟨rfl, -, -⟩ := hv
  rcases h with rfl | ⟨b', o', e, hb, -⟩
  · exact absurd rfl h0
  · simp only [Option.some.injEq, Addr.mk.injEq] at e
    rw [e.1]; exact hb
end

set_option maxRecDepth 100000 in set_option maxHeartbeats 1600000 in
theorem own8_new (oid ver : Int) (nm : ByteArray) (id : Int) (cols : List Col) (a : Option Addr) (cap : Nat) (w : World) (hl : Sl w (.slice a cols.length cap) 3 (cols.map Col.cells)) (hlen : cols.length ≤ 1000) :
    Calls Try.prog 20 #[.agg #[.int .u32 oid, .int .u32 ver, .string nm, .int .u8 id, .slice a cols.length cap]] w fun e w' => ∃ a' cap', e = .returned (.agg #[.int .u32 oid, .int .u32 ver, .string nm, .int .u8 id, .slice a' cols.length cap']) ∧ cols.length ≤ cap' ∧ Sl w' (.slice a' cols.length cap') 3 (cols.map Col.cells) ∧ (∀ b o, a' = some ⟨b, o, none⟩ → w.heap.size ≤ b) ∧ Ext w w' := by
  have HL := Hid.mk' hl
  clear hl
  obtain ⟨i0, hi, hz0, hz1, hz2⟩ := info_parts Try.infoCol
  go_enter Try.func20, Try.ntmps20
  go_wp2
  go_loopw [4] (fun i wr => ∃ (k : Nat) (v : Value), k ≤ cols.length ∧ i = .int .i64 k ∧ Hid (wr.ownsRow (w.heap.size + 3) 40 3 v k ((cols.map Col.cells).take k).flatten) ∧ Blk wr w.heap.size #[.int .u32 oid, .int .u32 ver, .string nm, .int .u8 id, .slice a cols.length cap] 49 ∧ Blk wr (w.heap.size + 1) #[.int .u32 0, .int .u32 0, .string ⟨#[]⟩, .int .u8 0, .slice none 0 0] 36 ∧ Blk wr (w.heap.size + 1 + 1) #[.int .u32 oid, .int .u32 ver, .string nm, .int .u8 id, v] 36 ∧ Hid (Ext w wr)) (fun i _ => cols.length - (intOf i).toNat)
  case atStart => exact ⟨0, .slice none 0 0, Nat.zero_le _, rfl, World.ownsRow_nil _ _ _ _, ((Blk.new _ _ _).alloc _).alloc _, (Blk.new' _ _ (by simp)).alloc _, Blk.new' _ _ (by simp), Hid.mk' (by (repeat (with_reducible (first | exact Ext.refl _ | assumption | exact held_left (by assumption) | apply Ext.drewN | apply Ext.drew | apply Ext.alloc | (refine Ext.setCell ?_ (by first | (simp; done) | (simp; omega) | omega) _) | (refine Ext.trans ?_ (by assumption)) | (refine Ext.trans ?_ (held_left (by assumption)))))))⟩
  case round =>
    obtain ⟨k, v, hk, rfl, hown, hB0, hB1, hB2, hE⟩ := hrel
    by_cases hlt : k < cols.length
    · obtain ⟨b, o, rfl, hb, hc⟩ := HL.out.at_ (i := k) (by simpa using hlt)
      obtain ⟨f0, f1, f2⟩ := Col.at_ hlt hc hb hE.out
      have hT := Hid.mk' (flat_snoc (f := Col.cells) hlt)
      obtain ⟨c, hcc⟩ : ∃ c, c = cols[k] := ⟨_, rfl⟩
      rw [← hcc] at f0 f1 f2 hT
      have hbw : b < wr.heap.size := Nat.lt_of_lt_of_le hb hE.out.size
      have HC := Hid.mk' hcc
      clear hcc hc
      have g0 := hB0.cell
      have g2 := hB2.cell
      have z0 := hB0.lt
      have z1 := hB1.lt
      have z2 := hB2.lt
      have HB0 := Hid.mk' hB0
      have HB1 := Hid.mk' hB1
      have HB2 := Hid.mk' hB2
      clear hB0 hB1 hB2
      go_wp2
      refine wp_region_head 22 (fun w' => Ext (wr) w' ∧ (∀ b o, b < (wr).heap.size → w'.cell? ⟨b, o, none⟩ = (wr).cell? ⟨b, o, none⟩) ∧ (∀ b o, b < (wr).heap.size → w'.frozen? ⟨b, o, none⟩ = (wr).frozen? ⟨b, o, none⟩)) (by kernel_rfl) (by decide) ?_
      have hA0 : Hid ((fun w' => Ext (wr) w' ∧ (∀ b o, b < (wr).heap.size → w'.cell? ⟨b, o, none⟩ = (wr).cell? ⟨b, o, none⟩) ∧ (∀ b o, b < (wr).heap.size → w'.frozen? ⟨b, o, none⟩ = (wr).frozen? ⟨b, o, none⟩)) wr.drew) := held_of (by (repeat (with_reducible (first | exact Ext.refl _ | assumption | exact held_left (by assumption) | apply Ext.drewN | apply Ext.drew | apply Ext.alloc | (refine Ext.setCell ?_ (by first | (simp; done) | (simp; omega) | omega) _) | (refine Ext.trans ?_ (by assumption)) | (refine Ext.trans ?_ (held_left (by assumption)))))))
      (refine wpHd_take (i := 0) (v := ?_) rfl (by kernel_rfl) (by kernel_rfl) (by kernel_rfl) (fun _ _ _ h => h) (Or.inl ⟨by rfl, ?_⟩) hA0.out ?_; rotate_left 1; · (intro w' hS'; (obtain ⟨hEs', hcs', hfs'⟩ := hS'); go_simp; try with_reducible rfl))
      (refine wpHd_take (i := 1) (v := ?_) rfl (by kernel_rfl) (by kernel_rfl) (by kernel_rfl) (fun _ _ _ h => h) (Or.inl ⟨by rfl, ?_⟩) hA0.out ?_; rotate_left 1; · (intro w' hS'; (obtain ⟨hEs', hcs', hfs'⟩ := hS'); go_simp; try with_reducible rfl))
      (refine wpHd_take (i := 2) (v := ?_) rfl (by kernel_rfl) (by kernel_rfl) (by kernel_rfl) (fun _ _ _ h => h) (Or.inl ⟨by rfl, ?_⟩) hA0.out ?_; rotate_left 1; · (intro w' hS'; (obtain ⟨hEs', hcs', hfs'⟩ := hS'); go_simp; try with_reducible rfl))
      (refine wpHd_take (i := 3) (v := ?_) rfl (by kernel_rfl) (by kernel_rfl) (by kernel_rfl) (fun _ _ _ h => h) (Or.inl ⟨by rfl, ?_⟩) hA0.out ?_; rotate_left 1; · (intro w' hS'; (obtain ⟨hEs', hcs', hfs'⟩ := hS'); go_simp; try with_reducible rfl))
      (refine wpHd_take (i := 4) (v := ?_) rfl (by kernel_rfl) (by kernel_rfl) (by kernel_rfl) (fun _ _ _ h => h) (Or.inl ⟨by rfl, ?_⟩) hA0.out ?_; rotate_left 1; · (intro w' hS'; (obtain ⟨hEs', hcs', hfs'⟩ := hS'); go_simp; try with_reducible rfl))
      (refine wpHd_take (i := 5) (v := ?_) rfl (by kernel_rfl) (by kernel_rfl) (by kernel_rfl) (fun _ _ _ h => h) (Or.inl ⟨by rfl, ?_⟩) hA0.out ?_; rotate_left 1; · (intro w' hS'; (obtain ⟨hEs', hcs', hfs'⟩ := hS'); go_simp; try with_reducible rfl))
      (refine wpHd_take (i := 6) (v := ?_) rfl (by kernel_rfl) (by kernel_rfl) (by kernel_rfl) (fun _ _ _ h => h) (Or.inl ⟨by rfl, ?_⟩) hA0.out ?_; rotate_left 1; · (intro w' hS'; (obtain ⟨hEs', hcs', hfs'⟩ := hS'); go_simp; try with_reducible rfl))
      (refine wpHd_take (i := 7) (v := ?_) rfl (by kernel_rfl) (by kernel_rfl) (by kernel_rfl) (fun _ _ _ h => h) (Or.inl ⟨by rfl, ?_⟩) hA0.out ?_; rotate_left 1; · (intro w' hS'; (obtain ⟨hEs', hcs', hfs'⟩ := hS'); go_simp; try with_reducible rfl))
      (refine wpHd_take (i := 8) (v := ?_) rfl (by kernel_rfl) (by kernel_rfl) (by kernel_rfl) (fun _ _ _ h => h) (Or.inl ⟨by rfl, ?_⟩) hA0.out ?_; rotate_left 1; · (intro w' hS'; (obtain ⟨hEs', hcs', hfs'⟩ := hS'); go_simp; try with_reducible rfl))
      (refine wpHd_take (i := 9) (v := ?_) rfl (by kernel_rfl) (by kernel_rfl) (by kernel_rfl) (fun _ _ _ h => h) (Or.inl ⟨by rfl, ?_⟩) hA0.out ?_; rotate_left 1; · (intro w' hS'; (obtain ⟨hEs', hcs', hfs'⟩ := hS'); go_simp; try with_reducible rfl))
      (refine wpHd_take (i := 10) (v := ?_) rfl (by kernel_rfl) (by kernel_rfl) (by kernel_rfl) (fun _ _ _ h => h) (Or.inl ⟨by rfl, ?_⟩) hA0.out ?_; rotate_left 1; · (intro w' hS'; (obtain ⟨hEs', hcs', hfs'⟩ := hS'); go_simp; try with_reducible rfl))
      (refine wpHd_take (i := 11) (v := ?_) rfl (by kernel_rfl) (by kernel_rfl) (by kernel_rfl) (fun _ _ _ h => h) (Or.inl ⟨by rfl, ?_⟩) hA0.out ?_; rotate_left 1; · (intro w' hS'; (obtain ⟨hEs', hcs', hfs'⟩ := hS'); go_simp; try with_reducible rfl))
      (refine wpHd_take (i := 12) (v := ?_) rfl (by kernel_rfl) (by kernel_rfl) (by kernel_rfl) (fun _ _ _ h => h) (Or.inl ⟨by rfl, ?_⟩) hA0.out ?_; rotate_left 1; · (intro w' hS'; (obtain ⟨hEs', hcs', hfs'⟩ := hS'); go_simp; try with_reducible rfl))
      (refine wpHd_take (i := 13) (v := ?_) rfl (by kernel_rfl) (by kernel_rfl) (by kernel_rfl) (fun _ _ _ h => h) (Or.inl ⟨by rfl, ?_⟩) hA0.out ?_; rotate_left 1; · (intro w' hS'; (obtain ⟨hEs', hcs', hfs'⟩ := hS'); go_simp; try with_reducible rfl))
      (refine wpHd_take (i := 14) (v := ?_) rfl (by kernel_rfl) (by kernel_rfl) (by kernel_rfl) (fun _ _ _ h => h) (Or.inl ⟨by rfl, ?_⟩) hA0.out ?_; rotate_left 1; · (intro w' hS'; (obtain ⟨hEs', hcs', hfs'⟩ := hS'); go_simp; try with_reducible rfl))
      (refine wpHd_take (i := 15) (v := ?_) rfl (by kernel_rfl) (by kernel_rfl) (by kernel_rfl) (fun _ _ _ h => h) (Or.inl ⟨by rfl, ?_⟩) hA0.out ?_; rotate_left 1; · (intro w' hS'; (obtain ⟨hEs', hcs', hfs'⟩ := hS'); go_simp; try with_reducible rfl))
      (refine wpHd_take (i := 16) (v := ?_) rfl (by kernel_rfl) (by kernel_rfl) (by kernel_rfl) (fun _ _ _ h => h) (Or.inl ⟨by rfl, ?_⟩) hA0.out ?_; rotate_left 1; · (intro w' hS'; (obtain ⟨hEs', hcs', hfs'⟩ := hS'); go_simp; try with_reducible rfl))
      (refine wpHd_take (i := 17) (v := ?_) rfl (by kernel_rfl) (by kernel_rfl) (by kernel_rfl) (fun _ _ _ h => h) (Or.inl ⟨by rfl, ?_⟩) hA0.out ?_; rotate_left 1; · (intro w' hS'; (obtain ⟨hEs', hcs', hfs'⟩ := hS'); go_simp; try with_reducible rfl))
      (refine wpHd_take (i := 18) (v := ?_) rfl (by kernel_rfl) (by kernel_rfl) (by kernel_rfl) (fun _ _ _ h => h) (Or.inl ⟨by rfl, ?_⟩) hA0.out ?_; rotate_left 1; · (intro w' hS'; (obtain ⟨hEs', hcs', hfs'⟩ := hS'); go_simp; try with_reducible rfl))
      (refine wpHd_take (i := 19) (v := ?_) rfl (by kernel_rfl) (by kernel_rfl) (by kernel_rfl) (fun _ _ _ h => h) (Or.inl ⟨by rfl, ?_⟩) hA0.out ?_; rotate_left 1; · (intro w' hS'; (obtain ⟨hEs', hcs', hfs'⟩ := hS'); go_simp; try with_reducible rfl))
      (refine wpHd_take (i := 20) (v := ?_) rfl (by kernel_rfl) (by kernel_rfl) (by kernel_rfl) (fun _ _ _ h => h) (Or.inl ⟨by rfl, ?_⟩) hA0.out ?_; rotate_left 1; · (intro w' hS'; (obtain ⟨hEs', hcs', hfs'⟩ := hS'); go_simp; try with_reducible rfl))
      refine wpHd_one (i := 21) rfl rfl (by kernel_rfl) (fun K hK => ?_)
      go_simp
      refine hK.out _ _ (held_of (by (repeat (with_reducible (first | exact Ext.refl _ | assumption | exact held_left (by assumption) | apply Ext.drewN | apply Ext.drew | apply Ext.alloc | (refine Ext.setCell ?_ (by first | (simp; done) | (simp; omega) | omega) _) | (refine Ext.trans ?_ (by assumption)) | (refine Ext.trans ?_ (held_left (by assumption)))))))) (fun hA => ?_)
      clear hK K hA hA0
      refine wpHd_tail (by kernel_rfl) ?_
      simp only [List.drop_succ_cons, List.drop_zero]
      have hob := owns_ne hown.out (show w.heap.size + 1 + 1 < w.heap.size + 3 by omega)
      go_wp2_with (at_builtin; refine wpList_append_lies _ rfl _ _ 34 rfl (w.heap.size + 3) 40 i0 _ 3 24 Try.underlying34 hi hz0 hz1 hz2 rfl (by decide) _ _ _ rfl (owns_ext hown.out (by (repeat (with_reducible (first | exact Ext.refl _ | assumption | exact held_left (by assumption) | apply Ext.drewN | apply Ext.drew | apply Ext.alloc | (refine Ext.setCell ?_ (by first | (simp; done) | (simp; omega) | omega) _) | (refine Ext.trans ?_ (by assumption)) | (refine Ext.trans ?_ (held_left (by assumption)))))))) ⟨_, 0, none⟩ 1 1 c.cells rfl rfl ?c1 ?c2 (by decide) ?c3 ?c4 ?c5 _ rfl ?_)
      case c1 => exact cells_new _ #[.string c.nm, .int .u8 c.ty, .bool c.key] _
      case c2 => intro u hu; simp [Col.cells] at hu; rcases hu with rfl | rfl | rfl <;> rfl
      case c3 => unfold maxLen; omega
      case c4 => omega
      case c5 => simp; omega
      intro g' cap' w2 hown' hgrow _ _
      have hE1 : Ext wr (wr.drew.alloc (.cells #[.string c.nm, .int .u8 c.ty, .bool c.key] 40)) := by (repeat (with_reducible (first | exact Ext.refl _ | assumption | exact held_left (by assumption) | apply Ext.drewN | apply Ext.drew | apply Ext.alloc | (refine Ext.setCell ?_ (by first | (simp; done) | (simp; omega) | omega) _) | (refine Ext.trans ?_ (by assumption)) | (refine Ext.trans ?_ (held_left (by assumption))))))
      have HE2 : Hid (Ext w w2) := Hid.mk' (Below.grown (hE.out.trans hE1) hgrow (hE.out.trans hE1).size (fun g hg => by have := (hown.out.lt g hg).1; omega))
      have hsz2 := hgrow.size
      have HB0' := Hid.mk' ((HB0.out.ext hE1).grown hgrow (owns_ne hown.out (by omega)))
      have HB1' := Hid.mk' ((HB1.out.ext hE1).grown hgrow (owns_ne hown.out (by omega)))
      have hB2' := (HB2.out.ext hE1).grown hgrow hob
      have g2' := hB2'.cell
      have g2f := hB2'.frozen
      have z2' := hB2'.lt
      have HB2' := Hid.mk' hB2'
      have HO := Hid.mk' hown'
      clear hB2' hown' hgrow hE1 hob
      go_wp2
      go_roundw
      case rel => exact ⟨k + 1, _, by omega, by go_num, Hid.mk' (by rw [hT.out]; exact owns_set (p := ⟨w.heap.size + 1 + 1, 4, none⟩) HO.out (by show w.heap.size + 1 + 1 < _; omega) _), HB0'.out.other _ _ (by show w.heap.size ≠ w.heap.size + 1 + 1; omega), HB1'.out.other _ _ (by show w.heap.size + 1 ≠ w.heap.size + 1 + 1; omega), HB2'.out.set 4 _, Hid.mk' (HE2.out.setCell (by simp; omega) _)⟩
      case measure => simp [intOf]; omega
    · have hkk : k = cols.length := by omega
      subst hkk
      rw [show cols.length = (cols.map Col.cells).length by simp, List.take_length] at hown
      rw [List.length_map] at hown
      obtain ⟨a', c', rfl⟩ := owns_shape hown.out
      have g0 := hB0.cell
      have z0 := hB0.lt
      have g1 := hB1.cell
      have g1f := hB1.frozen
      have g2 := hB2.cell
      have z1 := hB1.lt
      have z2 := hB2.lt
      clear hB0 hB1 hB2
      go_wp2
      simp [bodyPost, results, Try.results20, go_sem, *]
      refine ⟨_, _, ⟨rfl, rfl⟩, owns_cap hown.out, Sl.of_owns (base := w.heap.size + 3) (e := 40) ?_ ?_, fun b o e => by have := (hown.out.lt b (by rw [e]; rfl)).1; omega, ?_⟩
      · have e : (cols.map Col.cells).length = cols.length := by simp
        rw [e]
        have hown := hown.out
        repeat (with_reducible (first | exact hown | refine owns_set ?_ (by show w.heap.size + 1 < _; omega) _))
      · intro xs hxs; simp at hxs; obtain ⟨a, _, rfl⟩ := hxs; rfl
      · have hE := hE.out
        (repeat (with_reducible (first | exact Ext.refl _ | assumption | exact held_left (by assumption) | apply Ext.drewN | apply Ext.drew | apply Ext.alloc | (refine Ext.setCell ?_ (by first | (simp; done) | (simp; omega) | omega) _) | (refine Ext.trans ?_ (by assumption)) | (refine Ext.trans ?_ (held_left (by assumption))))))

set_option maxRecDepth 100000 in set_option maxHeartbeats 1600000 in
theorem ownK_new (l : List K) (a : Option Addr) (cap : Nat) (w : World) (hl : Sl w (.slice a l.length cap) 6 (l.map K.rc)) (hlen : l.length ≤ 1000) :
    Calls Try.prog 61 #[.slice a l.length cap] w fun e w' => ∃ a' cap', e = .returned (.slice a' l.length cap') ∧ l.length ≤ cap' ∧ Sl w' (.slice a' l.length cap') 5 (l.map K.pc) ∧ (∀ b o, a' = some ⟨b, o, none⟩ → w.heap.size ≤ b) ∧ Ext w w' := by
  have HL := Hid.mk' hl
  clear hl
  obtain ⟨i0, hi, hz0, hz1, hz2⟩ := info_parts Try.infoCellP
  go_enter Try.func61, Try.ntmps61
  go_wp2
  go_loopw [3, 4] (fun v i wr => ∃ k : Nat, k ≤ l.length ∧ i = .int .i64 k ∧ Hid (wr.ownsRow w.heap.size 98 5 v k ((l.map K.pc).take k).flatten) ∧ Hid (Ext w wr)) (fun _ i _ => l.length - (intOf i).toNat)
  case atStart => exact ⟨0, Nat.zero_le _, rfl, World.ownsRow_nil _ _ _ _, Ext.refl _⟩
  case round =>
    obtain ⟨k, hk, rfl, hown, hE⟩ := hrel
    by_cases hlt : k < l.length
    · obtain ⟨b, o, rfl, hb, hx⟩ := HL.out.at_ (i := k) (by simpa using hlt)
      obtain ⟨f0, f1, f2, f3, f4, f5⟩ := K.rcAt hlt hx hb hE.out
      have hbw : b < wr.heap.size := Nat.lt_of_lt_of_le hb hE.out.size
      have HT := Hid.mk' (flat_snoc (f := K.pc) hlt)
      have HC := Hid.mk' (fun w => cown_any l[k].k l[k].v.ty l[k].v.n l[k].v.x l[k].v.y l[k].v.s w)
      simp only [Int.toNat_natCast] at HC
      obtain ⟨c, hc⟩ : ∃ c, c = l[k] := ⟨_, rfl⟩
      rw [← hc] at f0 f1 f2 f3 f4 f5 HT HC
      clear hc hx
      go_wp2_with (first
        | (go_at_call 90; refine (HC.out _).mono ?_; rintro e w1 ⟨rfl, hb1⟩; have HB1 := Hid.mk' hb1; have hz1' := hb1.size; clear hb1)
        | (at_builtin; refine wpList_append_own _ rfl _ _ 81 rfl w.heap.size 98 i0 _ 5 56 Try.underlying81 hi hz0 hz1 hz2 rfl (by decide) _ _ _ rfl ((owns_ext hown.out HB1.out).alloc _) ⟨_, 0, none⟩ 1 1 c.pc rfl rfl ?c1 ?c2 ?c3 ?c4 ?c5 ?_))
      case c1 => exact cells_new _ #[.int .u8 c.k, .int .u8 c.v.ty, .int .i64 c.v.n, .complex .f64 c.v.x c.v.y, .string c.v.s] _
      case c2 => intro u hu; simp [K.pc] at hu; rcases hu with rfl | rfl | rfl | rfl | rfl <;> rfl
      case c3 => unfold maxLen; omega
      case c4 => omega
      case c5 => have := (hE.out.trans HB1.out).size; simp; omega
      · intro v' w2 hown' hgrow _
        have HE2 := Hid.mk' (((hE.out.trans HB1.out).alloc _).grown ((owns_ext hown.out HB1.out).alloc _) hgrow)
        have HO2 := Hid.mk' hown'
        clear hown' hgrow
        go_wp2
        go_roundw
        case rel => exact ⟨k + 1, by omega, by go_num, Hid.mk' (by rw [HT.out]; exact HO2.out), HE2⟩
        case measure => simp [intOf]; omega
    · have hkk : k = l.length := by omega
      subst hkk
      rw [show l.length = (l.map K.pc).length by simp, List.take_length] at hown
      rw [List.length_map] at hown
      obtain ⟨a', c', rfl⟩ := owns_shape hown.out
      go_wp2
      go_ret
      refine ⟨a', c', rfl, owns_cap hown.out, Sl.of_owns (base := w.heap.size) (e := 98) ?_ ?_, fun b o e => (hown.out.lt b (by rw [e]; rfl)).1, hE.out⟩
      · have e : (l.map K.pc).length = l.length := by simp
        rw [e]; exact hown.out
      · intro xs hxs; simp at hxs; obtain ⟨a, _, rfl⟩ := hxs; rfl


theorem own8_fr (oid ver : Int) (nm : ByteArray) (id : Int) (cols : List Col) (a : Option Addr) (cap : Nat) (w : World) (hl : Sl w (.slice a cols.length cap) 3 (cols.map Col.cells)) (hlen : cols.length ≤ 1000) :
    Calls Try.prog 20 #[.agg #[.int .u32 oid, .int .u32 ver, .string nm, .int .u8 id, .slice a cols.length cap]] w fun e w' => ∃ a' cap', e = .returned (.agg #[.int .u32 oid, .int .u32 ver, .string nm, .int .u8 id, .slice a' cols.length cap']) ∧ cols.length ≤ cap' ∧ Fr w' w.heap.size w'.heap.size (.slice a' cols.length cap') 3 (cols.map Col.cells) ∧ Ext w w' := by
  refine (own8_new oid ver nm id cols a cap w hl hlen).mono fun e w' h => ?_
  obtain ⟨a', c', h1, h2, h3, h4, h5⟩ := h
  exact ⟨a', c', h1, h2, Fr.new h3 h4, h5⟩
theorem ownK_fr (l : List K) (a : Option Addr) (cap : Nat) (w : World) (hl : Sl w (.slice a l.length cap) 6 (l.map K.rc)) (hlen : l.length ≤ 1000) :
    Calls Try.prog 61 #[.slice a l.length cap] w fun e w' => ∃ a' cap', e = .returned (.slice a' l.length cap') ∧ l.length ≤ cap' ∧ Fr w' w.heap.size w'.heap.size (.slice a' l.length cap') 5 (l.map K.pc) ∧ Ext w w' := by
  refine (ownK_new l a cap w hl hlen).mono fun e w' h => ?_
  obtain ⟨a', c', h1, h2, h3, h4, h5⟩ := h
  exact ⟨a', c', h1, h2, Fr.new h3 h4, h5⟩

end Go.Proofs.Ythdjinicmnhgpaa

/-
Whether two rows are alike: the program's answer, the reference's.
-/
namespace Go.Proofs.Ythdjinicmnhgpaa
open Go.RowKit

theorem alikeK {c d : K} : alikeB c.k c.v.ty c.v.n c.v.x c.v.y c.v.s d.k d.v.ty d.v.n d.v.x d.v.y d.v.s = true ↔ c = d := by
  unfold alikeB
  rw [decide_eq_true_iff]
  constructor
  · obtain ⟨k, ty, n, x, y, s⟩ := c
    obtain ⟨k', ty', n', x', y', s'⟩ := d
    rintro ⟨rfl, rfl, rfl, rfl, rfl, rfl⟩
    rfl
  · rintro rfl; simp
/-- Are two rows alike? -/
noncomputable def rowB (l m : List K) : Bool := @decide (l = m) (Classical.propDecidable _)
theorem rowB_true {l m : List K} : rowB l m = true ↔ l = m := by unfold rowB; simp
theorem rowB_false {l m : List K} : rowB l m = false ↔ l ≠ m := by unfold rowB; simp
theorem rowB_at {l m : List K} {k : Nat} (h1 : k < l.length) (h2 : k < m.length) (h : l[k] ≠ m[k]) : rowB l m = false := rowB_false.2 (by rintro rfl; exact h rfl)
theorem rowB_len {l m : List K} (h : l.length ≠ m.length) : rowB l m = false := rowB_false.2 (by rintro rfl; exact h rfl)
theorem rowB_all {l m : List K} (h0 : l.length = m.length) (h : ∀ i (h1 : i < l.length) (h2 : i < m.length), l[i] = m[i]) : rowB l m = true := rowB_true.2 (List.ext_getElem h0 h)

set_option maxRecDepth 100000 in set_option maxHeartbeats 1600000 in
theorem neq_cell (k ty n : Int) (x y : Nat) (s : ByteArray) (k' ty' n' : Int) (x' y' : Nat) (s' : ByteArray) (w : World) :
    (binOp .neq 159 (.agg #[.int .u8 k, .int .u8 ty, .int .i64 n, .int .u64 x, .int .u64 y, .string s]) (.agg #[.int .u8 k', .int .u8 ty', .int .i64 n', .int .u64 x', .int .u64 y', .string s'])).run Try.prog w = .ok (.bool (!alikeB k ty n x y s k' ty' n' x' y' s')) w := by
  by_cases h0 : k = k' <;> by_cases h1 : ty = ty' <;> by_cases h2 : n = n' <;> by_cases h3 : x = x' <;> by_cases h4 : y = y' <;> by_cases h5 : s = s' <;> simp [go_sem, alikeB, h0, h1, h2, h3, h4, h5]
  all_goals first
    | (intro h; exact absurd (toList_inj' h) h5)
    | omega
    | (intros; omega)
    | (intros; intro h; exact absurd (toList_inj' h) h5)

set_option maxRecDepth 100000 in set_option maxHeartbeats 2000000 in
theorem eqf_any (l m : List K) (a b : Option Addr) (ca cb : Nat) (w : World) (hl : Sl w (.slice a l.length ca) 5 (l.map K.pc)) (hm : Sl w (.slice b m.length cb) 5 (m.map K.pc)) (hlen : l.length ≤ 1000) (_hlen2 : m.length ≤ 1000) :
    Calls Try.prog 101 #[.slice a l.length ca, .slice b m.length cb, .func (.func 102) #[] #[]] w fun e w' => e = .returned (.bool (rowB l m)) ∧ Ext w w' := by
  have HL := Hid.mk' hl
  have HM := Hid.mk' hm
  clear hl hm
  by_cases hn : l.length = m.length
  case neg =>
    have hn' : (((l.length : Nat) : Int) != ((m.length : Nat) : Int)) = true := by simp; omega
    have HR := Hid.mk' (rowB_len hn)
    clear hn
    go_enter Try.func101, Try.ntmps101
    go_wp2
    go_ret
    exact ⟨ret_bool HR.out.symm, by (repeat (with_reducible (first | exact Ext.refl _ | assumption | exact held_left (by assumption) | apply Ext.drewN | apply Ext.drew | apply Ext.alloc | (refine Ext.setCell ?_ (by first | (simp; done) | (simp; omega) | omega) _) | (refine Ext.trans ?_ (by assumption)) | (refine Ext.trans ?_ (held_left (by assumption))))))⟩
  have hn' : (((l.length : Nat) : Int) != ((m.length : Nat) : Int)) = false := by simp; omega
  have HN := Hid.mk' hn
  clear hn
  go_enter Try.func101, Try.ntmps101
  go_wp2
  go_loopw [17] (fun i wr => ∃ k : Nat, k ≤ l.length ∧ i = .int .i64 k ∧ Hid (∀ j (h1 : j < l.length) (h2 : j < m.length), j < k → l[j] = m[j]) ∧ Hid (Ext w wr)) (fun i _ => l.length - (intOf i).toNat)
  case atStart => exact ⟨0, Nat.zero_le _, rfl, fun j _ _ h => by omega, Ext.refl _⟩
  case round =>
    obtain ⟨k, hk, rfl, hrel, hE⟩ := hrel
    by_cases hlt : k < l.length
    · have hlt2 : k < m.length := by have := HN.out; omega
      obtain ⟨b1, o1, rfl, hb1, hx1⟩ := HL.out.at_ (i := k) (by simpa using hlt)
      obtain ⟨f0, f1, f2, f3, f4⟩ := K.pcAt hlt hx1 hb1 hE.out
      obtain ⟨b2, o2, rfl, hb2, hx2⟩ := HM.out.at_ (i := k) (by simpa using hlt2)
      obtain ⟨p0, p1, p2, p3, p4⟩ := K.pcAt hlt2 hx2 hb2 hE.out
      have hbw : b1 < wr.heap.size := Nat.lt_of_lt_of_le hb1 hE.out.size
      have hbw2 : b2 < wr.heap.size := Nat.lt_of_lt_of_le hb2 hE.out.size
      have hbx2 : b2 < wr.heap.size + 1 := by omega
      have HC := Hid.mk' (fun w => calike_any l[k].k l[k].v.ty l[k].v.n l[k].v.x l[k].v.y l[k].v.s m[k].k m[k].v.ty m[k].v.n m[k].v.x m[k].v.y m[k].v.s w)
      cases hA : alikeB l[k].k l[k].v.ty l[k].v.n l[k].v.x l[k].v.y l[k].v.s m[k].k m[k].v.ty m[k].v.n m[k].v.x m[k].v.y m[k].v.s with
      | true =>
        rw [hA] at HC
        have HA := Hid.mk' (alikeK.1 hA)
        clear hA hx1 hx2
        go_wp2_with (go_at_call 102; refine (HC.out _).mono ?_; rintro e w1 ⟨rfl, hb3⟩)
        go_roundw
        case rel => exact ⟨k + 1, by omega, by go_num, fun j h1 h2 hjk => by
          by_cases e : j = k
          · subst e; exact HA.out
          · exact hrel.out j h1 h2 (by omega), Hid.mk' (hE.out.trans (by (repeat (with_reducible (first | exact Ext.refl _ | assumption | exact held_left (by assumption) | apply Ext.drewN | apply Ext.drew | apply Ext.alloc | (refine Ext.setCell ?_ (by first | (simp; done) | (simp; omega) | omega) _) | (refine Ext.trans ?_ (by assumption)) | (refine Ext.trans ?_ (held_left (by assumption))))))))⟩
        case measure => simp [intOf]; omega
      | false =>
        rw [hA] at HC
        have HR := Hid.mk' (rowB_at hlt hlt2 (fun h => by rw [alikeK.2 h] at hA; cases hA))
        clear hA hx1 hx2
        go_wp2_with (go_at_call 102; refine (HC.out _).mono ?_; rintro e w1 ⟨rfl, hb3⟩)
        go_ret
        exact ⟨ret_bool HR.out.symm, hE.out.trans (by (repeat (with_reducible (first | exact Ext.refl _ | assumption | exact held_left (by assumption) | apply Ext.drewN | apply Ext.drew | apply Ext.alloc | (refine Ext.setCell ?_ (by first | (simp; done) | (simp; omega) | omega) _) | (refine Ext.trans ?_ (by assumption)) | (refine Ext.trans ?_ (held_left (by assumption)))))))⟩
    · have hkk : k = l.length := by omega
      have HR := Hid.mk' (rowB_all HN.out (fun i h1 h2 => hrel.out i h1 h2 (by omega)))
      subst hkk
      go_wp2
      go_ret
      exact ⟨ret_bool HR.out.symm, hE.out⟩

set_option maxRecDepth 20000 in set_option maxHeartbeats 400000 in
theorem alike_any (l m : List K) (a b : Option Addr) (ca cb : Nat) (w : World) (hl : Sl w (.slice a l.length ca) 5 (l.map K.pc)) (hm : Sl w (.slice b m.length cb) 5 (m.map K.pc)) (hlen : l.length ≤ 1000) (hlen2 : m.length ≤ 1000) :
    Calls Try.prog 68 #[.slice a l.length ca, .slice b m.length cb] w fun e w' => e = .returned (.bool (rowB l m)) ∧ Ext w w' := by
  have HI := Hid.mk' (eqf_any l m a b ca cb w hl hm hlen hlen2)
  clear hl hm
  go_enter Try.func68, Try.ntmps68
  go_wp2_with (go_at_call 101; refine HI.out.mono ?_; rintro e w1 ⟨rfl, hb1⟩)
  go_ret
  exact ⟨rfl, hb1⟩

set_option maxRecDepth 100000 in set_option maxHeartbeats 2000000 in
theorem rsame_any (l m : List K) (a b : Option Addr) (ca cb : Nat) (w : World) (hl : Sl w (.slice a l.length ca) 6 (l.map K.rc)) (hm : Sl w (.slice b m.length cb) 6 (m.map K.rc)) (hlen : l.length ≤ 1000) (_hlen2 : m.length ≤ 1000) :
    Calls Try.prog 70 #[.slice a l.length ca, .slice b m.length cb] w fun e w' => e = .returned (.bool (rowB l m)) ∧ Ext w w' := by
  have HL := Hid.mk' hl
  have HM := Hid.mk' hm
  clear hl hm
  by_cases hn : l.length = m.length
  case neg =>
    have hn' : (((l.length : Nat) : Int) != ((m.length : Nat) : Int)) = true := by simp; omega
    have HR := Hid.mk' (rowB_len hn)
    clear hn
    go_enter Try.func70, Try.ntmps70
    go_wp2
    go_ret
    exact ⟨ret_bool HR.out.symm, by (repeat (with_reducible (first | exact Ext.refl _ | assumption | exact held_left (by assumption) | apply Ext.drewN | apply Ext.drew | apply Ext.alloc | (refine Ext.setCell ?_ (by first | (simp; done) | (simp; omega) | omega) _) | (refine Ext.trans ?_ (by assumption)) | (refine Ext.trans ?_ (held_left (by assumption))))))⟩
  have hn' : (((l.length : Nat) : Int) != ((m.length : Nat) : Int)) = false := by simp; omega
  have HN := Hid.mk' hn
  clear hn
  go_enter Try.func70, Try.ntmps70
  go_wp2
  go_loopw [5] (fun i wr => ∃ k : Nat, k ≤ l.length ∧ i = .int .i64 k ∧ Hid (∀ j (h1 : j < l.length) (h2 : j < m.length), j < k → l[j] = m[j]) ∧ Hid (Ext w wr)) (fun i _ => l.length - (intOf i).toNat)
  case atStart => exact ⟨0, Nat.zero_le _, rfl, fun j _ _ h => by omega, Ext.refl _⟩
  case round =>
    obtain ⟨k, hk, rfl, hrel, hE⟩ := hrel
    by_cases hlt : k < l.length
    · have hlt2 : k < m.length := by have := HN.out; omega
      obtain ⟨b1, o1, rfl, hb1, hx1⟩ := HL.out.at_ (i := k) (by simpa using hlt)
      obtain ⟨f0, f1, f2, f3, f4, f5⟩ := K.rcAt hlt hx1 hb1 hE.out
      obtain ⟨b2, o2, rfl, hb2, hx2⟩ := HM.out.at_ (i := k) (by simpa using hlt2)
      obtain ⟨p0, p1, p2, p3, p4, p5⟩ := K.rcAt hlt2 hx2 hb2 hE.out
      have hbw : b1 < wr.heap.size := Nat.lt_of_lt_of_le hb1 hE.out.size
      have hbw2 : b2 < wr.heap.size := Nat.lt_of_lt_of_le hb2 hE.out.size
      have hNq := fun w => neq_cell l[k].k l[k].v.ty l[k].v.n l[k].v.x l[k].v.y l[k].v.s m[k].k m[k].v.ty m[k].v.n m[k].v.x m[k].v.y m[k].v.s w
      cases hA : alikeB l[k].k l[k].v.ty l[k].v.n l[k].v.x l[k].v.y l[k].v.s m[k].k m[k].v.ty m[k].v.n m[k].v.x m[k].v.y m[k].v.s with
      | true =>
        rw [hA] at hNq
        have HA := Hid.mk' (alikeK.1 hA)
        clear hA hx1 hx2
        go_wp2
        go_region_held3 (fun w' => Ext (wr) w' ∧ (∀ b o, b < (wr).heap.size → w'.cell? ⟨b, o, none⟩ = (wr).cell? ⟨b, o, none⟩) ∧ (∀ b o, b < (wr).heap.size → w'.frozen? ⟨b, o, none⟩ = (wr).frozen? ⟨b, o, none⟩)) ((exact held_of (by (repeat (with_reducible (first | exact Ext.refl _ | assumption | exact held_left (by assumption) | apply Ext.drewN | apply Ext.drew | apply Ext.alloc | (refine Ext.setCell ?_ (by first | (simp; done) | (simp; omega) | omega) _) | (refine Ext.trans ?_ (by assumption)) | (refine Ext.trans ?_ (held_left (by assumption))))))))) (fail)
        go_wp2
        go_roundw
        case rel => exact ⟨k + 1, by omega, by go_num, fun j h1 h2 hjk => by
          by_cases e : j = k
          · subst e; exact HA.out
          · exact hrel.out j h1 h2 (by omega), Hid.mk' (hE.out.trans (by (repeat (with_reducible (first | exact Ext.refl _ | assumption | exact held_left (by assumption) | apply Ext.drewN | apply Ext.drew | apply Ext.alloc | (refine Ext.setCell ?_ (by first | (simp; done) | (simp; omega) | omega) _) | (refine Ext.trans ?_ (by assumption)) | (refine Ext.trans ?_ (held_left (by assumption))))))))⟩
        case measure => simp [intOf]; omega
      | false =>
        rw [hA] at hNq
        have HR := Hid.mk' (rowB_at hlt hlt2 (fun h => by rw [alikeK.2 h] at hA; cases hA))
        clear hA hx1 hx2
        go_wp2
        go_region_held3 (fun w' => Ext (wr) w' ∧ (∀ b o, b < (wr).heap.size → w'.cell? ⟨b, o, none⟩ = (wr).cell? ⟨b, o, none⟩) ∧ (∀ b o, b < (wr).heap.size → w'.frozen? ⟨b, o, none⟩ = (wr).frozen? ⟨b, o, none⟩)) ((exact held_of (by (repeat (with_reducible (first | exact Ext.refl _ | assumption | exact held_left (by assumption) | apply Ext.drewN | apply Ext.drew | apply Ext.alloc | (refine Ext.setCell ?_ (by first | (simp; done) | (simp; omega) | omega) _) | (refine Ext.trans ?_ (by assumption)) | (refine Ext.trans ?_ (held_left (by assumption))))))))) (fail)
        go_wp2
        go_ret
        exact ⟨ret_bool HR.out.symm, hE.out.trans (by (repeat (with_reducible (first | exact Ext.refl _ | assumption | exact held_left (by assumption) | apply Ext.drewN | apply Ext.drew | apply Ext.alloc | (refine Ext.setCell ?_ (by first | (simp; done) | (simp; omega) | omega) _) | (refine Ext.trans ?_ (by assumption)) | (refine Ext.trans ?_ (held_left (by assumption)))))))⟩
    · have hkk : k = l.length := by omega
      have HR := Hid.mk' (rowB_all HN.out (fun i h1 h2 => hrel.out i h1 h2 (by omega)))
      subst hkk
      go_wp2
      go_ret
      exact ⟨ret_bool HR.out.symm, hE.out⟩

end Go.Proofs.Ythdjinicmnhgpaa

/-
Events, in plain words and in memory; blocks of eight cells.
-/
namespace Go.Proofs.Ythdjinicmnhgpaa
open Go.RowKit

/-- An event. -/
structure Ev where
  kind : Int
  ao : Int
  av : Int
  old : Int
  b : List K
  a : List K
  rs : List Rf
  fl : Int
theorem Blk.eight {W : World} {b : Nat} {u0 u1 u2 u3 u4 u5 u6 u7 v0 v1 v2 v3 v4 v5 v6 v7 : Value} {T : TypeId} (h : Blk W b #[u0, u1, u2, u3, u4, u5, u6, u7] T) :
    Blk ((((((((W.setCell ⟨b, 0, none⟩ v0).setCell ⟨b, 1, none⟩ v1).setCell ⟨b, 2, none⟩ v2).setCell ⟨b, 3, none⟩ v3).setCell ⟨b, 4, none⟩ v4).setCell ⟨b, 5, none⟩ v5).setCell ⟨b, 6, none⟩ v6).setCell ⟨b, 7, none⟩ v7) b #[v0, v1, v2, v3, v4, v5, v6, v7] T := by
  have h1 := (((((((h.set 0 v0).set 1 v1).set 2 v2).set 3 v3).set 4 v4).set 5 v5).set 6 v6).set 7 v7
  simpa only [List.setIfInBounds_toArray, List.set_cons_zero, List.set_cons_succ] using h1
theorem Fr.eight {W : World} {N M k X : Nat} {v : Value} {xss : List (List Value)} {v0 v1 v2 v3 v4 v5 v6 v7 : Value} (h : Fr W N M v k xss) (hp : X < N ∨ M ≤ X) :
    Fr ((((((((W.setCell ⟨X, 0, none⟩ v0).setCell ⟨X, 1, none⟩ v1).setCell ⟨X, 2, none⟩ v2).setCell ⟨X, 3, none⟩ v3).setCell ⟨X, 4, none⟩ v4).setCell ⟨X, 5, none⟩ v5).setCell ⟨X, 6, none⟩ v6).setCell ⟨X, 7, none⟩ v7) N M v k xss := by
  repeat refine Fr.set ?_ hp _
  exact h
theorem Fr.ne {W : World} {N M k X : Nat} {a : Option Addr} {n c : Nat} {xss : List (List Value)} (h : Fr W N M (.slice a n c) k xss) (hp : X < N ∨ M ≤ X) (h0 : xss ≠ []) : ∀ b o, a = some ⟨b, o, none⟩ → b ≠ X := fun b o e => by
  have h1 := h.2 b o n c (by rw [e])
  have h2 := h1.2 h0
  omega
theorem Fr.ne2 {W : World} {N M k X m : Nat} {a : Option Addr} {n c : Nat} {xss : List (List Value)} (h : Fr W N M (.slice a n c) k xss) (hp : X < N ∨ M ≤ X) (hm : m < N) (h0 : xss ≠ []) : ∀ b o, a = some ⟨b, o, none⟩ → b ≠ X ∧ m < b := fun b o e => by
  have h1 := h.2 b o n c (by rw [e])
  have h2 := h1.2 h0
  omega
theorem Kp.eight {W : World} {X : Nat} {v0 v1 v2 v3 v4 v5 v6 v7 : Value} :
    Kp (fun x => x = X) W ((((((((W.setCell ⟨X, 0, none⟩ v0).setCell ⟨X, 1, none⟩ v1).setCell ⟨X, 2, none⟩ v2).setCell ⟨X, 3, none⟩ v3).setCell ⟨X, 4, none⟩ v4).setCell ⟨X, 5, none⟩ v5).setCell ⟨X, 6, none⟩ v6).setCell ⟨X, 7, none⟩ v7) := by
  have hs : ∀ (W : World) i v, Kp (fun x => x = X) W (W.setCell ⟨X, i, none⟩ v) := fun W i v => Kp.set (S := fun x => x = X) ⟨X, i, none⟩ v rfl
  have ht : ∀ {A B C : World}, Kp (fun x => x = X) A B → Kp (fun x => x = X) B C → Kp (fun x => x = X) A C := fun h k => h.trans k (fun x hx _ => hx)
  exact ht (ht (ht (ht (ht (ht (ht (hs _ _ _) (hs _ _ _)) (hs _ _ _)) (hs _ _ _)) (hs _ _ _)) (hs _ _ _)) (hs _ _ _)) (hs _ _ _)
theorem Kp.ge {N : Nat} {w w' : World} (h : Ext w w') : Kp (fun k => N ≤ k) w w' := Kp.of_ext h

end Go.Proofs.Ythdjinicmnhgpaa

/-
Events that lie somewhere, in rows; transactions.
-/
namespace Go.Proofs.Ythdjinicmnhgpaa
open Go.RowKit

/-- An event that lies somewhere: its rows and its refs. -/
structure EL where
  e : Ev
  ba : Option Addr
  bc : Nat
  aa : Option Addr
  ac : Nat
  ra : Option Addr
  rc : Nat
def EL.vals (x : EL) : List Value := [.int .u8 x.e.kind, .int .u32 x.e.ao, .int .u32 x.e.av, .int .u8 x.e.old, .slice x.ba x.e.b.length x.bc, .slice x.aa x.e.a.length x.ac, .slice x.ra x.e.rs.length x.rc, .int .u8 x.e.fl]
def EL.agg (x : EL) : Value := .agg #[.int .u8 x.e.kind, .int .u32 x.e.ao, .int .u32 x.e.av, .int .u8 x.e.old, .slice x.ba x.e.b.length x.bc, .slice x.aa x.e.a.length x.ac, .slice x.ra x.e.rs.length x.rc, .int .u8 x.e.fl]
/-- A row of cells, n values each, f of each. -/
abbrev Kr (n : Nat) (f : K → List Value) (W : World) (a : Option Addr) (c : Nat) (l : List K) : Prop := Sl W (.slice a l.length c) n (l.map f)
/-- All that it has lies there. -/
structure EL.at (n : Nat) (f : K → List Value) (W : World) (x : EL) : Prop where
  b : Kr n f W x.ba x.bc x.e.b
  a : Kr n f W x.aa x.ac x.e.a
  r : Sl W (.slice x.ra x.e.rs.length x.rc) 2 (x.e.rs.map Rf.cells)
/-- Whatever it has lies in blocks of S. -/
structure EL.on (S : Nat → Prop) (x : EL) : Prop where
  b : x.e.b ≠ [] → ∀ b o, x.ba = some ⟨b, o, none⟩ → S b
  a : x.e.a ≠ [] → ∀ b o, x.aa = some ⟨b, o, none⟩ → S b
  r : x.e.rs ≠ [] → ∀ b o, x.ra = some ⟨b, o, none⟩ → S b
theorem map_ne {α β : Type} {f : α → β} {l : List α} (h : l.map f ≠ []) : l ≠ [] := fun e => h (by rw [e]; rfl)
theorem Sl.lt {W : World} {b n c k : Nat} {xss : List (List Value)} {o' : Nat} (h : Sl W (.slice (some ⟨b, o', none⟩) n c) k xss) (h0 : xss ≠ []) : b < W.heap.size := by
  obtain ⟨b2, o2, e, hb, -⟩ := h.at_ (i := 0) (List.length_pos_iff.2 h0)
  simp only [Option.some.injEq, Addr.mk.injEq] at e
  rw [e.1]; exact hb
section
variable {S T : Nat → Prop} {n : Nat} {f : K → List Value} {W W' : World} {x : EL}
theorem EL.on.mono (h : x.on S) (hs : ∀ b, S b → T b) : x.on T := ⟨fun h0 b o e => hs b (h.b h0 b o e), fun h0 b o e => hs b (h.a h0 b o e), fun h0 b o e => hs b (h.r h0 b o e)⟩
theorem EL.on.and (h : x.on S) (k : x.on T) : x.on (fun b => S b ∧ T b) := ⟨fun h0 b o e => ⟨h.b h0 b o e, k.b h0 b o e⟩, fun h0 b o e => ⟨h.a h0 b o e, k.a h0 b o e⟩, fun h0 b o e => ⟨h.r h0 b o e, k.r h0 b o e⟩⟩
theorem EL.at.ext (h : x.at n f W) (he : Ext W W') : x.at n f W' := ⟨h.b.ext he, h.a.ext he, h.r.ext he⟩
theorem EL.at.kp (h : x.at n f W) (hk : Kp S W W') (hs : x.on (fun b => ¬ S b)) : x.at n f W' := ⟨h.b.kp hk (fun h0 => hs.b (map_ne h0)), h.a.kp hk (fun h0 => hs.a (map_ne h0)), h.r.kp hk (fun h0 => hs.r (map_ne h0))⟩
theorem EL.at.lt (h : x.at n f W) : x.on (fun b => b < W.heap.size) :=
  ⟨fun h0 b o e => Sl.lt (by have := h.b; unfold Kr at this; rw [e] at this; exact this) (fun q => h0 (by simpa using q)), fun h0 b o e => Sl.lt (by have := h.a; unfold Kr at this; rw [e] at this; exact this) (fun q => h0 (by simpa using q)), fun h0 b o e => Sl.lt (by have := h.r; rw [e] at this; exact this) (fun q => h0 (by simpa using q))⟩
end

theorem EL.at_ {w wr : World} {b o : Nat} {l : List EL} {k : Nat} (hk : k < l.length) (hc : ∀ j, j < 8 → w.cell? ⟨b, o + k * 8 + j, none⟩ = ((l.map EL.vals).getD k [])[j]?) (hb : b < w.heap.size) (hE : Ext w wr) :
    wr.cell? ⟨b, o + k * 8, none⟩ = some (.int .u8 l[k].e.kind) ∧ wr.cell? ⟨b, o + k * 8 + 1, none⟩ = some (.int .u32 l[k].e.ao) ∧ wr.cell? ⟨b, o + k * 8 + 2, none⟩ = some (.int .u32 l[k].e.av) ∧ wr.cell? ⟨b, o + k * 8 + 3, none⟩ = some (.int .u8 l[k].e.old) ∧
      wr.cell? ⟨b, o + k * 8 + 4, none⟩ = some (.slice l[k].ba l[k].e.b.length l[k].bc) ∧ wr.cell? ⟨b, o + k * 8 + 5, none⟩ = some (.slice l[k].aa l[k].e.a.length l[k].ac) ∧ wr.cell? ⟨b, o + k * 8 + 6, none⟩ = some (.slice l[k].ra l[k].e.rs.length l[k].rc) ∧ wr.cell? ⟨b, o + k * 8 + 7, none⟩ = some (.int .u8 l[k].e.fl) := by
  rw [getD_map EL.vals l hk] at hc
  have c := hE.cells.1 b
  exact ⟨(c _ hb).trans (hc 0 (by omega)), (c _ hb).trans (hc 1 (by omega)), (c _ hb).trans (hc 2 (by omega)), (c _ hb).trans (hc 3 (by omega)), (c _ hb).trans (hc 4 (by omega)), (c _ hb).trans (hc 5 (by omega)), (c _ hb).trans (hc 6 (by omega)), (c _ hb).trans (hc 7 (by omega))⟩
theorem EL.len (l : List EL) : ∀ xs ∈ l.map EL.vals, xs.length = 8 := by
  intro xs hxs
  rw [List.mem_map] at hxs
  obtain ⟨p, _, rfl⟩ := hxs
  rfl
theorem EL.one (x : EL) : ∀ u ∈ x.vals, u.oneCell' = true := by
  intro u hu
  simp [EL.vals] at hu
  rcases hu with rfl | rfl | rfl | rfl | rfl | rfl | rfl | rfl <;> rfl

/-- Events in a row, all that they have lies there. -/
structure ES (n : Nat) (f : K → List Value) (W : World) (v : Value) (xs : List EL) : Prop where
  row : Sl W v 8 (xs.map EL.vals)
  sl : ∀ x ∈ xs, x.at n f W
section
variable {S T : Nat → Prop} {n : Nat} {f : K → List Value} {W W' : World} {xs : List EL} {v : Value}
theorem ES.ext (h : ES n f W v xs) (he : Ext W W') : ES n f W' v xs := ⟨h.row.ext he, fun x hx => (h.sl x hx).ext he⟩
theorem ES.kp {a : Option Addr} {m c : Nat} (h : ES n f W (.slice a m c) xs) (hk : Kp S W W') (hs : xs ≠ [] → ∀ b o, a = some ⟨b, o, none⟩ → ¬ S b) (hx : ∀ x ∈ xs, x.on (fun b => ¬ S b)) : ES n f W' (.slice a m c) xs :=
  ⟨h.row.kp hk (fun h0 => hs (map_ne h0)), fun x hm => (h.sl x hm).kp hk (hx x hm)⟩
end

/-- Events of the call's own, in a row of its own, all from N on. -/
structure OwnE (n : Nat) (f : K → List Value) (T : TypeId) (W : World) (N : Nat) (es : List Ev) (v : Value) (qs : List EL) : Prop where
  own : W.ownsRow N T 8 v qs.length (qs.map EL.vals).flatten
  e : qs.map EL.e = es
  sl : ∀ q ∈ qs, q.at n f W
  ne : ∀ q ∈ qs, q.on (fun b => N ≤ b ∧ v.ownBlock ≠ some b)
section
variable {S : Nat → Prop} {n : Nat} {f : K → List Value} {T : TypeId} {W W' : World} {N : Nat} {es : List Ev} {v v' : Value} {qs : List EL} {q : EL}
theorem OwnE.nil (W : World) (N : Nat) : OwnE n f T W N [] (.slice none 0 0) [] := ⟨World.ownsRow_nil _ _ _ _, rfl, (fun q h => by cases h), (fun q h => by cases h)⟩
theorem OwnE.len (h : OwnE n f T W N es v qs) : qs.length = es.length := by rw [← h.e, List.length_map]
theorem OwnE.kp (h : OwnE n f T W N es v qs) (hk : Kp S W W') (h1 : ∀ b, v.ownBlock = some b → ¬ S b) (h2 : ∀ q ∈ qs, q.on (fun b => ¬ S b)) : OwnE n f T W' N es v qs :=
  ⟨owns_kp h.own hk h1, h.e, fun q hq => (h.sl q hq).kp hk (h2 q hq), h.ne⟩
theorem OwnE.ext (h : OwnE n f T W N es v qs) (he : Ext W W') : OwnE n f T W' N es v qs :=
  ⟨owns_ext h.own he, h.e, fun q hq => (h.sl q hq).ext he, h.ne⟩
/-- Where only what is not of its own was written. -/
theorem OwnE.low (h : OwnE n f T W N es v qs) (hk : Kp S W W') (h1 : ∀ b, S b → b < N ∨ W.heap.size ≤ b) : OwnE n f T W' N es v qs :=
  h.kp hk (fun b hb hs => by have := owns_lt3 h.own hb; have := h1 b hs; omega) (fun q hq => ((h.ne q hq).and (h.sl q hq).lt).mono (fun b hb hs => by have := h1 b hs; omega))
theorem OwnE.base (h : OwnE n f T W N es v qs) {M : Nat} (hm : M ≤ N) : OwnE n f T W M es v qs := ⟨owns_base h.own hm, h.e, h.sl, fun q hq => (h.ne q hq).mono (fun b hb => ⟨by omega, hb.2⟩)⟩
theorem OwnE.push (h : OwnE n f T W N es v qs) (hs : q.at n f W) (hn : q.on (fun b => N ≤ b ∧ v.ownBlock ≠ some b))
    (hg : W.grownBy W' v.ownBlock) (hat : v'.ownBlock = v.ownBlock ∨ v'.ownBlock = some W.heap.size) (ho : W'.ownsRow N T 8 v' (qs.length + 1) ((qs.map EL.vals).flatten ++ q.vals)) : OwnE n f T W' N (es ++ [q.e]) v' (qs ++ [q]) := by
  have hall : ∀ x ∈ qs ++ [q], x.at n f W ∧ x.on (fun b => N ≤ b ∧ v.ownBlock ≠ some b) := fun x hx => by
    rcases List.mem_append.1 hx with hx | hx
    · exact ⟨h.sl x hx, h.ne x hx⟩
    · obtain rfl : x = q := by simpa using hx
      exact ⟨hs, hn⟩
  refine ⟨by simpa using ho, by rw [List.map_append, h.e]; rfl, fun x hx => (hall x hx).1.kp (Kp.of_grown hg) ((hall x hx).2.mono (fun b hb => hb.2)), fun x hx => ((hall x hx).2.and (hall x hx).1.lt).mono (fun b hb => ⟨hb.1.1, ?_⟩)⟩
  rcases hat with h4 | h4
  · rw [h4]; exact hb.1.2
  · rw [h4]; intro h5; injection h5 with h5
    have := hb.2; omega
theorem OwnE.row (h : OwnE n f T W N es v qs) : ES n f W v qs := ⟨Sl.of_owns (base := N) (e := T) (by rw [List.length_map]; exact h.own) (EL.len qs), h.sl⟩
end

end Go.Proofs.Ythdjinicmnhgpaa

/-
Whether two events are alike, the program's and the reference's; slices.Equal and slices.Clone of refs.
-/
namespace Go.Proofs.Ythdjinicmnhgpaa
open Go.RowKit

theorem Try.infoRfQ : (Try.prog.info? 33).map (fun i => (i.zero, i.size, i.bytes)) = some (some (.agg #[.int .u32 0, .int .u32 0]), 2, 8) := by kernel_rfl
noncomputable def rfB (c d : Rf) : Bool := @decide (c = d) (Classical.propDecidable _)
noncomputable def rfsB (l m : List Rf) : Bool := @decide (l = m) (Classical.propDecidable _)
noncomputable def evB (l m : Ev) : Bool := @decide (l = m) (Classical.propDecidable _)
theorem rfB_true {c d : Rf} : rfB c d = true ↔ c = d := by unfold rfB; simp
theorem rfB_false {c d : Rf} : rfB c d = false ↔ c ≠ d := by unfold rfB; simp
theorem rfsB_true {l m : List Rf} : rfsB l m = true ↔ l = m := by unfold rfsB; simp
theorem rfsB_false {l m : List Rf} : rfsB l m = false ↔ l ≠ m := by unfold rfsB; simp
theorem evB_true {l m : Ev} : evB l m = true ↔ l = m := by unfold evB; simp
theorem evB_false {l m : Ev} : evB l m = false ↔ l ≠ m := by unfold evB; simp
theorem rfB_iff {c d : Rf} : c = d ↔ c.o = d.o ∧ c.v = d.v := by
  constructor
  · rintro rfl; exact ⟨rfl, rfl⟩
  · obtain ⟨a, b⟩ := c; obtain ⟨a', b'⟩ := d
    rintro ⟨h1, h2⟩
    simp only at h1 h2
    rw [h1, h2]
theorem rfB_eq (a b c d : Int) : rfB ⟨a, b⟩ ⟨c, d⟩ = decide (a = c ∧ b = d) := by
  unfold rfB
  by_cases h : a = c ∧ b = d
  · rw [decide_eq_true h]; obtain ⟨rfl, rfl⟩ := h; simp
  · rw [decide_eq_false h]; simp only [Rf.mk.injEq]; rw [decide_eq_false_iff_not]; exact h

set_option maxRecDepth 100000 in set_option maxHeartbeats 1600000 in
theorem neq_pref (a b c d : Int) (w : World) : (binOp .neq 33 (.agg #[.int .u32 a, .int .u32 b]) (.agg #[.int .u32 c, .int .u32 d])).run Try.prog w = .ok (.bool (!rfB ⟨a, b⟩ ⟨c, d⟩)) w := by
  rw [rfB_eq]
  by_cases h0 : a = c <;> by_cases h1 : b = d <;> simp [go_sem, h0, h1]
set_option maxRecDepth 100000 in set_option maxHeartbeats 1600000 in
theorem eql_pref (a b c d : Int) (w : World) : (binOp .eql 33 (.agg #[.int .u32 a, .int .u32 b]) (.agg #[.int .u32 c, .int .u32 d])).run Try.prog w = .ok (.bool (rfB ⟨a, b⟩ ⟨c, d⟩)) w := by
  rw [rfB_eq]
  by_cases h0 : a = c <;> by_cases h1 : b = d <;> simp [go_sem, h0, h1]
set_option maxRecDepth 100000 in set_option maxHeartbeats 1600000 in
theorem neq_rref (a b c d : Int) (w : World) : (binOp .neq 46 (.agg #[.int .u32 a, .int .u32 b]) (.agg #[.int .u32 c, .int .u32 d])).run Try.prog w = .ok (.bool (!rfB ⟨a, b⟩ ⟨c, d⟩)) w := by
  rw [rfB_eq]
  by_cases h0 : a = c <;> by_cases h1 : b = d <;> simp [go_sem, h0, h1]

set_option maxRecDepth 100000 in set_option maxHeartbeats 2000000 in
theorem eqrefs_any (l m : List Rf) (a b : Option Addr) (ca cb : Nat) (w : World) (hl : Sl w (.slice a l.length ca) 2 (l.map Rf.cells)) (hm : Sl w (.slice b m.length cb) 2 (m.map Rf.cells)) (hlen : l.length ≤ 100000) :
    Calls Try.prog 69 #[.slice a l.length ca, .slice b m.length cb] w fun e w' => e = .returned (.bool (rfsB l m)) ∧ Ext w w' := by
  have HL := Hid.mk' hl
  have HM := Hid.mk' hm
  clear hl hm
  by_cases hn : l.length = m.length
  case neg =>
    have hn' : (((l.length : Nat) : Int) != ((m.length : Nat) : Int)) = true := by simp; omega
    have HR := Hid.mk' (show rfsB l m = false from rfsB_false.2 (fun h => hn (by rw [h])))
    clear hn
    go_enter Try.func69, Try.ntmps69
    go_wp2
    go_ret
    exact ⟨ret_bool HR.out.symm, by (repeat (with_reducible (first | exact Ext.refl _ | assumption | exact held_left (by assumption) | apply Ext.drewN | apply Ext.drew | apply Ext.alloc | (refine Ext.setCell ?_ (by first | (simp; done) | (simp; omega) | omega) _) | (refine Ext.trans ?_ (by assumption)) | (refine Ext.trans ?_ (held_left (by assumption))))))⟩
  have hn' : (((l.length : Nat) : Int) != ((m.length : Nat) : Int)) = false := by simp; omega
  have HN := Hid.mk' hn
  clear hn
  go_enter Try.func69, Try.ntmps69
  go_wp2
  go_loopw [13] (fun i wr => ∃ k : Nat, k ≤ l.length ∧ i = .int .i64 k ∧ Hid (∀ j (h1 : j < l.length) (h2 : j < m.length), j < k → l[j] = m[j]) ∧ Hid (Ext w wr)) (fun i _ => l.length - (intOf i).toNat)
  case atStart => exact ⟨0, Nat.zero_le _, rfl, fun j _ _ h => by omega, Ext.refl _⟩
  case round =>
    obtain ⟨k, hk, rfl, hrel, hE⟩ := hrel
    by_cases hlt : k < l.length
    · have hlt2 : k < m.length := by have := HN.out; omega
      obtain ⟨b1, o1, rfl, hb1, hx1⟩ := HL.out.at_ (i := k) (by simpa using hlt)
      obtain ⟨f0, f1⟩ := Rf.at_ hlt hx1 hb1 hE.out
      obtain ⟨b2, o2, rfl, hb2, hx2⟩ := HM.out.at_ (i := k) (by simpa using hlt2)
      obtain ⟨p0, p1⟩ := Rf.at_ hlt2 hx2 hb2 hE.out
      have hbw : b1 < wr.heap.size := Nat.lt_of_lt_of_le hb1 hE.out.size
      have hbw2 : b2 < wr.heap.size := Nat.lt_of_lt_of_le hb2 hE.out.size
      have hNq := fun w => neq_pref l[k].o l[k].v m[k].o m[k].v w
      cases hA : rfB ⟨l[k].o, l[k].v⟩ ⟨m[k].o, m[k].v⟩ with
      | true =>
        rw [hA] at hNq
        have HA := Hid.mk' (rfB_true.1 hA)
        clear hA hx1 hx2
        go_wp2
        go_region_held3 (fun w' => Ext (wr) w' ∧ (∀ b o, b < (wr).heap.size → w'.cell? ⟨b, o, none⟩ = (wr).cell? ⟨b, o, none⟩) ∧ (∀ b o, b < (wr).heap.size → w'.frozen? ⟨b, o, none⟩ = (wr).frozen? ⟨b, o, none⟩)) ((exact held_of (by (repeat (with_reducible (first | exact Ext.refl _ | assumption | exact held_left (by assumption) | apply Ext.drewN | apply Ext.drew | apply Ext.alloc | (refine Ext.setCell ?_ (by first | (simp; done) | (simp; omega) | omega) _) | (refine Ext.trans ?_ (by assumption)) | (refine Ext.trans ?_ (held_left (by assumption))))))))) (fail)
        go_wp2
        go_roundw
        case rel => exact ⟨k + 1, by omega, by go_num, fun j h1 h2 hjk => by
          by_cases e : j = k
          · subst e; exact HA.out
          · exact hrel.out j h1 h2 (by omega), Hid.mk' (hE.out.trans (by (repeat (with_reducible (first | exact Ext.refl _ | assumption | exact held_left (by assumption) | apply Ext.drewN | apply Ext.drew | apply Ext.alloc | (refine Ext.setCell ?_ (by first | (simp; done) | (simp; omega) | omega) _) | (refine Ext.trans ?_ (by assumption)) | (refine Ext.trans ?_ (held_left (by assumption))))))))⟩
        case measure => simp [intOf]; omega
      | false =>
        rw [hA] at hNq
        have HR := Hid.mk' (show rfsB l m = false from rfsB_false.2 (fun h => rfB_false.1 hA (by subst h; rfl)))
        clear hA hx1 hx2
        go_wp2
        go_region_held3 (fun w' => Ext (wr) w' ∧ (∀ b o, b < (wr).heap.size → w'.cell? ⟨b, o, none⟩ = (wr).cell? ⟨b, o, none⟩) ∧ (∀ b o, b < (wr).heap.size → w'.frozen? ⟨b, o, none⟩ = (wr).frozen? ⟨b, o, none⟩)) ((exact held_of (by (repeat (with_reducible (first | exact Ext.refl _ | assumption | exact held_left (by assumption) | apply Ext.drewN | apply Ext.drew | apply Ext.alloc | (refine Ext.setCell ?_ (by first | (simp; done) | (simp; omega) | omega) _) | (refine Ext.trans ?_ (by assumption)) | (refine Ext.trans ?_ (held_left (by assumption))))))))) (fail)
        go_wp2
        go_ret
        exact ⟨ret_bool HR.out.symm, hE.out.trans (by (repeat (with_reducible (first | exact Ext.refl _ | assumption | exact held_left (by assumption) | apply Ext.drewN | apply Ext.drew | apply Ext.alloc | (refine Ext.setCell ?_ (by first | (simp; done) | (simp; omega) | omega) _) | (refine Ext.trans ?_ (by assumption)) | (refine Ext.trans ?_ (held_left (by assumption)))))))⟩
    · have hkk : k = l.length := by omega
      have HR := Hid.mk' (show rfsB l m = true from rfsB_true.2 (List.ext_getElem HN.out (fun i h1 h2 => hrel.out i h1 h2 (by omega))))
      subst hkk
      go_wp2
      go_ret
      exact ⟨ret_bool HR.out.symm, hE.out⟩

theorem flatR_len (l : List Rf) : (l.map Rf.cells).flatten.length = l.length * 2 := by
  have := flat_length 2 (l.map Rf.cells) (fun xs hxs => by simp at hxs; obtain ⟨c, _, rfl⟩ := hxs; rfl)
  rwa [List.length_map] at this
theorem news_ref {w : World} {b o : Nat} {l : List Rf} (h : ∀ i, i < l.length → ∀ j, j < 2 → w.cell? ⟨b, o + i * 2 + j, none⟩ = ((l.map Rf.cells).getD i [])[j]?) : ∀ j u, ((l.map Rf.cells).flatten)[j]? = some u → w.cell? ((⟨b, o, none⟩ : Addr).add j) = some u := by
  intro j u hj
  have hjl : j < l.length * 2 := by
    rcases Nat.lt_or_ge j (l.length * 2) with h | h
    · exact h
    · rw [List.getElem?_eq_none (by rw [flatR_len]; exact h)] at hj; cases hj
  have hplain : (⟨b, o, none⟩ : Addr).add j = ⟨b, o + j, none⟩ := by unfold Addr.add; split <;> simp_all
  have hi : j / 2 < l.length := by omega
  have hq := flat_get 2 (l.map Rf.cells) (fun xs hxs => by simp at hxs; obtain ⟨c, _, rfl⟩ := hxs; rfl) (j / 2) (by simpa using hi) (j % 2) (Nat.mod_lt _ (by decide))
  have hm : j / 2 * 2 + j % 2 = j := by omega
  rw [hm] at hq
  rw [hplain, ← hj, hq, ← h (j / 2) hi (j % 2) (Nat.mod_lt _ (by decide)), Nat.add_assoc, hm]

set_option maxRecDepth 100000 in set_option maxHeartbeats 1600000 in
theorem clonef_any (l : List Rf) (a : Option Addr) (cap : Nat) (w : World) (hl : Sl w (.slice a l.length cap) 2 (l.map Rf.cells)) (hlen : l.length ≤ 1000) :
    Calls Try.prog 63 #[.slice a l.length cap] w fun e w' => ∃ a' cap', e = .returned (.slice a' l.length cap') ∧ w'.ownsRow w.heap.size 33 2 (.slice a' l.length cap') l.length ((l.map Rf.cells).flatten) ∧ Ext w w' := by
  obtain ⟨i0, hi, hz0, hz1, hz2⟩ := info_parts Try.infoRfQ
  have HL := Hid.mk' hl
  clear hl
  cases a with
  | none =>
    have h0 : l = [] := by
      obtain ⟨a, c, hv, h⟩ := HL.out
      simp only [Value.slice.injEq] at hv
      rcases h with h | ⟨b, o, ha, _⟩
      · simpa using h
      · rw [← hv.1] at ha; cases ha
    obtain ⟨a, c, hv, -⟩ := HL.out
    subst h0
    clear HL hv
    go_enter Try.func63, Try.ntmps63
    go_wp2
    go_ret
    exact ⟨_, _, rfl, World.ownsRow_nil _ _ _ _, by (repeat (with_reducible (first | exact Ext.refl _ | assumption | exact held_left (by assumption) | apply Ext.drewN | apply Ext.drew | apply Ext.alloc | (refine Ext.setCell ?_ (by first | (simp; done) | (simp; omega) | omega) _) | (refine Ext.trans ?_ (by assumption)) | (refine Ext.trans ?_ (held_left (by assumption))))))⟩
  | some ad =>
    have hnews : ∀ j u, ((l.map Rf.cells).flatten)[j]? = some u → (w.alloc (.cells #[] 33)).cell? (ad.add j) = some u := by
      obtain ⟨a, c, hv, h⟩ := HL.out
      simp only [Value.slice.injEq] at hv
      obtain ⟨rfl, -, -⟩ := hv
      rcases h with h | ⟨b, o, ha, hb, hc⟩
      · have h0 : l = [] := by simpa using h
        subst h0; intro j u hj; simp at hj
      · cases ha
        refine news_ref fun i hi j hj => ?_
        have hE : Ext w (w.alloc (.cells #[] 33)) := (Ext.refl w).alloc _
        rw [hE.cells.1 b _ hb]
        exact hc i (by simpa using hi) j hj
    have HN := Hid.mk' hnews
    clear HL hnews
    go_enter Try.func63, Try.ntmps63
    go_wp2_with (at_builtin; refine wpList_append_own _ rfl _ _ 65 rfl w.heap.size 33 i0 _ 2 8 Try.underlying65 hi hz0 hz1 hz2 rfl (by decide) (.slice (some ⟨w.heap.size, 0, none⟩) 0 0) 0 [] rfl ?c0 _ l.length _ ((l.map Rf.cells).flatten) rfl (flatR_len l) HN.out ?c2 ?c3 ?c4 ?c5 ?_)
    case c0 => exact ⟨rfl, .inr ⟨_, 0, #[], rfl, Nat.le_refl _, Blk.new w #[] _, Nat.le_refl _, Nat.zero_le _, rfl, rfl⟩⟩
    case c2 => intro u hu; rw [List.mem_flatten] at hu; obtain ⟨xs, hxs, hu⟩ := hu; rw [List.mem_map] at hxs; obtain ⟨c, _, rfl⟩ := hxs; simp [Rf.cells] at hu; rcases hu with rfl | rfl <;> rfl
    case c3 => unfold maxLen; omega
    case c4 => omega
    case c5 => simp
    intro v' w2 hown hgrow _
    have hown : w2.ownsRow w.heap.size 33 2 v' l.length ((l.map Rf.cells).flatten) := by simpa using hown
    have hE2 : Ext w w2 := ((Ext.refl w).alloc (.cells #[] 33)).grown (v := .slice (some ⟨w.heap.size, 0, none⟩) 0 0) (e := 33) (size := 2) (n := 0) (xs := []) ⟨rfl, .inr ⟨_, 0, #[], rfl, Nat.le_refl _, Blk.new w #[] _, Nat.le_refl _, Nat.zero_le _, rfl, rfl⟩⟩ hgrow
    obtain ⟨a', c', rfl⟩ := owns_shape hown
    have HO := Hid.mk' hown
    have HE2 := Hid.mk' hE2
    clear hown hE2 hgrow
    go_wp2
    go_ret
    exact ⟨a', c', rfl, HO.out, HE2.out⟩

end Go.Proofs.Ythdjinicmnhgpaa
