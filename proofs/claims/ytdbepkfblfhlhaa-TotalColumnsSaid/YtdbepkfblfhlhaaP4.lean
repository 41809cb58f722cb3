/-
The program's cell: texty, typed, Of, Large, Alike, Right.
-/
import Derived.Scope
import Derived.WalkMore
import Derived.Test.YtdbepkfblfhlhaaP3
namespace Go.Proofs.Ytdbepkfblfhlhaa
open Go.RowKit

set_option maxRecDepth 20000 in set_option maxHeartbeats 400000 in
theorem texty_yes (kind : Int) (w : World) (h : kind = 5 ∨ kind = 6) : Calls Try.prog 111 #[.int .u8 kind] w fun e w' => e = .returned (.bool true) ∧ w = w' := by
  rcases h with rfl | rfl
  all_goals
    go_enter Try.func111, Try.ntmps111
    go_wp2
    go_ret
    exact ⟨rfl, rfl⟩
set_option maxRecDepth 20000 in set_option maxHeartbeats 400000 in
theorem texty_no (kind : Int) (w : World) (h : kind ≠ 5 ∧ kind ≠ 6) : Calls Try.prog 111 #[.int .u8 kind] w fun e w' => e = .returned (.bool false) ∧ w = w' := by
  have h5 : (kind == 5) = false := by simpa using h.1
  have h6 : (kind == 6) = false := by simpa using h.2
  clear h
  go_enter Try.func111, Try.ntmps111
  go_wp2
  go_ret
  exact ⟨rfl, rfl⟩
set_option maxRecDepth 20000 in set_option maxHeartbeats 400000 in
theorem typed_yes (kind : Int) (w : World) (h1 : 1 ≤ kind) (h2 : kind ≤ 6) : Calls Try.prog 118 #[.int .u8 kind] w fun e w' => e = .returned (.bool true) ∧ w = w' := by
  go_enter Try.func118, Try.ntmps118
  go_wp2
  go_ret
  exact ⟨ret_bool (by first | (simp; done) | (simp; omega)), rfl⟩
set_option maxRecDepth 20000 in set_option maxHeartbeats 400000 in
theorem typed_no (kind : Int) (w : World) (h : kind < 1 ∨ 6 < kind) : Calls Try.prog 118 #[.int .u8 kind] w fun e w' => e = .returned (.bool false) ∧ w = w' := by
  go_enter Try.func118, Try.ntmps118
  go_wp2
  all_goals
    go_ret
    exact ⟨ret_bool (by first | (simp; done) | (simp; omega)), rfl⟩

set_option maxRecDepth 100000 in set_option maxHeartbeats 1600000 in
theorem cof_any (ty n : Int) (x y : Nat) (s : ByteArray) (w : World) :
    Calls Try.prog 64 #[.agg #[.int .u8 ty, .int .i64 n, .complex .f64 x y, .string s]] w fun e w' =>
      e = .returned (.agg #[.int .u8 2, .int .u8 ty, .int .i64 n, .complex .f64 x y, .string s]) ∧ Ext w w' := by
  go_enter Try.func64, Try.ntmps64
  go_wp2
  simp [bodyPost, results, Try.results64, go_sem]
  (repeat (with_reducible (first | exact Ext.refl _ | assumption | exact held_left (by assumption) | apply Ext.drewN | apply Ext.drew | apply Ext.alloc | (refine Ext.setCell ?_ (by first | (simp; done) | (simp; omega) | omega) _) | (refine Ext.trans ?_ (by assumption)) | (refine Ext.trans ?_ (held_left (by assumption))))))

set_option maxRecDepth 100000 in set_option maxHeartbeats 1600000 in
theorem clarge_any (k ty n : Int) (x y : Nat) (s : ByteArray) (w : World) :
    Calls Try.prog 109 #[.agg #[.int .u8 k, .int .u8 ty, .int .i64 n, .complex .f64 x y, .string s]] w fun e w' => e = .returned (.bool (largeB k ty s)) ∧ Ext w w' := by
  by_cases hk : k = 2
  · subst hk
    by_cases ht : ty = 5 ∨ ty = 6
    · have hL : Hid (largeB 2 ty s = decide (64 < s.size)) := Hid.mk' (by unfold largeB; exact decide_eq_decide.2 ⟨fun h => h.2.2, fun h => ⟨rfl, ht, h⟩⟩)
      have HT := Hid.mk' (fun w => texty_yes ty w ht)
      clear ht
      go_enter Try.func109, Try.ntmps109
      go_wp2_with (go_at_call 111; refine (HT.out _).mono ?_; rintro e w1 ⟨rfl, rfl⟩)
      go_ret
      exact ⟨ret_bool (by rw [hL.out]; first | rfl | (apply decide_eq_decide.2; omega)), by (repeat (with_reducible (first | exact Ext.refl _ | assumption | exact held_left (by assumption) | apply Ext.drewN | apply Ext.drew | apply Ext.alloc | (refine Ext.setCell ?_ (by first | (simp; done) | (simp; omega) | omega) _) | (refine Ext.trans ?_ (by assumption)) | (refine Ext.trans ?_ (held_left (by assumption))))))⟩
    · have hL : Hid (largeB 2 ty s = false) := Hid.mk' (by unfold largeB; rw [decide_eq_false_iff_not]; exact fun h => ht h.2.1)
      have HT := Hid.mk' (fun w => texty_no ty w (by omega))
      clear ht
      go_enter Try.func109, Try.ntmps109
      go_wp2_with (go_at_call 111; refine (HT.out _).mono ?_; rintro e w1 ⟨rfl, rfl⟩)
      go_ret
      exact ⟨ret_bool hL.out.symm, by (repeat (with_reducible (first | exact Ext.refl _ | assumption | exact held_left (by assumption) | apply Ext.drewN | apply Ext.drew | apply Ext.alloc | (refine Ext.setCell ?_ (by first | (simp; done) | (simp; omega) | omega) _) | (refine Ext.trans ?_ (by assumption)) | (refine Ext.trans ?_ (held_left (by assumption))))))⟩
  · have hL : Hid (largeB k ty s = false) := Hid.mk' (by unfold largeB; rw [decide_eq_false_iff_not]; exact fun h => hk h.1)
    have hk2 : (k == 2) = false := by simpa using hk
    clear hk
    go_enter Try.func109, Try.ntmps109
    go_wp2
    go_ret
    exact ⟨ret_bool hL.out.symm, by (repeat (with_reducible (first | exact Ext.refl _ | assumption | exact held_left (by assumption) | apply Ext.drewN | apply Ext.drew | apply Ext.alloc | (refine Ext.setCell ?_ (by first | (simp; done) | (simp; omega) | omega) _) | (refine Ext.trans ?_ (by assumption)) | (refine Ext.trans ?_ (held_left (by assumption))))))⟩

/-- Are two cells alike? -/
def alikeB (k ty n : Int) (x y : Nat) (s : ByteArray) (k' ty' n' : Int) (x' y' : Nat) (s' : ByteArray) : Bool := decide (k = k' ∧ ty = ty' ∧ n = n' ∧ x = x' ∧ y = y' ∧ s = s')
theorem alike_same {k ty n : Int} {x y : Nat} {s : ByteArray} {ty' n' : Int} {x' y' : Nat} {s' : ByteArray} : alikeB k ty n x y s k ty' n' x' y' s' = sameB ty n x y s ty' n' x' y' s' := by
  unfold alikeB sameB; exact decide_eq_decide.2 ⟨fun h => h.2, fun h => ⟨rfl, h⟩⟩

set_option maxRecDepth 100000 in set_option maxHeartbeats 1600000 in
theorem calike_any (k ty n : Int) (x y : Nat) (s : ByteArray) (k' ty' n' : Int) (x' y' : Nat) (s' : ByteArray) (w : World) :
    Calls Try.prog 37 #[.agg #[.int .u8 k, .int .u8 ty, .int .i64 n, .complex .f64 x y, .string s], .agg #[.int .u8 k', .int .u8 ty', .int .i64 n', .complex .f64 x' y', .string s']] w fun e w' =>
      e = .returned (.bool (alikeB k ty n x y s k' ty' n' x' y' s')) ∧ Ext w w' := by
  by_cases hk : k = k'
  · subst hk
    have HS := Hid.mk' (fun w => vsame_any ty n x y s ty' n' x' y' s' w)
    go_enter Try.func37, Try.ntmps37
    go_wp2_with (go_at_call 20; refine (HS.out _).mono ?_; rintro e w1 ⟨rfl, hb1⟩)
    go_ret
    exact ⟨ret_bool (by rw [alike_same]), by (repeat (with_reducible (first | exact Ext.refl _ | assumption | exact held_left (by assumption) | apply Ext.drewN | apply Ext.drew | apply Ext.alloc | (refine Ext.setCell ?_ (by first | (simp; done) | (simp; omega) | omega) _) | (refine Ext.trans ?_ (by assumption)) | (refine Ext.trans ?_ (held_left (by assumption))))))⟩
  · have hL : Hid (alikeB k ty n x y s k' ty' n' x' y' s' = false) := Hid.mk' (by unfold alikeB; rw [decide_eq_false_iff_not]; exact fun h => hk h.1)
    have hk2 : (k == k') = false := by simpa using hk
    clear hk
    go_enter Try.func37, Try.ntmps37
    go_wp2
    go_ret
    exact ⟨ret_bool hL.out.symm, by (repeat (with_reducible (first | exact Ext.refl _ | assumption | exact held_left (by assumption) | apply Ext.drewN | apply Ext.drew | apply Ext.alloc | (refine Ext.setCell ?_ (by first | (simp; done) | (simp; omega) | omega) _) | (refine Ext.trans ?_ (by assumption)) | (refine Ext.trans ?_ (held_left (by assumption))))))⟩

theorem same_zero {ty n : Int} {x y : Nat} {s : ByteArray} : sameB ty n x y s 0 0 0 0 ByteArray.empty = decide (ty = 0 ∧ n = 0 ∧ (x : Int) = 0 ∧ (y : Int) = 0 ∧ s.size = 0) := by
  unfold sameB; exact decide_eq_decide.2 ⟨fun h => ⟨h.1, h.2.1, by omega, by omega, (size_zero s).1 h.2.2.2.2⟩, fun h => ⟨h.1, h.2.1, by omega, by omega, (size_zero s).2 h.2.2.2.2⟩⟩

set_option maxRecDepth 100000 in set_option maxHeartbeats 1600000 in
theorem cright_any (k ty n : Int) (x y : Nat) (s : ByteArray) (kind : Int) (w : World) (hk0 : 0 ≤ k) (hs : s.size ≤ 9223372036854775807) :
    Calls Try.prog 83 #[.agg #[.int .u8 k, .int .u8 ty, .int .i64 n, .complex .f64 x y, .string s], .int .u8 kind] w fun e w' => e = .returned (.int .i64 (rightC k ty n x y s kind)) ∧ Ext w w' := by
  have HV := Hid.mk' (fun w => vright_any ty n x y s w hs)
  have HSa := Hid.mk' (fun w => vsame_any ty n x y s 0 0 0 0 ByteArray.empty w)
  rw [same_zero] at HSa
  by_cases hkd : kind < 1 ∨ 6 < kind
  · have HR : Hid (rightC k ty n x y s kind = 11) := Hid.mk' (by unfold rightC; rw [if_pos hkd])
    have HT := Hid.mk' (fun w => typed_no kind w hkd)
    clear hkd
    go_enter Try.func83, Try.ntmps83
    go_wp2_with (go_at_call 118; refine (HT.out _).mono ?_; rintro e w1 ⟨rfl, rfl⟩)
    go_ret
    exact ⟨ret_int HR.out.symm, by (repeat (with_reducible (first | exact Ext.refl _ | assumption | exact held_left (by assumption) | apply Ext.drewN | apply Ext.drew | apply Ext.alloc | (refine Ext.setCell ?_ (by first | (simp; done) | (simp; omega) | omega) _) | (refine Ext.trans ?_ (by assumption)) | (refine Ext.trans ?_ (held_left (by assumption))))))⟩
  have HT := Hid.mk' (fun w => typed_yes kind w (by omega) (by omega))
  by_cases hk2 : 2 < k
  · have HR : Hid (rightC k ty n x y s kind = 7) := Hid.mk' (by unfold rightC; rw [if_neg hkd, if_pos hk2])
    clear hkd
    go_enter Try.func83, Try.ntmps83
    go_wp2_with (go_at_call 118; refine (HT.out _).mono ?_; rintro e w1 ⟨rfl, rfl⟩)
    go_ret
    exact ⟨ret_int HR.out.symm, by (repeat (with_reducible (first | exact Ext.refl _ | assumption | exact held_left (by assumption) | apply Ext.drewN | apply Ext.drew | apply Ext.alloc | (refine Ext.setCell ?_ (by first | (simp; done) | (simp; omega) | omega) _) | (refine Ext.trans ?_ (by assumption)) | (refine Ext.trans ?_ (held_left (by assumption))))))⟩
  by_cases hk3 : k < 2
  · by_cases hz : ty = 0 ∧ n = 0 ∧ (x : Int) = 0 ∧ (y : Int) = 0 ∧ s.size = 0
    · rw [decide_eq_true hz] at HSa
      by_cases h1 : k = 1
      · subst h1
        by_cases ht : kind = 5 ∨ kind = 6
        · have HR : Hid (rightC 1 ty n x y s kind = 0) := Hid.mk' (by unfold rightC; rw [if_neg hkd, if_neg hk2, if_pos hk3, if_pos hz, if_neg (by omega)])
          have HX := Hid.mk' (fun w => texty_yes kind w ht)
          clear hkd hz ht
          go_enter Try.func83, Try.ntmps83
          go_wp2_with (first
            | (go_at_call 118; refine (HT.out _).mono ?_; rintro e w1 ⟨rfl, rfl⟩)
            | (go_at_call 20; refine (HSa.out _).mono ?_; rintro e w1 ⟨rfl, hb1⟩; have h1 := (Blk.new w #[.int .u8 1, .int .u8 ty, .int .i64 n, .complex .f64 x y, .string s] 78).ext hb1; have k1 := h1.cell; have z1 := h1.lt)
            | (go_at_call 111; refine (HX.out _).mono ?_; rintro e w1 ⟨rfl, rfl⟩))
          go_ret
          exact ⟨ret_int HR.out.symm, by (repeat (with_reducible (first | exact Ext.refl _ | assumption | exact held_left (by assumption) | apply Ext.drewN | apply Ext.drew | apply Ext.alloc | (refine Ext.setCell ?_ (by first | (simp; done) | (simp; omega) | omega) _) | (refine Ext.trans ?_ (by assumption)) | (refine Ext.trans ?_ (held_left (by assumption))))))⟩
        · have HR : Hid (rightC 1 ty n x y s kind = 11) := Hid.mk' (by unfold rightC; rw [if_neg hkd, if_neg hk2, if_pos hk3, if_pos hz, if_pos (by omega)])
          have HX := Hid.mk' (fun w => texty_no kind w (by omega))
          clear hkd hz ht
          go_enter Try.func83, Try.ntmps83
          go_wp2_with (first
            | (go_at_call 118; refine (HT.out _).mono ?_; rintro e w1 ⟨rfl, rfl⟩)
            | (go_at_call 20; refine (HSa.out _).mono ?_; rintro e w1 ⟨rfl, hb1⟩; have h1 := (Blk.new w #[.int .u8 1, .int .u8 ty, .int .i64 n, .complex .f64 x y, .string s] 78).ext hb1; have k1 := h1.cell; have z1 := h1.lt)
            | (go_at_call 111; refine (HX.out _).mono ?_; rintro e w1 ⟨rfl, rfl⟩))
          go_ret
          exact ⟨ret_int HR.out.symm, by (repeat (with_reducible (first | exact Ext.refl _ | assumption | exact held_left (by assumption) | apply Ext.drewN | apply Ext.drew | apply Ext.alloc | (refine Ext.setCell ?_ (by first | (simp; done) | (simp; omega) | omega) _) | (refine Ext.trans ?_ (by assumption)) | (refine Ext.trans ?_ (held_left (by assumption))))))⟩
      · obtain rfl : k = 0 := by omega
        have HR : Hid (rightC 0 ty n x y s kind = 0) := Hid.mk' (by unfold rightC; rw [if_neg hkd, if_neg hk2, if_pos hk3, if_pos hz, if_neg (by omega)])
        clear hkd hz h1
        go_enter Try.func83, Try.ntmps83
        go_wp2_with (first
          | (go_at_call 118; refine (HT.out _).mono ?_; rintro e w1 ⟨rfl, rfl⟩)
          | (go_at_call 20; refine (HSa.out _).mono ?_; rintro e w1 ⟨rfl, hb1⟩; have h1 := (Blk.new w #[.int .u8 0, .int .u8 ty, .int .i64 n, .complex .f64 x y, .string s] 78).ext hb1; have k1 := h1.cell; have z1 := h1.lt))
        go_ret
        exact ⟨ret_int HR.out.symm, by (repeat (with_reducible (first | exact Ext.refl _ | assumption | exact held_left (by assumption) | apply Ext.drewN | apply Ext.drew | apply Ext.alloc | (refine Ext.setCell ?_ (by first | (simp; done) | (simp; omega) | omega) _) | (refine Ext.trans ?_ (by assumption)) | (refine Ext.trans ?_ (held_left (by assumption))))))⟩
    · rw [decide_eq_false hz] at HSa
      have HR : Hid (rightC k ty n x y s kind = 3) := Hid.mk' (by unfold rightC; rw [if_neg hkd, if_neg hk2, if_pos hk3, if_neg hz])
      have hkn : (k == 2) = false := by simp; omega
      have hkm : (k != 2) = true := by simp; omega
      clear hkd hz
      go_enter Try.func83, Try.ntmps83
      go_wp2_with (first
        | (go_at_call 118; refine (HT.out _).mono ?_; rintro e w1 ⟨rfl, rfl⟩)
        | (go_at_call 20; refine (HSa.out _).mono ?_; rintro e w1 ⟨rfl, hb1⟩; have h1 := (Blk.new w #[.int .u8 k, .int .u8 ty, .int .i64 n, .complex .f64 x y, .string s] 78).ext hb1; have k1 := h1.cell; have z1 := h1.lt))
      go_ret
      exact ⟨ret_int HR.out.symm, by (repeat (with_reducible (first | exact Ext.refl _ | assumption | exact held_left (by assumption) | apply Ext.drewN | apply Ext.drew | apply Ext.alloc | (refine Ext.setCell ?_ (by first | (simp; done) | (simp; omega) | omega) _) | (refine Ext.trans ?_ (by assumption)) | (refine Ext.trans ?_ (held_left (by assumption))))))⟩
  · obtain rfl : k = 2 := by omega
    obtain ⟨R, hR⟩ : ∃ R, R = rightV ty n x y s := ⟨_, rfl⟩
    rw [← hR] at HV
    by_cases h0 : R = 0
    · subst h0
      by_cases ht : ty = kind
      · have HR : Hid (rightC 2 ty n x y s kind = 0) := Hid.mk' (right_mk hR.symm ht)
        subst ht
        clear hkd hR
        go_enter Try.func83, Try.ntmps83
        go_wp2_with (first
          | (go_at_call 118; refine (HT.out _).mono ?_; rintro e w1 ⟨rfl, rfl⟩)
          | (go_at_call 119; refine (HV.out _).mono ?_; rintro e w1 ⟨rfl, hb1⟩; have h1 := (Blk.new w #[.int .u8 2, .int .u8 ty, .int .i64 n, .complex .f64 x y, .string s] 78).ext hb1; have k1 := h1.cell; have z1 := h1.lt))
        go_ret
        exact ⟨ret_int HR.out.symm, by (repeat (with_reducible (first | exact Ext.refl _ | assumption | exact held_left (by assumption) | apply Ext.drewN | apply Ext.drew | apply Ext.alloc | (refine Ext.setCell ?_ (by first | (simp; done) | (simp; omega) | omega) _) | (refine Ext.trans ?_ (by assumption)) | (refine Ext.trans ?_ (held_left (by assumption))))))⟩
      · have HR : Hid (rightC 2 ty n x y s kind = 11) := Hid.mk' (by unfold rightC; rw [if_neg hkd, if_neg hk2, if_neg hk3, if_neg (by rw [← hR]; decide), if_pos ht])
        have ht2 : (ty != kind) = true := by simpa using ht
        clear hkd hR ht
        go_enter Try.func83, Try.ntmps83
        go_wp2_with (first
          | (go_at_call 118; refine (HT.out _).mono ?_; rintro e w1 ⟨rfl, rfl⟩)
          | (go_at_call 119; refine (HV.out _).mono ?_; rintro e w1 ⟨rfl, hb1⟩; have h1 := (Blk.new w #[.int .u8 2, .int .u8 ty, .int .i64 n, .complex .f64 x y, .string s] 78).ext hb1; have k1 := h1.cell; have z1 := h1.lt))
        go_ret
        exact ⟨ret_int HR.out.symm, by (repeat (with_reducible (first | exact Ext.refl _ | assumption | exact held_left (by assumption) | apply Ext.drewN | apply Ext.drew | apply Ext.alloc | (refine Ext.setCell ?_ (by first | (simp; done) | (simp; omega) | omega) _) | (refine Ext.trans ?_ (by assumption)) | (refine Ext.trans ?_ (held_left (by assumption))))))⟩
    · have HR : Hid (rightC 2 ty n x y s kind = R) := Hid.mk' (by unfold rightC; rw [if_neg hkd, if_neg hk2, if_neg hk3, if_pos (by rw [← hR]; exact h0), hR])
      have h02 : (R != 0) = true := by simpa using h0
      clear hkd hR h0
      go_enter Try.func83, Try.ntmps83
      go_wp2_with (first
        | (go_at_call 118; refine (HT.out _).mono ?_; rintro e w1 ⟨rfl, rfl⟩)
        | (go_at_call 119; refine (HV.out _).mono ?_; rintro e w1 ⟨rfl, hb1⟩; have h1 := (Blk.new w #[.int .u8 2, .int .u8 ty, .int .i64 n, .complex .f64 x y, .string s] 78).ext hb1; have k1 := h1.cell; have z1 := h1.lt))
      go_ret
      exact ⟨ret_int HR.out.symm, by (repeat (with_reducible (first | exact Ext.refl _ | assumption | exact held_left (by assumption) | apply Ext.drewN | apply Ext.drew | apply Ext.alloc | (refine Ext.setCell ?_ (by first | (simp; done) | (simp; omega) | omega) _) | (refine Ext.trans ?_ (by assumption)) | (refine Ext.trans ?_ (held_left (by assumption))))))⟩

end Go.Proofs.Ytdbepkfblfhlhaa

/-
The program's reader.
-/
namespace Go.Proofs.Ytdbepkfblfhlhaa
open Go.RowKit

/-- Of the blocks that there were only block g may have been written. -/
structure Tch (g : Nat) (w w' : World) : Prop where
  os : w'.os = w.os
  tape : w'.tape = w.tape
  output : w'.output = w.output
  size : w.heap.size ≤ w'.heap.size
  block : ∀ k, k < w.heap.size → k ≠ g → w'.heap[k]? = w.heap[k]?
theorem Tch.refl (g : Nat) (w : World) : Tch g w w := ⟨rfl, rfl, rfl, Nat.le_refl _, fun _ _ _ => rfl⟩
theorem Tch.trans {g : Nat} {a b c : World} (h : Tch g a b) (k : Tch g b c) : Tch g a c :=
  ⟨k.os.trans h.os, k.tape.trans h.tape, k.output.trans h.output, Nat.le_trans h.size k.size, fun i hi hg => (k.block i (Nat.lt_of_lt_of_le hi h.size) hg).trans (h.block i hi hg)⟩
theorem Tch.of_ext {g : Nat} {w w' : World} (h : Ext w w') : Tch g w w' := ⟨h.os, h.tape, h.output, h.size, fun k hk _ => h.block k hk⟩
theorem Tch.ext {g : Nat} {W w w' : World} (hE : Ext W w) (hg : W.heap.size ≤ g) (h : Tch g w w') : Ext W w' :=
  Below.trans hE ⟨h.os, h.tape, h.output, h.size, fun k hk => h.block k (Nat.lt_of_lt_of_le hk hE.size) (by omega)⟩
theorem Tch.set {g : Nat} {w w' : World} (h : Tch g w w') (i : Nat) (v : Value) : Tch g w (w'.setCell ⟨g, i, none⟩ v) :=
  h.trans ⟨rfl, rfl, rfl, by simp [World.setCell], fun k _ hg => Below.heap_setCell _ _ _ _ hg⟩
theorem Tch.alloc {g : Nat} {w w' : World} (h : Tch g w w') (o : Obj) : Tch g w (w'.alloc o) := h.trans (Tch.of_ext ((Ext.refl _).alloc o))
theorem Tch.drewN {g : Nat} {w w' : World} (h : Tch g w w') (n : Nat) : Tch g w (w'.drewN n) := h.trans (Tch.of_ext ((Ext.refl _).drewN n))
theorem Blk.tch {w w1 : World} {b g : Nat} {cs : Array Value} {t : TypeId} (h : Blk w b cs t) (he : Tch g w w1) (hne : b ≠ g) : Blk w1 b cs t := (he.block b h.lt hne).trans h

/-- The slice v reads as bytes; they lie in a block from d on, below g. -/
def SB (w : World) (g d : Nat) (v : Value) (l : List Int) : Prop :=
  ∃ a cap, v = .slice a l.length cap ∧ l.length ≤ cap ∧ (a = none → cap = 0) ∧ (l = [] ∨ ∃ b o, a = some ⟨b, o, none⟩ ∧ b < w.heap.size ∧ (d ≤ b ∧ b < g) ∧ ∀ i, i < l.length → w.cell? ⟨b, o + i, none⟩ = some (.int .u8 (l.getD i 0)))
theorem Tch.cell {g : Nat} {w w1 : World} (he : Tch g w w1) {b : Nat} (hb : b < w.heap.size) (hne : b ≠ g) (o : Nat) : w1.cell? ⟨b, o, none⟩ = w.cell? ⟨b, o, none⟩ :=
  World.cell?_of_block (w := w) (he.block b hb hne)
theorem SB.tch {w w1 : World} {g d h : Nat} {v : Value} {l : List Int} (hs : SB w g d v l) (he : Tch h w w1) (hh : h < d ∨ g ≤ h) : SB w1 g d v l := by
  obtain ⟨a, cap, rfl, h1, h2, hs⟩ := hs
  refine ⟨a, cap, rfl, h1, h2, hs.imp id ?_⟩
  rintro ⟨b, o, ha, hb, hd, hc⟩
  exact ⟨b, o, ha, Nat.lt_of_lt_of_le hb he.size, hd, fun i hi => (he.cell hb (by omega) _).trans (hc i hi)⟩
theorem SB.ext {w w1 : World} {g d : Nat} {v : Value} {l : List Int} (h : SB w g d v l) (he : Ext w w1) : SB w1 g d v l := by
  obtain ⟨a, cap, rfl, h1, h2, h⟩ := h
  refine ⟨a, cap, rfl, h1, h2, h.imp id ?_⟩
  rintro ⟨b, o, ha, hb, hd, hc⟩
  exact ⟨b, o, ha, Nat.lt_of_lt_of_le hb he.size, hd, fun i hi => (he.cells.1 b _ hb).trans (hc i hi)⟩
theorem SB.sl {w : World} {g d : Nat} {v : Value} {l : List Int} (h : SB w g d v l) : Sl w v 1 (l.map bcell) := by
  obtain ⟨a, cap, rfl, -, -, h⟩ := h
  refine ⟨a, cap, by simp, ?_⟩
  rcases h with rfl | ⟨b, o, ha, hb, hne, hc⟩
  · exact .inl rfl
  · refine .inr ⟨b, o, ha, hb, fun i hi j hj => ?_⟩
    obtain rfl : j = 0 := by omega
    have hi' : i < l.length := by simpa using hi
    rw [Nat.mul_one, Nat.add_zero, hc i hi']
    simp [bcell, List.getD, List.getElem?_map, List.getElem?_eq_getElem hi']
theorem SB.nil (w : World) (g d : Nat) : SB w g d (.slice none 0 0) [] := ⟨none, 0, rfl, Nat.le_refl _, fun _ => rfl, .inl rfl⟩
theorem SB.zero (w : World) (g d : Nat) (a : Option Addr) (cap : Nat) (h : a = none → cap = 0) : SB w g d (.slice a 0 cap) [] := ⟨a, cap, rfl, Nat.zero_le _, h, .inl rfl⟩
theorem SB.of_own {w : World} {g base : Nat} {v : Value} {l : List Int} (h : OB w base v l) (hg : w.heap.size ≤ g) : SB w g base v l := by
  have hs := h.sl
  rcases h.2 with ⟨rfl, h0⟩ | ⟨k, cap, cur, rfl, hb, hk, hn, _⟩
  · have : l = [] := List.length_eq_zero_iff.1 h0
    subst this; exact SB.nil _ _ _
  · refine ⟨_, cap, rfl, hn, fun h => (by cases h), ?_⟩
    rcases Nat.eq_zero_or_pos l.length with h0 | h0
    · exact .inl (List.length_eq_zero_iff.1 h0)
    · obtain ⟨h1, _, h2⟩ := Sl.bytes hs h0
      exact .inr ⟨k, 0, rfl, h1, ⟨hb, by omega⟩, h2⟩
/-- A part of a slice. -/
theorem SB.drop {w : World} {g d : Nat} {b o : Nat} {l : List Int} {len cap n : Nat} (h : SB w g d (.slice (some ⟨b, o, none⟩) len cap) l) (hn : n ≤ l.length) (len' cap' : Nat) (hlen : len' = l.length - n) (hcap : cap' = cap - n) : SB w g d (.slice (some ⟨b, o + n, none⟩) len' cap') (l.drop n) := by
  obtain ⟨a, c, hv, h1, h2, h⟩ := h
  simp only [Value.slice.injEq] at hv
  obtain ⟨rfl, rfl, rfl⟩ := hv
  subst hlen hcap
  refine ⟨some ⟨b, o + n, none⟩, cap - n, by simp, by simp; omega, fun h => (by cases h), ?_⟩
  rcases h with rfl | ⟨b', o', ha, hb, hne, hc⟩
  · exact .inl (by simp)
  · cases ha
    refine .inr ⟨b, o + n, rfl, hb, hne, fun i hi => ?_⟩
    simp only [List.length_drop] at hi
    rw [Nat.add_assoc, hc (n + i) (by omega)]
    simp [List.getD]
theorem SB.take {w : World} {g d : Nat} {a : Option Addr} {l : List Int} {len cap n : Nat} (h : SB w g d (.slice a len cap) l) (hn : n ≤ l.length) : SB w g d (.slice a n cap) (l.take n) := by
  obtain ⟨a', c, hv, h1, h2, h⟩ := h
  simp only [Value.slice.injEq] at hv
  obtain ⟨rfl, rfl, rfl⟩ := hv
  refine ⟨a, cap, by simp; omega, by simp; omega, h2, ?_⟩
  rcases h with rfl | ⟨b', o', ha, hb, hne, hc⟩
  · exact .inl (by simp)
  · refine .inr ⟨b', o', ha, hb, hne, fun i hi => ?_⟩
    simp only [List.length_take] at hi
    rw [hc i (by omega)]
    simp [List.getD, show i < n by omega]

/-- The program's reader in block g, its bytes in a block from d on, below g. -/
def RD (w : World) (g d : Nat) (st : RS) : Prop := ∃ v, Blk w g #[v, .int .i64 st.e] 161 ∧ SB w g d v st.l ∧ st.ok ∧ st.l.length ≤ 1000000
theorem RD.tch {w w1 : World} {g d h : Nat} {st : RS} (hr : RD w g d st) (he : Tch h w w1) (hg : h ≠ g) (hd : h < d ∨ g ≤ h) : RD w1 g d st := by
  obtain ⟨v, h1, h2, h3⟩ := hr
  exact ⟨v, h1.tch he hg.symm, h2.tch he hd, h3⟩
theorem RD.ext {w w1 : World} {g d : Nat} {st : RS} (hr : RD w g d st) (he : Ext w w1) : RD w1 g d st := by
  obtain ⟨v, h1, h2, h3⟩ := hr
  exact ⟨v, h1.ext he, h2.ext he, h3⟩
theorem RD.lt {w : World} {g d : Nat} {st : RS} (hr : RD w g d st) : g < w.heap.size := by obtain ⟨v, h1, _⟩ := hr; exact h1.lt

def RPost (g d : Nat) (w : World) (r : Value) (st : RS) (e : Ending) (w' : World) : Prop := e = .returned r ∧ RD w' g d st ∧ Tch g w w'

set_option maxRecDepth 100000 in set_option maxHeartbeats 1600000 in
theorem giveUp_any (g d : Nat) (st : RS) (x : Int) (w : World) (h : RD w g d st) (_hx : x ≠ 0) :
    Calls Try.prog 121 #[.pointer (some ⟨g, 0, none⟩), .int .i64 x] w (RPost g d w (.tuple #[]) (giveS st x)) := by
  obtain ⟨v, hb, hsb, hok, hlen⟩ := h
  have hc := hb.cell
  have hf := hb.frozen
  have hlt := hb.lt
  have H1 := Hid.mk' hb
  have H2 := Hid.mk' hsb
  clear hb hsb
  by_cases he : st.e = 0
  · rw [he] at hc H1
    go_enter Try.func121, Try.ntmps121
    go_wp2
    go_end0
    refine ⟨rfl, ?_, ?_⟩
    · unfold giveS; rw [if_pos he]
      exact ⟨_, (H1.out.set 1 _).set 0 _, SB.nil _ _ _, ⟨fun _ => rfl, isB.nil⟩, Nat.zero_le _⟩
    · exact ((Tch.refl g w).set 1 _).set 0 _
  · go_enter Try.func121, Try.ntmps121
    go_wp2
    go_end0
    refine ⟨rfl, ?_, Tch.refl g w⟩
    unfold giveS; rw [if_neg he]
    exact ⟨v, H1.out, H2.out, hok, hlen⟩

end Go.Proofs.Ytdbepkfblfhlhaa

/-
A scope in which the run jumps to more than one label.
-/
namespace Go.Proofs.Ytdbepkfblfhlhaa
open Go.RowKit

/-- By a goto to label l: J l; else as Q. -/
def jumps (J : Nat → Act → World → Prop) (Q : Exit → Act → World → Prop) : Exit → Act → World → Prop
  | .goto l, a, w => J l a w
  | e, a, w => Q e a w

theorem wp_scope_labels {P : Program} {a : Act} {w : World} {Q : Exit → Act → World → Prop} {c : Code} (rest : Nat → Code) (J : Nat → Act → World → Prop) (μ : Nat → Act → World → Nat) (hf : ∀ l a w, J l a w → findLabel c l = some (rest l))
    (first : c.wp P (jumps J Q) a w)
    (pass : ∀ l a w, J l a w → (rest l).wp P (jumps (fun l' a' w' => J l' a' w' ∧ μ l' a' w' < μ l a w) Q) a w) : (Code.scope c).wp P Q a w := by
  intro b k cs
  have hg : ∀ l a w, J l a w → gotoIn l (.inScope c :: k) = some (.code (rest l) :: .inScope c :: k) := fun l a w h => by simp [gotoIn, hf l a w h]
  have key : ∀ n l a w, μ l a w = n → J l a w → ∃ e a' w', Q e a' w' ∧ Arrives P (lone (b.at a (.code (rest l) :: .inScope c :: k)) cs w) b k cs e a' w' := by
    intro n
    induction n using Nat.strongRecOn with
    | _ n ih =>
      intro l a w hn hJ
      obtain ⟨e, a₁, w₁, hq, harr⟩ := pass l a w hJ b (.inScope c :: k) cs
      cases e with
      | normal => exact ⟨.normal, a₁, w₁, hq, Steps.trans harr (.one step_inScope)⟩
      | exit id => exact ⟨.exit id, a₁, w₁, hq, fun k' hk => harr k' (by simp [exitTo, hk])⟩
      | goto l' =>
        obtain ⟨hJ', hlt⟩ := hq
        obtain ⟨e₂, a₂, w₂, hq₂, harr₂⟩ := ih _ (by omega) l' a₁ w₁ rfl hJ'
        exact ⟨e₂, a₂, w₂, hq₂, .of_steps (harr _ (hg _ _ _ hJ')) harr₂⟩
      | ret => exact ⟨_, a₁, w₁, hq, harr⟩
      | panic ch => exact ⟨_, a₁, w₁, hq, harr⟩
      | outgrown => exact ⟨_, a₁, w₁, hq, harr⟩
  obtain ⟨e, a₁, w₁, hq, harr⟩ := first b (.inScope c :: k) cs
  cases e with
  | normal => exact ⟨.normal, a₁, w₁, hq, .head step_scope (Steps.trans harr (.one step_inScope))⟩
  | exit id => exact ⟨.exit id, a₁, w₁, hq, fun k' hk => .head step_scope (harr k' (by simp [exitTo, hk]))⟩
  | goto l' =>
    obtain ⟨e₂, a₂, w₂, hq₂, harr₂⟩ := key _ l' a₁ w₁ rfl hq
    exact ⟨e₂, a₂, w₂, hq₂, .of_steps (.head step_scope (harr _ (hg _ _ _ hq))) harr₂⟩
  | ret => exact ⟨_, a₁, w₁, hq, .of_steps (.one step_scope) harr⟩
  | panic ch => exact ⟨_, a₁, w₁, hq, .of_steps (.one step_scope) harr⟩
  | outgrown => exact ⟨_, a₁, w₁, hq, .of_steps (.one step_scope) harr⟩

/-- By a goto to label 0: J0; to label 1: J1; else as Q. -/
def jumps2 (J0 J1 : Act → World → Prop) (Q : Exit → Act → World → Prop) : Exit → Act → World → Prop := jumps (fun l a w => (l = 0 ∧ J0 a w) ∨ (l = 1 ∧ J1 a w)) Q
theorem jumps2_zero {J0 J1 : Act → World → Prop} {Q : Exit → Act → World → Prop} {a : Act} {w : World} (h : J0 a w) : jumps2 J0 J1 Q (.goto 0) a w := .inl ⟨rfl, h⟩
theorem jumps2_one {J0 J1 : Act → World → Prop} {Q : Exit → Act → World → Prop} {a : Act} {w : World} (h : J1 a w) : jumps2 J0 J1 Q (.goto 1) a w := .inr ⟨rfl, h⟩
theorem jumps2_ret {J0 J1 : Act → World → Prop} {Q : Exit → Act → World → Prop} {a : Act} {w : World} (h : Q .ret a w) : jumps2 J0 J1 Q .ret a w := h
theorem jumps2_mono {J0 J1 J0' J1' : Act → World → Prop} {Q : Exit → Act → World → Prop} (h0 : ∀ a w, J0 a w → J0' a w) (h1 : ∀ a w, J1 a w → J1' a w) : ∀ e a w, jumps2 J0 J1 Q e a w → jumps2 J0' J1' Q e a w := by
  intro e a w h
  cases e with
  | goto l => exact h.imp (fun ⟨x, y⟩ => ⟨x, h0 _ _ y⟩) (fun ⟨x, y⟩ => ⟨x, h1 _ _ y⟩)
  | normal => exact h
  | exit id => exact h
  | ret => exact h
  | panic c => exact h
  | outgrown => exact h

theorem skip_seq {P : Program} {a : Act} {w : World} {Q : Exit → Act → World → Prop} {c : Code} (h : c.wp P Q a w) : (Code.skip.seq c).wp P Q a w := wp_seq (wp_skip h)
theorem wp_scope_two {P : Program} {a : Act} {w : World} {Q : Exit → Act → World → Prop} {c X0 X1 : Code} (J0 J1 : Act → World → Prop) (μ : Act → World → Nat) (h0 : findLabel c 0 = some (Code.skip.seq X0)) (h1 : findLabel c 1 = some (Code.skip.seq X1))
    (first : (∀ a w, J0 a w → X0.wp P (jumps2 J0 J1 Q) a w) → c.wp P (jumps2 J0 J1 Q) a w)
    (pass0 : ∀ a w, J0 a w → X0.wp P (jumps2 (fun a' w' => J0 a' w' ∧ μ a' w' < μ a w) J1 Q) a w)
    (pass1 : ∀ a w, J1 a w → X1.wp P (jumps2 (fun _ _ => False) (fun _ _ => False) Q) a w) : (Code.scope c).wp P Q a w := by
  refine wp_scope_labels (fun l => if l = 0 then Code.skip.seq X0 else Code.skip.seq X1) (fun l a w => (l = 0 ∧ J0 a w) ∨ (l = 1 ∧ J1 a w)) (fun l a w => if l = 0 then μ a w + 1 else 0) ?_ (first fun a w h => wp_mono (pass0 a w h) (jumps2_mono (fun _ _ h => h.1) (fun _ _ h => h))) ?_
  · rintro l a w (⟨rfl, _⟩ | ⟨rfl, _⟩)
    · exact h0
    · exact h1
  · rintro l a w (⟨rfl, h⟩ | ⟨rfl, h⟩)
    · refine skip_seq (wp_mono (pass0 a w h) ?_)
      intro e a' w' he
      cases e with
      | goto l' =>
        rcases he with ⟨rfl, hj, hlt⟩ | ⟨rfl, hj⟩
        · exact ⟨.inl ⟨rfl, hj⟩, by simpa using hlt⟩
        · exact ⟨.inr ⟨rfl, hj⟩, by simp⟩
      | normal => exact he
      | exit id => exact he
      | ret => exact he
      | panic c => exact he
      | outgrown => exact he
    · refine skip_seq (wp_mono (pass1 a w h) ?_)
      intro e a' w' he
      cases e with
      | goto l' => rcases he with ⟨_, hj⟩ | ⟨_, hj⟩ <;> exact hj.elim
      | normal => exact he
      | exit id => exact he
      | ret => exact he
      | panic c => exact he
      | outgrown => exact he

end Go.Proofs.Ytdbepkfblfhlhaa

/-
The program's reader: what it tells; its digits.
-/
namespace Go.Proofs.Ytdbepkfblfhlhaa
open Go.RowKit

set_option maxRecDepth 100000 in set_option maxHeartbeats 1600000 in
theorem fail_any (g d : Nat) (st : RS) (x : Int) (w : World) (h : RD w g d st) :
    Calls Try.prog 86 #[.pointer (some ⟨g, 0, none⟩), .int .i64 x] w (RPost g d w (.tuple #[]) (failS st x)) := by
  have H := Hid.mk' h
  clear h
  by_cases hx : x = 0
  · subst hx
    go_enter Try.func86, Try.ntmps86
    go_wp2
    go_end0
    exact ⟨rfl, by unfold failS; rw [if_neg (by decide)]; exact H.out, Tch.refl g w⟩
  · have hx2 : (x != 0) = true := by simpa using hx
    have HX := Hid.mk' hx
    clear hx
    go_enter Try.func86, Try.ntmps86
    go_wp2_with (go_at_call 121; refine (giveUp_any g d st x _ H.out HX.out).mono ?_; rintro e w1 ⟨rfl, hr, ht⟩; have HR := Hid.mk' hr; have HT := Hid.mk' ht; clear hr ht)
    go_end0
    exact ⟨rfl, by unfold failS; rw [if_pos HX.out]; exact HR.out, HT.out⟩

set_option maxRecDepth 100000 in set_option maxHeartbeats 1600000 in
theorem rerr_any (g d : Nat) (st : RS) (w : World) (h : RD w g d st) :
    Calls Try.prog 52 #[.pointer (some ⟨g, 0, none⟩)] w fun e w' => e = .returned (.int .i64 st.e) ∧ w = w' := by
  obtain ⟨v, hb, hsb, hok, hlen⟩ := h
  have hc := hb.cell
  clear hb
  go_enter Try.func52, Try.ntmps52
  go_wp2
  go_ret
  exact ⟨rfl, rfl⟩

set_option maxRecDepth 100000 in set_option maxHeartbeats 1600000 in
theorem rleft_any (g d : Nat) (st : RS) (w : World) (h : RD w g d st) :
    Calls Try.prog 53 #[.pointer (some ⟨g, 0, none⟩)] w fun e w' => e = .returned (.int .i64 st.l.length) ∧ w = w' := by
  obtain ⟨v, hb, ⟨a, cap, rfl, hlc, hnc, hs⟩, hok, hlen⟩ := h
  have hc := hb.cell
  clear hb hlc hnc
  go_enter Try.func53, Try.ntmps53
  go_wp2
  go_ret
  exact ⟨rfl, rfl⟩

set_option maxRecDepth 100000 in set_option maxHeartbeats 1600000 in
theorem rend_any (g d : Nat) (st : RS) (w : World) (h : RD w g d st) :
    Calls Try.prog 55 #[.pointer (some ⟨g, 0, none⟩)] w fun e w' => e = .returned (.int .i64 (endE st)) ∧ w = w' := by
  obtain ⟨v, hb, ⟨a, cap, rfl, hlc, hnc, hs⟩, hok, hlen⟩ := h
  have hc := hb.cell
  clear hb hlc hnc
  obtain ⟨L, E⟩ := st
  simp only at *
  go_enter Try.func55, Try.ntmps55
  by_cases hE : E = 0
  · subst hE
    cases L with
    | nil =>
      go_wp2
      go_ret
      exact ⟨rfl, rfl⟩
    | cons x L =>
      have hpos : (0 : Int) < ((L.length + 1 : Nat) : Int) := by omega
      simp only [List.length_cons] at *
      go_wp2
      go_ret
      exact ⟨rfl, rfl⟩
  · have HE : Hid (endE ⟨L, E⟩ = E) := Hid.mk' (by unfold endE; rw [if_neg (fun h => hE h.1)])
    have hE1 : (E == 0) = false := by simpa using hE
    go_wp2
    go_ret
    exact ⟨ret_int HE.out.symm, rfl⟩

set_option maxRecDepth 100000 in set_option maxHeartbeats 1600000 in
theorem read_any (v : Value) (l : List Int) (w : World) (hl : Sl w v 1 (l.map bcell)) (hlen : l.length ≤ 1000000) (hb : isB l) :
    Calls Try.prog 49 #[v] w fun e w' => ∃ g, e = .returned (.pointer (some ⟨g, 0, none⟩)) ∧ w.heap.size ≤ g ∧ RD w' g w.heap.size ⟨l, 0⟩ ∧ Ext w w' := by
  have HL := Hid.mk' hl
  have HB := Hid.mk' hb
  clear hl hb
  go_enter Try.func49, Try.ntmps49
  go_wp2_with (go_at_call 85; refine (clone_any v l _ HL.out hlen).mono ?_; rintro e w1 ⟨v1, rfl, ho1, hb1⟩; obtain ⟨a1, cap1, rfl⟩ := ho1.shape; have HO1 := Hid.mk' ho1; have HE1 := Hid.mk' hb1; clear ho1 hb1)
  go_ret
  exact ⟨_, rfl, HE1.out.size, ⟨_, Blk.new _ _ _, (SB.of_own HO1.out (Nat.le_refl _)).ext ((Ext.refl w1).alloc _), ⟨fun h => absurd rfl h, HB.out⟩, hlen⟩, HE1.out.alloc _⟩

end Go.Proofs.Ytdbepkfblfhlhaa

/-
The program's reader: the digits of a number.
-/
namespace Go.Proofs.Ytdbepkfblfhlhaa
open Go.RowKit

/-- The value grows by sevens: or is plus. -/
theorem or_seven (v x n : Nat) (hv : v < 128 ^ n) : v ||| x * 128 ^ n = v + x * 128 ^ n := by
  have e : x * 128 ^ n = 2 ^ (7 * n) * x := by rw [Nat.pow_mul, Nat.mul_comm]
  have hv' : v < 2 ^ (7 * n) := by rw [Nat.pow_mul]; exact hv
  rw [e, or_apart (7 * n) x v hv', Nat.add_comm]



theorem pow_le9 {n : Nat} (h : n ≤ 9) : 128 ^ n ≤ 9223372036854775808 := by
  have h1 : 128 ^ n ≤ 128 ^ 9 := Nat.pow_le_pow_right (by decide) h
  have h2 : (128 : Nat) ^ 9 = 9223372036854775808 := by decide
  omega
theorem dig_room {q n : Nat} (hn : n ≤ 9) (hq : q < 128) (h9 : n = 9 → q ≤ 1) : q * 128 ^ n < 18446744073709551616 := by
  by_cases h : n = 9
  · subst h; have := h9 rfl; have h2 : (128 : Nat) ^ 9 = 9223372036854775808 := by decide
    rw [h2]; omega
  · have h1 : 128 ^ n ≤ 128 ^ 8 := Nat.pow_le_pow_right (by decide) (by omega)
    have h2 : (128 : Nat) ^ 8 = 72057594037927936 := by decide
    have h3 : q * 128 ^ n ≤ 127 * 128 ^ n := Nat.mul_le_mul_right _ (by omega)
    omega
theorem dig_or {v n : Nat} {x : Int} (hv : v < 128 ^ n) (hn : n ≤ 9) (hx : 0 ≤ x) (_h9 : ¬ (n = 9 ∧ 1 < x)) (hx1 : x < 256) (hx2 : n = 9 → x ≤ 1) :
    bits BinOp.or IntKind.u64 (v : Int) (IntKind.u64.wrap (x % 128 * 2 ^ (7 * n))) = ((v + (x % 128).toNat * 128 ^ n : Nat) : Int) := by
  have hp := pow_le9 hn
  have e : x % 128 * 2 ^ (7 * n) = (((x % 128).toNat * 128 ^ n : Nat) : Int) := by
    have h1 : ((2 : Int) ^ (7 * n)) = ((128 ^ n : Nat) : Int) := by rw [show (128 : Nat) = 2 ^ 7 from rfl, ← Nat.pow_mul, Int.natCast_pow]; rfl
    rw [h1, Int.natCast_mul]; congr 1; omega
  have hr := dig_room (q := (x % 128).toNat) hn (by omega) (fun h => by have := hx2 h; omega)
  rw [e, u64_wrap', Int.emod_eq_of_lt (by omega) (by omega), bits_or_u64_nat _ _ (by omega) (by omega), or_seven _ _ _ hv]
theorem dig_lt {v q n : Nat} (hv : v < 128 ^ n) (hq : q < 128) : v + q * 128 ^ n < 128 ^ (n + 1) := by
  have h3 : q * 128 ^ n ≤ 127 * 128 ^ n := Nat.mul_le_mul_right _ (by omega)
  rw [Nat.pow_succ]; omega

def DigJ0 (g : Nat) (l : List Int) (w : World) (a' : Act) (w' : World) : Prop := w' = w ∧ ∃ (n v : Nat) (u5 u6 u7 u8 u9 u10 u11 u12 u13 u14 u15 u16 u17 u18 u19 u20 u21 u22 u23 u24 u25 u26 u27 u28 u29 u30 u31 u32 u33 u34 u35 u36 u37 u38 u39 u40 u41 u42 u43 u44 u45 : Value), a' = { tmps := #[.pointer (some ⟨g, 0, none⟩), undef, .int .u64 v, .int .i64 n, .int .i64 0, u5, u6, u7, u8, u9, u10, u11, u12, u13, u14, u15, u16, u17, u18, u19, u20, u21, u22, u23, u24, u25, u26, u27, u28, u29, u30, u31, u32, u33, u34, u35, u36, u37, u38, u39, u40, u41, u42, u43, u44, u45], defers := [] } ∧ n ≤ l.length ∧ n ≤ 9 ∧ v < 128 ^ n ∧ Hid (digs (l.drop n) n v = digs l 0 0)
def DigJ1 (g : Nat) (l : List Int) (w : World) (a' : Act) (w' : World) : Prop := w' = w ∧ ∃ (u2 u3 u4 u5 u6 u7 u8 u9 u10 u11 u12 u13 u14 u15 u16 u17 u18 u19 u20 u21 u22 u23 u24 u25 u26 u27 u28 u29 u30 u31 u32 u33 u34 u35 u36 u37 u38 u39 u40 u41 u42 u43 u44 u45 : Value), a' = { tmps := #[.pointer (some ⟨g, 0, none⟩), undef, u2, u3, u4, u5, u6, u7, u8, u9, u10, u11, u12, u13, u14, u15, u16, u17, u18, u19, u20, u21, u22, u23, u24, u25, u26, u27, u28, u29, u30, u31, u32, u33, u34, u35, u36, u37, u38, u39, u40, u41, u42, u43, u44, u45], defers := [] } ∧ Hid (digs l 0 0 = (0, 0, 5))
def DigM (a' : Act) (_ : World) : Nat := 20 - (intOf (a'.tmps.getD 3 undef)).toNat

set_option maxRecDepth 100000 in set_option maxHeartbeats 1600000 in
theorem digits_any (g d : Nat) (st : RS) (w : World) (h : RD w g d st) :
    Calls Try.prog 165 #[.pointer (some ⟨g, 0, none⟩)] w fun e w' => e = .returned (.tuple #[.int .u64 (digs st.l 0 0).1, .int .i64 (digs st.l 0 0).2.1, .int .i64 (digs st.l 0 0).2.2]) ∧ w = w' := by
  obtain ⟨v, hb, ⟨a, cap, rfl, hlc, hnc, hs⟩, hok, hlen⟩ := h
  have hc := hb.cell
  clear hb
  have HC : Hid (∀ k, k < st.l.length → ∃ b o, a = some ⟨b, o, none⟩ ∧ w.cell? ⟨b, o + k, none⟩ = some (.int .u8 (st.l.getD k 0))) := Hid.mk' (fun k hk => by
    rcases hs with h0 | ⟨b, o, ha, hb, hne, hc⟩
    · rw [h0] at hk; simp at hk
    · exact ⟨b, o, ha, hc k hk⟩)
  have HOK := Hid.mk' hok
  clear hs hok hlc hnc
  go_enter Try.func165, Try.ntmps165
  go_wp2
  refine wp_scope_two (DigJ0 g st.l w) (DigJ1 g st.l w) DigM rfl rfl ?first ?pass0 ?pass1
  case first =>
    intro hp
    go_wp2
    go_step3
    rename_i hK
    refine hK _ _ (hp _ _ ?_)
    exact ⟨rfl, 0, 0, _, _, _, _, _, _, _, _, _, _, _, _, _, _, _, _, _, _, _, _, _, _, _, _, _, _, _, _, _, _, _, _, _, _, _, _, _, _, _, _, _, rfl, Nat.zero_le _, by omega, by simp, Hid.mk' rfl⟩
  case pass0 =>
    rintro a' w' ⟨rfl, n, v, u5, u6, u7, u8, u9, u10, u11, u12, u13, u14, u15, u16, u17, u18, u19, u20, u21, u22, u23, u24, u25, u26, u27, u28, u29, u30, u31, u32, u33, u34, u35, u36, u37, u38, u39, u40, u41, u42, u43, u44, u45, rfl, hn, hn9, hv, hd⟩
    by_cases hlt : n < st.l.length
    · obtain ⟨b, o, rfl, hx⟩ := HC.out n hlt
      have hd2 := hd.out
      have e : st.l.drop n = st.l.getD n 0 :: st.l.drop (n + 1) := by
        rw [List.drop_eq_getElem_cons hlt]; simp [List.getD, List.getElem?_eq_getElem hlt]
      rw [e, digs] at hd2
      have hxr : 0 ≤ st.l.getD n 0 ∧ st.l.getD n 0 < 256 := HOK.out.2 _ (by rw [List.getD_eq_getElem?_getD, List.getElem?_eq_getElem hlt]; exact List.getElem_mem hlt)
      clear e
      generalize st.l.getD n 0 = x at *
      obtain ⟨hx0, hx1⟩ := hxr
      have HD := Hid.mk' hd2
      clear hd2 hd
      have HV := Hid.mk' hv
      clear hv
      by_cases h9 : n = 9 ∧ 1 < x
      · have HO : Hid (digs st.l 0 0 = (0, 0, 5)) := by have := HD.out; rw [if_pos h9] at this; exact Hid.mk' this.symm
        obtain ⟨rfl, h9⟩ := h9
        clear HD
        go_wp2
        go_step3
        exact jumps2_one ⟨rfl, _, _, _, _, _, _, _, _, _, _, _, _, _, _, _, _, _, _, _, _, _, _, _, _, _, _, _, _, _, _, _, _, _, _, _, _, _, _, _, _, _, _, _, _, rfl, HO⟩
      · have hd3 := HD.out
        rw [if_neg h9] at hd3
        have HD3 := Hid.mk' hd3
        clear hd3 HD
        by_cases h128 : 128 ≤ x
        · have hn8 : n ≤ 8 := by
            rcases Nat.lt_or_ge n 9 with h3 | h3
            · omega
            · exact absurd ⟨by omega, by omega⟩ h9
          have HB := Hid.mk' (dig_or HV.out hn9 hx0 h9 hx1 (by omega))
          have HL := Hid.mk' (dig_lt (q := (x % 128).toNat) HV.out (by omega))
          have HD4 : Hid (digs (st.l.drop (n + 1)) (n + 1) (v + (x % 128).toNat * 128 ^ n) = digs st.l 0 0) := by have := HD3.out; rw [if_pos h128] at this; exact Hid.mk' this
          clear h9 HD3
          go_wp2
          go_step3
          exact jumps2_zero ⟨⟨rfl, n + 1, v + (x % 128).toNat * 128 ^ n, _, _, _, _, _, _, _, _, _, _, _, _, _, _, _, _, _, _, _, _, _, _, _, _, _, _, _, _, _, _, _, _, _, _, _, _, _, _, _, _, _, by rw [HB.out]; rfl, by omega, by omega, HL.out, HD4⟩, by show 20 - (intOf (.int .i64 ((n : Int) + 1))).toNat < 20 - (intOf (.int .i64 (n : Int))).toNat; simp [intOf]; omega⟩
        · by_cases h0 : 1 ≤ n ∧ x = 0
          · obtain ⟨h0, rfl⟩ := h0
            have HO : Hid (digs st.l 0 0 = (0, 0, 5)) := by have := HD3.out; rw [if_neg (by decide), if_pos ⟨h0, rfl⟩] at this; exact Hid.mk' this.symm
            clear h9 HD3
            have hn1 : (1 : Int) < (n : Int) + 1 := by omega
            go_wp2
            all_goals
              go_step3
              exact jumps2_one ⟨rfl, _, _, _, _, _, _, _, _, _, _, _, _, _, _, _, _, _, _, _, _, _, _, _, _, _, _, _, _, _, _, _, _, _, _, _, _, _, _, _, _, _, _, _, _, rfl, HO⟩
          · have HB := Hid.mk' (dig_or HV.out hn9 hx0 h9 hx1 (by omega))
            have HO : Hid (digs st.l 0 0 = (v + (x % 128).toNat * 128 ^ n, n + 1, 0)) := by have := HD3.out; rw [if_neg h128, if_neg h0] at this; exact Hid.mk' this.symm
            have H9 := Hid.mk' h9
            clear h9 HD3
            by_cases hn0 : n = 0
            · have hn1 : (n : Int) + 1 ≤ 1 := by omega
              clear hn0
              go_wp2
              all_goals
                refine jumps2_ret ?_
                go_ret3
                exact ⟨by rw [HO.out, ← HB.out]; rfl, rfl⟩
            · have hn1 : (1 : Int) < (n : Int) + 1 := by omega
              have hx3 : 0 < x := by omega
              have hx4 : (x == 0) = false := by simp; omega
              by_cases hn8 : n ≤ 8
              · clear hn0 hn9
                go_wp2
                refine jumps2_ret ?_
                go_ret3
                exact ⟨by rw [HO.out, ← HB.out]; rfl, rfl⟩
              · obtain rfl : n = 9 := by omega
                obtain rfl : x = 1 := by have h := H9.out; omega
                have HB2 : Hid (bits BinOp.or IntKind.u64 (v : Int) 9223372036854775808 = ((v + (1 % 128 : Int).toNat * 128 ^ 9 : Nat) : Int)) := Hid.mk' HB.out
                clear HB hn0 hn8 hn9
                go_wp2
                refine jumps2_ret ?_
                go_ret3
                exact ⟨by rw [HO.out, ← HB2.out]; rfl, rfl⟩
    · have hn2 : n = st.l.length := by omega
      have HD : Hid (digs st.l 0 0 = (0, 0, 1)) := Hid.mk' (by rw [← hd.out, hn2, List.drop_length]; rfl)
      clear hd
      subst hn2
      go_wp2
      refine jumps2_ret ?_
      go_ret3
      exact ⟨by rw [HD.out]; rfl, rfl⟩
  case pass1 =>
    rintro a' w' ⟨rfl, u2, u3, u4, u5, u6, u7, u8, u9, u10, u11, u12, u13, u14, u15, u16, u17, u18, u19, u20, u21, u22, u23, u24, u25, u26, u27, u28, u29, u30, u31, u32, u33, u34, u35, u36, u37, u38, u39, u40, u41, u42, u43, u44, u45, rfl, hd⟩
    go_wp2
    refine jumps2_ret ?_
    go_ret3
    exact ⟨by rw [hd.out]; rfl, rfl⟩

end Go.Proofs.Ytdbepkfblfhlhaa

/-
The program's reader: numbers, bytes, texts, words.
-/
namespace Go.Proofs.Ytdbepkfblfhlhaa
open Go.RowKit

theorem digs_len : ∀ (l : List Int) (n v v' m : Nat) (e : Int), digs l n v = (v', m, e) → m ≤ n + l.length := by
  intro l
  induction l with
  | nil => intro n v v' m e h; simp [digs] at h; omega
  | cons x l ih =>
    intro n v v' m e h
    rw [digs] at h
    (repeat' split at h)
    · simp at h; omega
    · have := ih _ _ _ _ _ h; simp; omega
    · simp at h; omega
    · simp at h; simp; omega
theorem digs_lt : ∀ (l : List Int) (n v : Nat), isB l → n ≤ 9 → v < 128 ^ n → (digs l n v).1 < 18446744073709551616 := by
  intro l
  induction l with
  | nil => intro n v _ _ _; simp [digs]
  | cons x l ih =>
    intro n v hb hn hv
    obtain ⟨h0, h1⟩ := hb.head
    have hp := pow_le9 hn
    rw [digs]
    (repeat' split)
    · simp
    · rename_i h9 h128
      exact ih _ _ hb.tail (by rcases Nat.lt_or_ge n 9 with h3 | h3; omega; exact absurd ⟨by omega, by omega⟩ h9) (dig_lt hv (by omega))
    · simp
    · rename_i h9 h128 _
      have := dig_room (q := (x % 128).toNat) hn (by omega) (fun h => by by_cases h1 : 1 < x; exact absurd ⟨h, h1⟩ h9; omega)
      show v + _ < _
      by_cases hn9 : n = 9
      · have : x ≤ 1 := by by_cases h1 : 1 < x; exact absurd ⟨hn9, h1⟩ h9; omega
        subst hn9
        have h2 : (128 : Nat) ^ 9 = 9223372036854775808 := by decide
        have h3 : (x % 128).toNat * 128 ^ 9 ≤ 1 * 128 ^ 9 := Nat.mul_le_mul_right _ (by omega)
        omega
      · have h5 := dig_lt hv (q := (x % 128).toNat) (by omega)
        have h6 := pow_le9 (n := n + 1) (by omega)
        omega

set_option maxRecDepth 100000 in set_option maxHeartbeats 1600000 in
theorem rbytes_any (g d : Nat) (st : RS) (n : Nat) (w : World) (h : RD w g d st) (hn : n ≤ 9223372036854775807) :
    Calls Try.prog 147 #[.pointer (some ⟨g, 0, none⟩), .int .i64 n] w fun e w' => ∃ v, e = .returned v ∧ SB w' g d v (bytesR n st).1 ∧ RD w' g d (bytesR n st).2 ∧ Tch g w w' := by
  have H := Hid.mk' h
  obtain ⟨v, hb, ⟨a, cap, rfl, hlc, hnc, hs⟩, hok, hlen⟩ := h
  have hc := hb.cell
  have hf := hb.frozen
  have hlt := hb.lt
  have HB := Hid.mk' hb
  have HS : Hid (SB w g d (.slice a st.l.length cap) st.l) := Hid.mk' ⟨a, cap, rfl, hlc, hnc, hs⟩
  clear hb
  by_cases hk : st.l.length < n
  · have hE : Hid (bytesR n st = ([], giveS st 1)) := Hid.mk' (by unfold bytesR; rw [if_pos hk])
    clear hs hok hlc hnc
    go_enter Try.func147, Try.ntmps147
    go_wp2_with (go_at_call 121; refine (giveUp_any g d st 1 _ H.out (by decide)).mono ?_; rintro e w1 ⟨rfl, hr, ht⟩; have HR := Hid.mk' hr; have HT := Hid.mk' ht; clear hr ht)
    go_ret
    exact ⟨_, rfl, by rw [hE.out]; exact SB.nil _ _ _, by rw [hE.out]; exact HR.out, HT.out⟩
  · have hE : Hid (bytesR n st = (st.l.take n, ⟨st.l.drop n, st.e⟩)) := Hid.mk' (by unfold bytesR; rw [if_neg hk])
    have HOK : Hid ((⟨st.l.drop n, st.e⟩ : RS).ok) := Hid.mk' (by have := bytesR_ok hok n; rw [hE.out] at this; exact this)
    have HLE : Hid ((st.l.drop n).length ≤ 1000000) := Hid.mk' (by simp; omega)
    have hnl : n ≤ st.l.length := by omega
    have HNC := Hid.mk' hnc
    clear hok hnc hk
    by_cases hcn : cap = n
    · subst hcn
      have hdl : Hid (st.l.drop cap = []) := Hid.mk' (List.drop_eq_nil_of_le (by omega))
      have hls : (st.l.length : Int) - (cap : Int) = 0 := by omega
      clear hs
      go_enter Try.func147, Try.ntmps147
      go_wp2
      go_ret
      have hTT : ∀ u, Tch g w (w.setCell ⟨g, 0, none⟩ u) := fun u => (Tch.refl g w).set 0 u
      refine ⟨_, rfl, ?_, ?_, hTT _⟩
      · rw [hE.out]; exact (HS.out.take hnl).tch (hTT _) (.inr (Nat.le_refl _))
      · rw [hE.out]
        refine ⟨_, HB.out.set 0 _, ?_, HOK.out, HLE.out⟩
        rw [hdl.out]
        exact SB.zero _ _ _ _ _ (fun _ => rfl)
    · rcases hs with h0 | ⟨b, o, rfl, hb, hne, hcs⟩
      · have hn0 : n = 0 := by rw [h0] at hnl; simpa using hnl
        subst hn0
        cases a with
        | none => exact absurd (HNC.out rfl) hcn
        | some ad =>
          clear h0
          go_enter Try.func147, Try.ntmps147
          go_wp2
          go_ret
          have hTT : ∀ u, Tch g w (w.setCell ⟨g, 0, none⟩ u) := fun u => (Tch.refl g w).set 0 u
          refine ⟨_, rfl, ?_, ?_, hTT _⟩
          · rw [hE.out]; exact (HS.out.take hnl).tch (hTT _) (.inr (Nat.le_refl _))
          · rw [hE.out]
            refine ⟨_, HB.out.set 0 _, ?_, HOK.out, HLE.out⟩
            exact HS.out.tch (hTT _) (.inr (Nat.le_refl _))
      · clear hcs
        go_enter Try.func147, Try.ntmps147
        go_wp2
        go_ret
        have hTT : ∀ u, Tch g w (w.setCell ⟨g, 0, none⟩ u) := fun u => (Tch.refl g w).set 0 u
        refine ⟨_, rfl, ?_, ?_, hTT _⟩
        · rw [hE.out]; exact (HS.out.take hnl).tch (hTT _) (.inr (Nat.le_refl _))
        · rw [hE.out]
          exact ⟨_, HB.out.set 0 _, (HS.out.drop hnl _ _ rfl rfl).tch (hTT _) (.inr (Nat.le_refl _)), HOK.out, HLE.out⟩

theorem sevens_pos2 (x : Nat) : 0 < (sevens x).length := by
  by_cases h : x < 128
  · rw [sevens_lt h]; simp
  · rw [sevens_ge h]; simp

set_option maxRecDepth 100000 in set_option maxHeartbeats 1600000 in
theorem ruint2_any (g d : Nat) (st : RS) (m : Nat) (w : World) (h : RD w g d st) (_hm : m < 18446744073709551616) :
    Calls Try.prog 150 #[.pointer (some ⟨g, 0, none⟩), .int .u64 m] w (RPost g d w (.int .u64 (uintR m st).1) (uintR m st).2) := by
  have H := Hid.mk' h
  obtain ⟨v, hb, ⟨a, cap, rfl, hlc, hnc, hs⟩, hok, hlen⟩ := h
  have hc := hb.cell
  have hf := hb.frozen
  have hlt := hb.lt
  have HB := Hid.mk' hb
  have HS : Hid (SB w g d (.slice a st.l.length cap) st.l) := Hid.mk' ⟨a, cap, rfl, hlc, hnc, hs⟩
  clear hb
  obtain ⟨D, hD⟩ : ∃ D, D = digs st.l 0 0 := ⟨_, rfl⟩
  have HDG := Hid.mk' (fun w h => digits_any g d st w h)
  rw [← hD] at HDG
  have hv64 := digs_lt st.l 0 0 hok.2 (by omega) (by decide)
  have hnl : D.2.1 ≤ st.l.length := by
    obtain ⟨d0, d1, d2⟩ := D
    have := digs_len st.l 0 0 d0 d1 d2 hD.symm
    show d1 ≤ _
    omega
  rw [← hD] at hv64
  obtain ⟨d0, d1, d2⟩ := D
  simp only at *
  by_cases hz : d2 = 0
  · subst hz
    by_cases hgt : m < d0
    · have hE : Hid (uintR m st = (0, giveS st 4)) := Hid.mk' (by unfold uintR; simp only [← hD]; rw [if_neg (by simp), if_pos hgt])
      clear hs hok hlc hnc hD
      go_enter Try.func150, Try.ntmps150
      go_wp2_with (first
        | (go_at_call 165; refine (HDG.out _ H.out).mono ?_; rintro e w1 ⟨rfl, rfl⟩)
        | (go_at_call 121; refine (giveUp_any g d st 4 _ H.out (by decide)).mono ?_; rintro e w2 ⟨rfl, hr, ht⟩; have HR := Hid.mk' hr; have HT := Hid.mk' ht; clear hr ht))
      go_ret
      exact ⟨by rw [hE.out]; rfl, by rw [hE.out]; exact HR.out, HT.out⟩
    · have hE : Hid (uintR m st = (d0, ⟨st.l.drop d1, st.e⟩)) := Hid.mk' (by unfold uintR; simp only [← hD]; rw [if_neg (by simp), if_neg hgt])
      have HOK : Hid ((⟨st.l.drop d1, st.e⟩ : RS).ok) := Hid.mk' (by have := uintR_ok hok m; rw [hE.out] at this; exact this)
      have HLE : Hid ((st.l.drop d1).length ≤ 1000000) := Hid.mk' (by simp; omega)
      have hd1 : 1 ≤ d1 := by
        rcases Nat.eq_zero_or_pos d1 with h0 | h0
        · exfalso
          subst h0
          cases hL : st.l with
          | nil => rw [hL] at hD; simp [digs] at hD
          | cons x L =>
            obtain ⟨y, _, h2, _⟩ := digs_inv st.l 0 0 _ _ hok.2 (by omega) hD.symm
            have := sevens_pos2 y
            omega
        · exact h0
      have hge : d0 ≤ m := by omega
      clear hok hD hgt
      rcases hs with h0 | ⟨b, o, rfl, hb, hne, hcs⟩
      · rw [h0] at hnl; simp at hnl; omega
      clear hcs hnc
      have hTT : ∀ u, Tch g w (w.setCell ⟨g, 0, none⟩ u) := fun u => (Tch.refl g w).set 0 u
      have HTT := Hid.mk' hTT
      clear hTT
      by_cases hcn : cap = d1
      · have hdl : Hid (st.l.drop d1 = []) := Hid.mk' (List.drop_eq_nil_of_le (by omega))
        subst hcn
        go_enter Try.func150, Try.ntmps150
        go_wp2_with (go_at_call 165; refine (HDG.out _ H.out).mono ?_; rintro e w1 ⟨rfl, rfl⟩)
        go_ret
        refine ⟨by rw [hE.out]; rfl, ?_, HTT.out _⟩
        rw [hE.out]
        refine ⟨_, HB.out.set 0 _, ?_, HOK.out, HLE.out⟩
        rw [hdl.out]
        first
          | exact SB.zero _ _ _ _ _ (fun _ => rfl)
          | (rw [show st.l.length - cap = 0 by omega]; exact SB.zero _ _ _ _ _ (fun _ => rfl))
      · go_enter Try.func150, Try.ntmps150
        go_wp2_with (go_at_call 165; refine (HDG.out _ H.out).mono ?_; rintro e w1 ⟨rfl, rfl⟩)
        go_ret
        refine ⟨by rw [hE.out]; rfl, ?_, HTT.out _⟩
        rw [hE.out]
        exact ⟨_, HB.out.set 0 _, (HS.out.drop hnl _ _ rfl rfl).tch (HTT.out _) (.inr (Nat.le_refl _)), HOK.out, HLE.out⟩
  · have hE : Hid (uintR m st = (0, giveS st d2)) := Hid.mk' (by unfold uintR; simp only [← hD]; rw [if_pos hz])
    have hz1 : (d2 == 0) = false := by simpa using hz
    have hz2 : (d2 != 0) = true := by simpa using hz
    have HZ := Hid.mk' hz
    clear hs hok hlc hnc hD hz
    go_enter Try.func150, Try.ntmps150
    go_wp2_with (first
      | (go_at_call 165; refine (HDG.out _ H.out).mono ?_; rintro e w1 ⟨rfl, rfl⟩)
      | (go_at_call 121; refine (giveUp_any g d st d2 _ H.out HZ.out).mono ?_; rintro e w2 ⟨rfl, hr, ht⟩; have HR := Hid.mk' hr; have HT := Hid.mk' ht; clear hr ht))
    go_ret
    exact ⟨by rw [hE.out]; rfl, by rw [hE.out]; exact HR.out, HT.out⟩

end Go.Proofs.Ytdbepkfblfhlhaa

/-
The program's reader: texts, bytes, words, numbers with a sign.
-/
namespace Go.Proofs.Ytdbepkfblfhlhaa
open Go.RowKit

theorem i64_wrap (n : Int) : IntKind.i64.wrap n = (n + 9223372036854775808) % 18446744073709551616 - 9223372036854775808 := by
  simp [IntKind.wrap, IntKind.signed, IntKind.bits]; split <;> omega
theorem zag_bits {n : Nat} (h : n ≤ 18446744073709551615) : bits BinOp.xor IntKind.i64 ((n : Int) / 2) (wrap64 (-wrap64 (bits BinOp.and IntKind.u64 (n : Int) 1))) = zag n := by
  have e1 : bits BinOp.and IntKind.u64 (n : Int) 1 = ((n % 2 : Nat) : Int) := by
    have := bits_and_u64_nat n 1 (by omega) (by decide)
    rw [Nat.and_one_is_mod] at this; exact this
  have ha : (BitVec.ofInt 64 ((n : Int) / 2)).toNat = n / 2 := by
    rw [show ((n : Int) / 2) = ((n / 2 : Nat) : Int) by omega, BitVec.ofInt_natCast, BitVec.toNat_ofNat]; exact Nat.mod_eq_of_lt (by omega)
  rw [e1]
  unfold zag
  by_cases hn : n % 2 = 1
  · rw [if_pos hn, hn]
    have e2 : wrap64 (-wrap64 ((1 : Nat) : Int)) = -1 := by unfold wrap64; decide
    rw [e2]
    show IntKind.i64.wrap ((BitVec.ofInt 64 ((n : Int) / 2) ^^^ BitVec.ofInt 64 (-1)).toNat : Int) = _
    have e3 : BitVec.ofInt 64 (-1) = BitVec.allOnes 64 := by decide
    rw [e3, BitVec.xor_allOnes, BitVec.toNat_not, ha, i64_wrap]
    omega
  · rw [if_neg hn, show n % 2 = 0 by omega]
    have e2 : wrap64 (-wrap64 ((0 : Nat) : Int)) = 0 := by unfold wrap64; decide
    rw [e2]
    show IntKind.i64.wrap ((BitVec.ofInt 64 ((n : Int) / 2) ^^^ BitVec.ofInt 64 0).toNat : Int) = _
    have e3 : BitVec.ofInt 64 0 = 0#64 := by decide
    rw [e3, BitVec.xor_zero, ha, i64_wrap]
    omega
theorem or_eight (v x n : Nat) (hv : v < 256 ^ n) : v ||| x * 256 ^ n = v + x * 256 ^ n := by
  have e : x * 256 ^ n = 2 ^ (8 * n) * x := by rw [Nat.pow_mul, Nat.mul_comm]
  have hv' : v < 2 ^ (8 * n) := by rw [Nat.pow_mul]; exact hv
  rw [e, or_apart (8 * n) x v hv', Nat.add_comm]
theorem ofBytes_snoc : ∀ (l : List Int) (x : Int), ofBytes (l ++ [x]) = ofBytes l + x.toNat * 256 ^ l.length := by
  intro l
  induction l with
  | nil => intro x; simp [ofBytes]
  | cons y l ih => intro x; rw [List.cons_append, ofBytes, ih, ofBytes, List.length_cons, Nat.pow_succ, Nat.mul_add, ← Nat.mul_assoc, Nat.mul_comm 256 (x.toNat), Nat.mul_assoc, Nat.mul_comm 256 (256 ^ l.length)]; omega
theorem word_or {v n : Nat} {x : Int} (hv : v < 256 ^ n) (hn : n < 8) (hx : 0 ≤ x) (hx1 : x < 256) :
    bits BinOp.or IntKind.u64 (v : Int) (IntKind.u64.wrap (x * 2 ^ (8 * n))) = ((v + x.toNat * 256 ^ n : Nat) : Int) := by
  have h1 : 256 ^ n ≤ 256 ^ 7 := Nat.pow_le_pow_right (by decide) (by omega)
  have h2 : (256 : Nat) ^ 7 = 72057594037927936 := by decide
  have e : x * 2 ^ (8 * n) = ((x.toNat * 256 ^ n : Nat) : Int) := by
    have h1 : ((2 : Int) ^ (8 * n)) = ((256 ^ n : Nat) : Int) := by rw [show (256 : Nat) = 2 ^ 8 from rfl, ← Nat.pow_mul, Int.natCast_pow]; rfl
    rw [h1, Int.natCast_mul]; congr 1; omega
  have h3 : x.toNat * 256 ^ n ≤ 255 * 256 ^ n := Nat.mul_le_mul_right _ (by omega)
  rw [e, u64_wrap', Int.emod_eq_of_lt (by omega) (by omega), bits_or_u64_nat _ _ (by omega) (by omega), or_eight _ _ _ hv]

set_option maxRecDepth 100000 in set_option maxHeartbeats 1600000 in
theorem rtxt_any (g d : Nat) (st : RS) (m : Nat) (w : World) (h : RD w g d st) (hm0 : 0 < m) (hm : m ≤ 1000000) :
    Calls Try.prog 149 #[.pointer (some ⟨g, 0, none⟩), .int .i64 m] w (RPost g d w (.string (strOfNums (textR m st).1)) (textR m st).2) := by
  have H := Hid.mk' h
  have HU := Hid.mk' (fun w h => ruint2_any g d st m w h (by omega))
  have hle := uintR_le (st := st) m
  unfold textR
  simp only
  generalize uintR m st = U at *
  obtain ⟨n, st1⟩ := U
  simp only at *
  have hn : n ≤ 1000000 := by omega
  have HB := Hid.mk' (fun w h => rbytes_any g d st1 n w h (by omega))
  by_cases hk : st1.l.length < n
  · have hE : Hid (bytesR n st1 = ([], giveS st1 1)) := Hid.mk' (by unfold bytesR; rw [if_pos hk])
    go_enter Try.func149, Try.ntmps149
    go_wp2_with (first
      | (go_at_call 150; refine (HU.out _ H.out).mono ?_; rintro e w1 ⟨rfl, hr, ht⟩; have HR := Hid.mk' hr; have HT := Hid.mk' ht; obtain ⟨v1, hb1, ⟨a1, cap1, rfl, -, -, -⟩, -, hlen1⟩ := hr; have hc1 := hb1.cell; clear ht hb1)
      | (go_at_call 121; refine (giveUp_any g d st1 1 _ HR.out (by decide)).mono ?_; rintro e w2 ⟨rfl, hr2, ht2⟩; have HR2 := Hid.mk' hr2; have HT2 := Hid.mk' ht2; clear hr2 ht2))
    go_ret
    refine ⟨?_, by rw [hE.out]; exact HR2.out, HT.out.trans HT2.out⟩
    rw [hE.out]; rfl
  · have hk' : n ≤ st1.l.length := by omega
    go_enter Try.func149, Try.ntmps149
    go_wp2_with (first
      | (go_at_call 150; refine (HU.out _ H.out).mono ?_; rintro e w1 ⟨rfl, hr, ht⟩; have HR := Hid.mk' hr; have HT := Hid.mk' ht; obtain ⟨v1, hb1, ⟨a1, cap1, rfl, -, -, -⟩, -, hlen1⟩ := hr; have hc1 := hb1.cell; clear ht hb1)
      | (go_at_call 147; refine (HB.out _ HR.out).mono ?_; rintro e w2 ⟨v2, rfl, hsb, hr2, ht2⟩; have hcv := conv_Sl hsb.sl; have HR2 := Hid.mk' hr2; have HT2 := Hid.mk' ht2; clear hr2 ht2 hsb))
    go_ret
    exact ⟨rfl, HR2.out, HT.out.trans HT2.out⟩

set_option maxRecDepth 100000 in set_option maxHeartbeats 1600000 in
theorem rbyte_any (g d : Nat) (st : RS) (w : World) (h : RD w g d st) :
    Calls Try.prog 122 #[.pointer (some ⟨g, 0, none⟩)] w (RPost g d w (.int .u8 (byteR st).1) (byteR st).2) := by
  have H := Hid.mk' h
  have HB := Hid.mk' (fun w h => rbytes_any g d st 1 w h (by omega))
  unfold byteR
  simp only
  by_cases hk : st.l.length < 1
  · have hE : bytesR 1 st = ([], giveS st 1) := by unfold bytesR; rw [if_pos hk]
    rw [hE] at HB ⊢
    clear hE h hk
    go_enter Try.func122, Try.ntmps122
    go_wp2_with (first
      | (go_at_call 147; refine (HB.out _ H.out).mono ?_; rintro e w2 ⟨v2, rfl, ⟨a2, cap2, rfl, -, -, -⟩, hr2, ht2⟩; have HR2 := Hid.mk' hr2; have HT2 := Hid.mk' ht2; clear hr2 ht2))
    go_ret
    exact ⟨rfl, HR2.out, HT2.out⟩
  · have hE : bytesR 1 st = (st.l.take 1, ⟨st.l.drop 1, st.e⟩) := by unfold bytesR; rw [if_neg hk]
    obtain ⟨x, L, hx⟩ : ∃ x L, st.l = x :: L := by
      cases hL : st.l with
      | nil => rw [hL] at hk; simp at hk
      | cons x L => exact ⟨x, L, rfl⟩
    have hE2 : bytesR 1 st = ([x], ⟨L, st.e⟩) := by rw [hE, hx]; rfl
    rw [hE2] at HB ⊢
    clear hE hE2 h hk hx
    go_enter Try.func122, Try.ntmps122
    go_wp2_with (first
      | (go_at_call 147; refine (HB.out _ H.out).mono ?_; rintro e w2 ⟨v2, rfl, ⟨a2, cap2, rfl, -, -, hs2⟩, hr2, ht2⟩; obtain ⟨b2, o2, rfl, hcx⟩ : ∃ b o, a2 = some ⟨b, o, none⟩ ∧ w2.cell? ⟨b, o, none⟩ = some (.int .u8 x) := (by rcases hs2 with h0 | ⟨b, o, ha, hb, hne, hc⟩; (cases h0); exact ⟨b, o, ha, hc 0 Nat.one_pos⟩); have HR2 := Hid.mk' hr2; have HT2 := Hid.mk' ht2; clear hr2 ht2 hs2))
    go_ret
    exact ⟨rfl, HR2.out, HT2.out⟩

set_option maxRecDepth 100000 in set_option maxHeartbeats 1600000 in
theorem rint_any (g d : Nat) (st : RS) (w : World) (h : RD w g d st) :
    Calls Try.prog 152 #[.pointer (some ⟨g, 0, none⟩)] w (RPost g d w (.int .i64 (intR st).1) (intR st).2) := by
  have H := Hid.mk' h
  have HU := Hid.mk' (fun w h => ruint2_any g d st 18446744073709551615 w h (by omega))
  have hle := uintR_le (st := st) 18446744073709551615
  unfold intR
  simp only
  generalize uintR 18446744073709551615 st = U at *
  obtain ⟨n, st1⟩ := U
  simp only at *
  clear h
  go_enter Try.func152, Try.ntmps152
  go_wp2_with (go_at_call 150; refine (HU.out _ H.out).mono ?_; rintro e w1 ⟨rfl, hr, ht⟩; have HR := Hid.mk' hr; have HT := Hid.mk' ht; clear hr ht)
  go_ret
  exact ⟨ret_int (zag_bits hle), HR.out, HT.out⟩

set_option maxRecDepth 100000 in set_option maxHeartbeats 1600000 in
theorem rword2_any (g d : Nat) (st : RS) (w : World) (h : RD w g d st) :
    Calls Try.prog 151 #[.pointer (some ⟨g, 0, none⟩)] w (RPost g d w (.int .u64 (wordR st).1) (wordR st).2) := by
  have H := Hid.mk' h
  have HB := Hid.mk' (fun w h => rbytes_any g d st 8 w h (by omega))
  have hib : isB (bytesR 8 st).1 := by obtain ⟨_, _, _, hok, _⟩ := h; exact bytesR_isB hok 8
  have hl8 : (bytesR 8 st).1.length ≤ 8 := by unfold bytesR; split <;> simp <;> omega
  unfold wordR
  simp only
  generalize bytesR 8 st = U at *
  obtain ⟨L, st1⟩ := U
  simp only at *
  have HIB := Hid.mk' hib
  clear h hib
  go_enter Try.func151, Try.ntmps151
  go_wp2_with (go_at_call 147; refine (HB.out _ H.out).mono ?_; rintro e w2 ⟨v2, rfl, ⟨a2, cap2, rfl, -, -, hs2⟩, hr2, ht2⟩; have HCX : Hid (∀ k, k < L.length → ∃ b o, a2 = some ⟨b, o, none⟩ ∧ w2.cell? ⟨b, o + k, none⟩ = some (.int .u8 (L.getD k 0))) := Hid.mk' (fun k hk => by rcases hs2 with h0 | ⟨b, o, ha, hb, hne, hc⟩; (subst h0; cases hk); exact ⟨b, o, ha, hc k hk⟩); have HR2 := Hid.mk' hr2; have HT2 := Hid.mk' ht2; clear hr2 ht2 hs2)
  go_loop [3, 9] (fun v i => ∃ k : Nat, k ≤ L.length ∧ i = .int .i64 k ∧ v = .int .u64 (ofBytes (L.take k))) (fun _ i => L.length - (intOf i).toNat)
  case atStart => exact ⟨0, Nat.zero_le _, rfl, rfl⟩
  case round =>
    obtain ⟨k, hk, rfl, rfl⟩ := hrel
    by_cases hlt : k < L.length
    · obtain ⟨b, o, rfl, hx⟩ := HCX.out k hlt
      have hxr : 0 ≤ L.getD k 0 ∧ L.getD k 0 < 256 := HIB.out _ (by rw [List.getD_eq_getElem?_getD, List.getElem?_eq_getElem hlt]; exact List.getElem_mem hlt)
      have hT : L.take (k + 1) = L.take k ++ [L.getD k 0] := by
        rw [List.take_succ_eq_append_getElem hlt]; simp [List.getD, List.getElem?_eq_getElem hlt]
      have hlk : (L.take k).length = k := by simp; omega
      have hO := ofBytes_snoc (L.take k) (L.getD k 0)
      rw [← hT, hlk] at hO
      have hv := ofBytes_lt (L.take k) (HIB.out.take k)
      rw [hlk] at hv
      have hW := word_or (x := L.getD k 0) hv (by omega) hxr.1 hxr.2
      rw [← hO] at hW
      clear hT hlk hO hv
      generalize L.getD k 0 = x at *
      generalize ofBytes (L.take k) = v at *
      generalize hv2 : ofBytes (L.take (k + 1)) = v2 at *
      have HV2 := Hid.mk' hv2
      have HW := Hid.mk' hW
      clear hv2 hW
      obtain ⟨hx0, hx1⟩ := hxr
      go_wp2
      go_round
      case rel => exact ⟨k + 1, by omega, by go_num, by rw [HV2.out, ← HW.out]⟩
      case measure => simp [intOf]; omega
    · obtain rfl : k = L.length := by omega
      have HO : Hid (L.take L.length = L) := Hid.mk' (List.take_length)
      go_wp2
      go_ret
      exact ⟨ret_int (by first | rfl | rw [HO.out]), HR2.out, HT2.out⟩

end Go.Proofs.Ytdbepkfblfhlhaa

/-
The program's takeFloat and takeComplex.
-/
namespace Go.Proofs.Ytdbepkfblfhlhaa
open Go.RowKit

theorem wordR_lt {st : RS} (h : st.ok) : (wordR st).1 < 2 ^ 64 := ofBytes_lt64 (bytesR_isB h 8) (by unfold bytesR; split <;> simp <;> omega)
theorem floatR_lt {st : RS} (h : st.ok) (ver : Int) : (floatR ver st).1 < 2 ^ 64 := by
  unfold floatR; split
  · exact wordR_lt h
  · exact rev_lt

set_option maxRecDepth 100000 in set_option maxHeartbeats 1600000 in
theorem vtf_any (g d : Nat) (st : RS) (ver : Int) (w : World) (h : RD w g d st) :
    Calls Try.prog 153 #[.pointer (some ⟨g, 0, none⟩), .int .u8 ver] w (RPost g d w (.int .u64 (floatR ver st).1) (floatR ver st).2) := by
  have H := Hid.mk' h
  by_cases h1 : ver = 1
  · have HW := Hid.mk' (fun w h => rword2_any g d st w h)
    subst h1
    unfold floatR
    rw [if_pos rfl]
    clear h
    go_enter Try.func153, Try.ntmps153
    go_wp2_with (go_at_call 151; refine (HW.out _ H.out).mono ?_; rintro e w1 ⟨rfl, hr, ht⟩; have HR := Hid.mk' hr; have HT := Hid.mk' ht; clear hr ht)
    go_ret
    exact ⟨rfl, HR.out, HT.out⟩
  · have HU := Hid.mk' (fun w h => ruint2_any g d st 18446744073709551615 w h (by omega))
    have hle := uintR_le (st := st) 18446744073709551615
    unfold floatR
    rw [if_neg h1]
    simp only
    generalize uintR 18446744073709551615 st = U at *
    obtain ⟨n, st1⟩ := U
    simp only at *
    have HL : Hid (n < 2 ^ 64) := Hid.mk' (by omega)
    clear h
    go_enter Try.func153, Try.ntmps153
    go_wp2_with (first
      | (go_at_call 150; refine (HU.out _ H.out).mono ?_; rintro e w1 ⟨rfl, hr, ht⟩; have HR := Hid.mk' hr; have HT := Hid.mk' ht; clear hr ht)
      | (go_at_call 163; refine (rev_any n _ HL.out).mono ?_; rintro e w2 ⟨rfl, rfl⟩))
    go_ret
    exact ⟨rfl, HR.out, HT.out⟩

theorem floatR_ne {ver : Int} (h : ver ≠ 1) (st : RS) : floatR ver st = floatR 2 st := by unfold floatR; rw [if_neg h, if_neg (by decide)]
theorem Tch.trans' {g : Nat} {a b c : World} (h : Tch g a b) (k : Below a.heap.size b c) : Tch g a c :=
  ⟨k.os.trans h.os, k.tape.trans h.tape, k.output.trans h.output, Nat.le_trans h.size k.size, fun i hi hg => (k.block i hi).trans (h.block i hi hg)⟩
theorem Tch.setNew {g h : Nat} {w w' : World} (ht : Tch g w w') (hh : w.heap.size ≤ h) (i : Nat) (v : Value) : Tch g w (w'.setCell ⟨h, i, none⟩ v) :=
  ht.trans' ⟨rfl, rfl, rfl, by simp [World.setCell], fun k hk => Below.heap_setCell _ _ _ _ (by simp; omega)⟩
theorem and1_u8 (m : Int) (h0 : 0 ≤ m) (h1 : m < 256) : bits BinOp.and IntKind.u8 m 1 = m % 2 := by
  have h : ∀ r : Nat, r < 256 → bits BinOp.and IntKind.u8 (r : Int) 1 = (r : Int) % 2 := by decide +kernel
  have := h m.toNat (by omega)
  rw [show ((m.toNat : Nat) : Int) = m by omega] at this
  exact this

def CxRel (g d h : Nat) (m : Int) (st : RS) (w : World) (i : Value) (wx : World) : Prop :=
  (i = .int .i64 0 ∧ Blk wx h #[.int .u64 0, .int .u64 0] 226 ∧ RD wx g d st ∧ Tch g w wx) ∨
  (i = .int .i64 1 ∧ Blk wx h #[.int .u64 (partR (decide (m % 2 = 1)) st).1, .int .u64 0] 226 ∧ RD wx g d (partR (decide (m % 2 = 1)) st).2 ∧ Tch g w wx) ∨
  (i = .int .i64 2 ∧ Blk wx h #[.int .u64 (partR (decide (m % 2 = 1)) st).1, .int .u64 (partR (decide (m / 2 % 2 = 1)) (partR (decide (m % 2 = 1)) st).2).1] 226 ∧ RD wx g d (partR (decide (m / 2 % 2 = 1)) (partR (decide (m % 2 = 1)) st).2).2 ∧ Tch g w wx)

set_option maxRecDepth 100000 in set_option maxHeartbeats 1600000 in
theorem vtc_any (g d : Nat) (st : RS) (ver : Int) (w : World) (h : RD w g d st) :
    Calls Try.prog 154 #[.pointer (some ⟨g, 0, none⟩), .int .u8 ver] w (RPost g d w (.complex .f64 (complexR ver st).1.1 (complexR ver st).1.2) (complexR ver st).2) := by
  have H := Hid.mk' h
  have hok : st.ok := by obtain ⟨_, _, _, hok, _⟩ := h; exact hok
  clear h
  by_cases h1 : ver = 1
  · subst h1
    have HW := Hid.mk' (fun w h => rword2_any g d st w h)
    unfold complexR
    rw [if_pos rfl]
    simp only
    generalize wordR st = U at *
    obtain ⟨x, st1⟩ := U
    simp only at *
    have HW2 := Hid.mk' (fun w h => rword2_any g d st1 w h)
    generalize wordR st1 = U at *
    obtain ⟨y, st2⟩ := U
    simp only at *
    go_enter Try.func154, Try.ntmps154
    go_upto_region 3 with (go_at_call 151; refine (HW.out _ H.out).mono ?_; rintro e w1 ⟨rfl, hr, ht⟩; have HR := Hid.mk' hr; have HT := Hid.mk' ht; clear hr ht)
    go_wp2_with (first
      | (go_at_call 151; refine (HW2.out _ HR.out).mono ?_; rintro e w2 ⟨rfl, hr, ht⟩; have HR2 := Hid.mk' hr; have HT2 := Hid.mk' ht; clear hr ht)
      | (go_at_call 62; refine (vof_any x y _).mono ?_; rintro e w3 ⟨rfl, rfl⟩))
    go_ret
    exact ⟨by first | rfl | simp, HR2.out, HT.out.trans HT2.out⟩
  · have HBy := Hid.mk' (fun w h => rbyte_any g d st w h)
    unfold complexR
    rw [if_neg h1]
    simp only
    have hm : 0 ≤ (byteR st).1 ∧ (byteR st).1 < 256 := by
      have := bytesR_isB hok 1
      unfold byteR
      simp only
      cases hL : (bytesR 1 st).1 with
      | nil => simp
      | cons x L => rw [hL] at this; exact this.head
    generalize byteR st = U at *
    obtain ⟨m, st1⟩ := U
    simp only at *
    obtain ⟨hm0, hm1⟩ := hm
    generalize hST : (if 3 < m then giveS st1 4 else st1) = st2
    have HST := Hid.mk' hST
    clear hST
    have hand := and1_u8
    go_enter Try.func154, Try.ntmps154
    go_upto_if 20 with (first
      | (go_at_call 122; refine (HBy.out _ H.out).mono ?_; rintro e w1 ⟨rfl, hr, ht⟩; have HR := Hid.mk' hr; have HT := Hid.mk' ht; clear hr ht))
    go_cut [] (fun wx => Hid (RD wx g d st2) ∧ Hid (Tch g w wx))
    case first =>
      by_cases h3 : 3 < m
      · go_wp2_with (go_at_call 86; refine (fail_any g d st1 4 _ HR.out).mono ?_; rintro e w2 ⟨rfl, hr, ht⟩; have HR2 := Hid.mk' hr; have HT2 := Hid.mk' ht; clear hr ht)
        go_meet
        case rel => exact ⟨by rw [← HST.out, if_pos h3]; exact HR2.out, HT.out.trans HT2.out⟩
      · go_wp2
        go_meet
        case rel => exact ⟨by rw [← HST.out, if_neg (by omega)]; exact HR.out, HT.out⟩
    case rest =>
      obtain ⟨HR2, HT2⟩ := hcut
      clear HR HT HST HBy H
      go_wp2
      go_loopw [23] (fun i wx => CxRel g d wc.heap.size m st2 w i wx) (fun i _ => 2 - (intOf i).toNat)
      case atStart =>
        have hgh := HR2.out.lt
        exact .inl ⟨rfl, Blk.new _ _ _, HR2.out.ext ((Ext.refl wc).alloc _), HT2.out.alloc _⟩
      case round =>
        have hgh : g < wc.heap.size := HR2.out.lt
        have hne : g ≠ wc.heap.size := by omega
        have hwh : w.heap.size ≤ wc.heap.size := HT2.out.size
        have hA0 := and1_u8 m hm0 hm1
        have hA1 := and1_u8 (m / 2) (by omega) (by omega)
        clear hand
        rcases hrel with ⟨rfl, hb, hr, ht⟩ | ⟨rfl, hb, hr, ht⟩ | ⟨rfl, hb, hr, ht⟩
        · have HBr := Hid.mk' hb
          have HRr := Hid.mk' hr
          have HTr := Hid.mk' ht
          clear hb hr ht
          by_cases b0 : m % 2 = 1
          · obtain ⟨x, S', hF⟩ : ∃ x S', floatR ver st2 = (x, S') := ⟨_, _, rfl⟩
            have HTF := Hid.mk' (fun w h => vtf_any g d st2 ver w h)
            rw [hF] at HTF
            simp only at HTF
            have HP : Hid (partR (decide (m % 2 = 1)) st2 = (x, if x = 0 then giveS S' 3 else S')) := Hid.mk' (by unfold partR; rw [decide_eq_true b0, if_pos rfl, ← floatR_ne h1, hF])
            have HF3 := Hid.mk' (fun w h => fail_any g d S' 3 w h)
            clear hF
            by_cases x0 : x = 0
            · have hx : (x : Int) = 0 := by omega
              rw [hx] at HTF
              have HX := Hid.mk' hx
              have HX0 := Hid.mk' x0
              clear hx x0
              go_wp2_with (first
                | (go_at_call 153; refine (HTF.out _ HRr.out).mono ?_; rintro e w1 ⟨rfl, hr1, ht1⟩; have HB1 := Hid.mk' (HBr.out.tch ht1 hne.symm); have k1 := HB1.out.cell; have f1 := HB1.out.frozen; have z1 := HB1.out.lt; have HR1 := Hid.mk' (hr1.tch ((Tch.refl wc.heap.size w1).set 0 (.int .u64 0)) hne.symm (.inr (Nat.le_of_lt hgh))); have HT1 := Hid.mk' ht1; clear hr1 ht1)
                | (go_at_call 86; refine (HF3.out _ HR1.out).mono ?_; rintro e w3 ⟨rfl, hr3, ht3⟩; have HR3 := Hid.mk' hr3; have HT3 := Hid.mk' ht3; clear hr3 ht3))
              go_roundw
              case rel =>
                refine .inr (.inl ⟨rfl, ?_, ?_, ?_⟩)
                · rw [HP.out, HX.out]; exact (HB1.out.set 0 _).tch HT3.out hne.symm
                · rw [HP.out, if_pos HX0.out]; exact HR3.out
                · exact ((HTr.out.trans HT1.out).setNew hwh _ _).trans HT3.out
              case measure => simp [intOf]
            · have x1 : ((x : Int) == 0) = false := by simpa using x0
              go_wp2_with (first
                | (go_at_call 153; refine (HTF.out _ HRr.out).mono ?_; rintro e w1 ⟨rfl, hr1, ht1⟩; have HB1 := Hid.mk' (HBr.out.tch ht1 hne.symm); have k1 := HB1.out.cell; have f1 := HB1.out.frozen; have z1 := HB1.out.lt; have HR1 := Hid.mk' (hr1.tch ((Tch.refl wc.heap.size w1).set 0 (.int .u64 x)) hne.symm (.inr (Nat.le_of_lt hgh))); have HT1 := Hid.mk' ht1; clear hr1 ht1))
              go_roundw
              case rel =>
                refine .inr (.inl ⟨rfl, ?_, ?_, ?_⟩)
                · rw [HP.out]; exact HB1.out.set 0 _
                · rw [HP.out, if_neg x0]; exact HR1.out
                · exact (HTr.out.trans HT1.out).setNew hwh _ _
              case measure => simp [intOf]
          · have HP : Hid (partR (decide (m % 2 = 1)) st2 = (0, st2)) := Hid.mk' (by unfold partR; rw [decide_eq_false b0]; rfl)
            have b1 : m % 2 = 0 := by omega
            clear b0
            go_wp2
            go_roundw
            case rel =>
              refine .inr (.inl ⟨rfl, ?_, ?_, ?_⟩)
              · rw [HP.out]; exact HBr.out
              · rw [HP.out]; exact HRr.out
              · exact HTr.out
            case measure => simp [intOf]
        · obtain ⟨P0, hP0⟩ : ∃ P0, P0 = partR (decide (m % 2 = 1)) st2 := ⟨_, rfl⟩
          have HPP := Hid.mk' hP0
          rw [← hP0] at hb hr
          clear hP0
          obtain ⟨p0, S0⟩ := P0
          simp only at hb hr
          have HBr := Hid.mk' hb
          have HRr := Hid.mk' hr
          have HTr := Hid.mk' ht
          clear hb hr ht
          by_cases b0 : m / 2 % 2 = 1
          · obtain ⟨x, S', hF⟩ : ∃ x S', floatR ver S0 = (x, S') := ⟨_, _, rfl⟩
            have HTF := Hid.mk' (fun w h => vtf_any g d S0 ver w h)
            rw [hF] at HTF
            simp only at HTF
            have HP : Hid (partR (decide (m / 2 % 2 = 1)) S0 = (x, if x = 0 then giveS S' 3 else S')) := Hid.mk' (by unfold partR; rw [decide_eq_true b0, if_pos rfl, ← floatR_ne h1, hF])
            have HF3 := Hid.mk' (fun w h => fail_any g d S' 3 w h)
            clear hF
            by_cases x0 : x = 0
            · have hx : (x : Int) = 0 := by omega
              rw [hx] at HTF
              have HX := Hid.mk' hx
              have HX0 := Hid.mk' x0
              clear hx x0
              go_wp2_with (first
                | (go_at_call 153; refine (HTF.out _ HRr.out).mono ?_; rintro e w1 ⟨rfl, hr1, ht1⟩; have HB1 := Hid.mk' (HBr.out.tch ht1 hne.symm); have k1 := HB1.out.cell; have f1 := HB1.out.frozen; have z1 := HB1.out.lt; have HR1 := Hid.mk' (hr1.tch ((Tch.refl wc.heap.size w1).set 1 (.int .u64 0)) hne.symm (.inr (Nat.le_of_lt hgh))); have HT1 := Hid.mk' ht1; clear hr1 ht1)
                | (go_at_call 86; refine (HF3.out _ HR1.out).mono ?_; rintro e w3 ⟨rfl, hr3, ht3⟩; have HR3 := Hid.mk' hr3; have HT3 := Hid.mk' ht3; clear hr3 ht3))
              go_roundw
              case rel =>
                refine .inr (.inr ⟨rfl, ?_, ?_, ?_⟩)
                · rw [← HPP.out, HP.out, HX.out]; exact (HB1.out.set 1 _).tch HT3.out hne.symm
                · rw [← HPP.out, HP.out, if_pos HX0.out]; exact HR3.out
                · exact ((HTr.out.trans HT1.out).setNew hwh _ _).trans HT3.out
              case measure => simp [intOf]
            · have x1 : ((x : Int) == 0) = false := by simpa using x0
              go_wp2_with (first
                | (go_at_call 153; refine (HTF.out _ HRr.out).mono ?_; rintro e w1 ⟨rfl, hr1, ht1⟩; have HB1 := Hid.mk' (HBr.out.tch ht1 hne.symm); have k1 := HB1.out.cell; have f1 := HB1.out.frozen; have z1 := HB1.out.lt; have HR1 := Hid.mk' (hr1.tch ((Tch.refl wc.heap.size w1).set 1 (.int .u64 x)) hne.symm (.inr (Nat.le_of_lt hgh))); have HT1 := Hid.mk' ht1; clear hr1 ht1))
              go_roundw
              case rel =>
                refine .inr (.inr ⟨rfl, ?_, ?_, ?_⟩)
                · rw [← HPP.out, HP.out]; exact HB1.out.set 1 _
                · rw [← HPP.out, HP.out, if_neg x0]; exact HR1.out
                · exact (HTr.out.trans HT1.out).setNew hwh _ _
              case measure => simp [intOf]
          · have HP : Hid (partR (decide (m / 2 % 2 = 1)) S0 = (0, S0)) := Hid.mk' (by unfold partR; rw [decide_eq_false b0]; rfl)
            have b1 : m / 2 % 2 = 0 := by omega
            clear b0
            go_wp2
            go_roundw
            case rel =>
              refine .inr (.inr ⟨rfl, ?_, ?_, ?_⟩)
              · rw [← HPP.out, HP.out]; exact HBr.out
              · rw [← HPP.out, HP.out]; exact HRr.out
              · exact HTr.out
            case measure => simp [intOf]
        · have HRr := Hid.mk' hr
          have HTr := Hid.mk' ht
          generalize partR (decide (m % 2 = 1)) st2 = P0 at *
          obtain ⟨p0, S0⟩ := P0
          simp only at *
          generalize partR (decide (m / 2 % 2 = 1)) S0 = P1 at *
          obtain ⟨p1, S1⟩ := P1
          simp only at *
          have k1 := hb.cell
          clear hr ht hb
          go_wp2_with (go_at_call 62; refine (vof_any p0 p1 _).mono ?_; rintro e w3 ⟨rfl, rfl⟩)
          go_ret
          exact ⟨by first | rfl | simp, HRr.out, HTr.out⟩

end Go.Proofs.Ytdbepkfblfhlhaa
