/-
The program's plain, own, Same and Right of a value.
-/
import Derived.Test.YtmpnopjkpamhaaaOwn
import Derived.Test.YtmpnopjkpamhaaaRefRight
import Derived.Deep.DeepCutAuto
namespace Go.Proofs.Ytmpnopjkpamhaaa
open Go.RowKit

set_option maxRecDepth 20000 in set_option maxHeartbeats 400000 in
theorem vplain_any (s : ByteArray) (w : World) (hs : s.size ≤ 9223372036854775807) :
    Calls Try.prog 66 #[.string s] w fun e w' => e = .returned (.bool (plainB s)) ∧ w = w' := by
  go_enter Try.func66, Try.ntmps66
  go_wp2
  go_loop [6] (fun i => ∃ k : Nat, k ≤ s.size ∧ i = .int .i64 k ∧ Hid (∀ j (hj : j < s.size), j < k → 32 ≤ (s[j].toNat : Int) ∧ (s[j].toNat : Int) ≤ 126)) (fun i => s.size - (intOf i).toNat)
  case atStart => exact ⟨0, Nat.zero_le _, rfl, fun j _ h => by omega⟩
  case round =>
    obtain ⟨k, hk, rfl, hrel⟩ := hrel
    by_cases hlt : k < s.size
    · by_cases hg : 32 ≤ (s[k].toNat : Int) ∧ (s[k].toNat : Int) ≤ 126
      · obtain ⟨h1, h2⟩ := hg
        go_wp2
        go_round
        case rel => exact ⟨k + 1, by omega, by go_num, fun j hj hjk => by
          by_cases e : j = k
          · subst e; exact ⟨h1, h2⟩
          · exact hrel.out j hj (by omega)⟩
        case measure => simp [intOf]; omega
      · have hf : Hid (plainB s = false) := by
          show plainB s = false
          rw [Bool.eq_false_iff]; exact fun h => hg (plain_get h k hlt)
        by_cases hg1 : (s[k].toNat : Int) < 32
        · go_wp2
          go_ret
          exact ⟨ret_bool hf.out.symm, rfl⟩
        · have hg2 : 126 < (s[k].toNat : Int) := by omega
          go_wp2
          go_ret
          exact ⟨ret_bool hf.out.symm, rfl⟩
    · have hkk : k = s.size := by omega
      have hf : Hid (plainB s = true) := plain_of fun j hj => hrel.out j hj (by omega)
      subst hkk
      go_wp2
      go_ret
      exact ⟨ret_bool hf.out.symm, rfl⟩

/-- A value of the program. -/
def vAgg (ty n : Int) (x y : Nat) (s : ByteArray) : Value := .agg #[.int .u8 ty, .int .i64 n, .complex .f64 x y, .string s]
/-- Are two values the same? -/
def sameB (ty n : Int) (x y : Nat) (s : ByteArray) (ty' n' : Int) (x' y' : Nat) (s' : ByteArray) : Bool := decide (ty = ty' ∧ n = n' ∧ x = x' ∧ y = y' ∧ s = s')

theorem str_beq (s t : ByteArray) : (s.toList == t.toList) = decide (s = t) := by
  rw [ByteArray.toList_eq, ByteArray.toList_eq, Bool.eq_iff_iff, beq_iff_eq, decide_eq_true_eq]
  constructor
  · intro h; cases s; cases t; simp only [ByteArray.mk.injEq]; exact Array.toList_inj.1 h
  · intro h; rw [h]

set_option maxRecDepth 100000 in set_option maxHeartbeats 1600000 in
theorem vsame_any (ty n : Int) (x y : Nat) (s : ByteArray) (ty' n' : Int) (x' y' : Nat) (s' : ByteArray) (w : World) :
    Calls Try.prog 38 #[.agg #[.int .u8 ty, .int .i64 n, .complex .f64 x y, .string s], .agg #[.int .u8 ty', .int .i64 n', .complex .f64 x' y', .string s']] w fun e w' =>
      e = .returned (.bool (sameB ty n x y s ty' n' x' y' s')) ∧ Ext w w' := by
  go_enter Try.func38, Try.ntmps38
  go_wp2_with (go_at_call 47; refine (vbits_any _ _ _).mono ?_; rintro e w1 ⟨rfl, rfl⟩)
  all_goals
    go_ret
    refine ⟨ret_bool ?_, by (repeat (with_reducible (first | exact Ext.refl _ | assumption | exact held_left (by assumption) | apply Ext.drewN | apply Ext.drew | apply Ext.alloc | (refine Ext.setCell ?_ (by first | (simp; done) | (simp; omega) | omega) _) | (refine Ext.trans ?_ (by assumption)) | (refine Ext.trans ?_ (held_left (by assumption))))))⟩
    unfold sameB
    first
      | (rw [str_beq]; exact decide_eq_decide.2 ⟨fun h => ⟨by omega, by omega, by omega, by omega, h⟩, fun h => h.2.2.2.2⟩)
      | (symm; rw [decide_eq_false_iff_not]; intro h; omega)

/-- A value's own parts. -/
def ownN (ty n : Int) : Int := if ty = 1 ∨ ty = 2 then n else 0
def ownX (ty : Int) (x : Nat) : Nat := if ty = 3 ∨ ty = 4 then x else 0
def ownY (ty : Int) (y : Nat) : Nat := if ty = 4 then y else 0
def ownS (ty : Int) (s : ByteArray) : ByteArray := if ty = 5 ∨ ty = 6 then s else ByteArray.empty

set_option maxRecDepth 100000 in set_option maxHeartbeats 1600000 in
theorem vvown_any (ty n : Int) (x y : Nat) (s : ByteArray) (w : World) :
    Calls Try.prog 65 #[.agg #[.int .u8 ty, .int .i64 n, .complex .f64 x y, .string s]] w fun e w' =>
      e = .returned (.agg #[.int .u8 ty, .int .i64 (ownN ty n), .complex .f64 (ownX ty x) (ownY ty y), .string (ownS ty s)]) ∧ Ext w w' := by
  go_enter Try.func65, Try.ntmps65
  go_wp2_with (first
    | (go_at_call 47; refine (vbits_any _ _ _).mono ?_; rintro e w1 ⟨rfl, rfl⟩)
    | (go_at_call 53; refine (vof_any _ _ _).mono ?_; rintro e w2 ⟨rfl, rfl⟩; simp only [Int.toNat_natCast, Int.toNat_zero]))
  all_goals
    simp [bodyPost, results, Try.results65, go_sem, *]
    refine ⟨?_, by (repeat (with_reducible (first | exact Ext.refl _ | assumption | exact held_left (by assumption) | apply Ext.drewN | apply Ext.drew | apply Ext.alloc | (refine Ext.setCell ?_ (by first | (simp; done) | (simp; omega) | omega) _) | (refine Ext.trans ?_ (by assumption)) | (refine Ext.trans ?_ (held_left (by assumption))))))⟩
    unfold ownN ownX ownY ownS
    first
      | (simp_all; done)
      | (simp_all; rfl)

theorem size_zero (s : ByteArray) : s = ByteArray.empty ↔ s.size = 0 := by
  constructor
  · rintro rfl; rfl
  · intro h
    cases s with
    | mk d =>
      have h2 : d = #[] := Array.eq_empty_of_size_eq_zero h
      subst h2; rfl

/-- A value has nothing but what is its own just if it is the same as its own. -/
theorem same_own (ty n : Int) (x y : Nat) (s : ByteArray) (h : 1 ≤ ty ∧ ty ≤ 6) : sameB ty n x y s ty (ownN ty n) (ownX ty x) (ownY ty y) (ownS ty s) = true ↔
    ¬ ((2 < ty ∧ n ≠ 0) ∨ (ty ≠ 3 ∧ ty ≠ 4 ∧ (x : Int) ≠ 0) ∨ (ty ≠ 4 ∧ (y : Int) ≠ 0) ∨ (ty < 5 ∧ s.size ≠ 0)) := by
  have ht : ty = 1 ∨ ty = 2 ∨ ty = 3 ∨ ty = 4 ∨ ty = 5 ∨ ty = 6 := by omega
  unfold sameB
  rw [decide_eq_true_eq]
  rcases ht with rfl | rfl | rfl | rfl | rfl | rfl <;> simp [ownN, ownX, ownY, ownS] <;> grind

set_option maxRecDepth 100000 in set_option maxHeartbeats 1600000 in
theorem vright_any (ty n : Int) (x y : Nat) (s : ByteArray) (w : World) (hs : s.size ≤ 9223372036854775807) :
    Calls Try.prog 39 #[.agg #[.int .u8 ty, .int .i64 n, .complex .f64 x y, .string s]] w fun e w' =>
      e = .returned (.int .i64 (rightV ty n x y s)) ∧ Ext w w' := by
  have HP := Hid.mk' (fun w => vplain_any s w hs)
  have HO := Hid.mk' (fun w => vvown_any ty n x y s w)
  obtain ⟨S, hS⟩ : ∃ S, S = sameB ty n x y s ty (ownN ty n) (ownX ty x) (ownY ty y) (ownS ty s) := ⟨_, rfl⟩
  have HSa := Hid.mk' (fun w => vsame_any ty n x y s ty (ownN ty n) (ownX ty x) (ownY ty y) (ownS ty s) w)
  rw [← hS] at HSa
  have HS2 : Hid (1 ≤ ty ∧ ty ≤ 6 → (S = true ↔ ¬ ((2 < ty ∧ n ≠ 0) ∨ (ty ≠ 3 ∧ ty ≠ 4 ∧ (x : Int) ≠ 0) ∨ (ty ≠ 4 ∧ (y : Int) ≠ 0) ∨ (ty < 5 ∧ s.size ≠ 0)))) := fun h => by rw [hS]; exact same_own ty n x y s h
  clear hS
  generalize ownN ty n = n' at *
  generalize ownX ty x = x' at *
  generalize ownY ty y = y' at *
  generalize ownS ty s = s' at *
  go_enter Try.func39, Try.ntmps39
  go_upto_region 3 with (fail)
  all_goals try (go_ret; exact ⟨ret_int (by unfold rightV; rw [if_pos (by omega)]), by (repeat (with_reducible (first | exact Ext.refl _ | assumption | exact held_left (by assumption) | apply Ext.drewN | apply Ext.drew | apply Ext.alloc | (refine Ext.setCell ?_ (by first | (simp; done) | (simp; omega) | omega) _) | (refine Ext.trans ?_ (by assumption)) | (refine Ext.trans ?_ (held_left (by assumption))))))⟩)
  go_region_held3 (fun w' => Ext (w.alloc (.cells #[.int .u8 ty, .int .i64 n, .complex .f64 x y, .string s] 35)) w' ∧ (∀ b o, b < (w.alloc (.cells #[.int .u8 ty, .int .i64 n, .complex .f64 x y, .string s] 35)).heap.size → w'.cell? ⟨b, o, none⟩ = (w.alloc (.cells #[.int .u8 ty, .int .i64 n, .complex .f64 x y, .string s] 35)).cell? ⟨b, o, none⟩) ∧ (∀ b o, b < (w.alloc (.cells #[.int .u8 ty, .int .i64 n, .complex .f64 x y, .string s] 35)).heap.size → w'.frozen? ⟨b, o, none⟩ = (w.alloc (.cells #[.int .u8 ty, .int .i64 n, .complex .f64 x y, .string s] 35)).frozen? ⟨b, o, none⟩)) ((exact held_of (by (repeat (with_reducible (first | exact Ext.refl _ | assumption | exact held_left (by assumption) | apply Ext.drewN | apply Ext.drew | apply Ext.alloc | (refine Ext.setCell ?_ (by first | (simp; done) | (simp; omega) | omega) _) | (refine Ext.trans ?_ (by assumption)) | (refine Ext.trans ?_ (held_left (by assumption)))))))))
    (first
      | (go_at_call 65; refine (HO.out _).mono ?_; rintro e w1 ⟨rfl, hb1⟩)
      | (go_at_call 38; refine (HSa.out _).mono ?_; rintro e w2 ⟨rfl, hb2⟩))
  go_wp2_with (go_at_call 66; refine (HP.out _).mono ?_; rintro e w3 ⟨rfl, rfl⟩)
  all_goals
    go_ret
    refine ⟨ret_int ?_, by (repeat (with_reducible (first | exact Ext.refl _ | assumption | exact held_left (by assumption) | apply Ext.drewN | apply Ext.drew | apply Ext.alloc | (refine Ext.setCell ?_ (by first | (simp; done) | (simp; omega) | omega) _) | (refine Ext.trans ?_ (by assumption)) | (refine Ext.trans ?_ (held_left (by assumption))))))⟩
    have hS3 := HS2.out ⟨by omega, by omega⟩
    clear HP HO HSa HS2
    unfold rightV
    cases S <;> simp only [Bool.not_true, Bool.not_false, Bool.false_eq_true, false_iff, true_iff, Classical.not_not, reduceCtorEq] at *
    all_goals first
      | ((repeat' split) <;> (first | rfl | (exfalso; omega) | (simp_all; done) | (simp_all; omega) | (exfalso; simp_all; omega)))

end Go.Proofs.Ytmpnopjkpamhaaa
