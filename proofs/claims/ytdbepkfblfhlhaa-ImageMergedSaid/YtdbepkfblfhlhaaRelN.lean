/-
Names: the program's, the reference's.
-/
import Derived.Test.YtdbepkfblfhlhaaRel
namespace Go.Proofs.Ytdbepkfblfhlhaa
open Go.RowKit

set_option maxRecDepth 20000 in set_option maxHeartbeats 400000 in
theorem named_any (s : ByteArray) (w : World) (hs : s.size ≤ 9223372036854775807) :
    Calls Try.prog 94 #[.string s] w fun e w' => e = .returned (.bool (namedB s)) ∧ w = w' := by
  go_enter Try.func94, Try.ntmps94
  go_wp2
  go_loop [8] (fun i => ∃ k : Nat, k ≤ s.size ∧ i = .int .i64 k ∧ Hid (∀ j, j < k → nameAt s j = true)) (fun i => s.size - (intOf i).toNat)
  case atStart => exact ⟨0, Nat.zero_le _, rfl, fun j h => by omega⟩
  case round =>
    obtain ⟨k, hk, rfl, hrel⟩ := hrel
    by_cases hlt : k < s.size
    · rcases name_cases hlt with ⟨hn, hc⟩ | ⟨hn, hc⟩
      · have HN := Hid.mk' hn
        clear hn
        have HC := Hid.mk' hc
        clear hc
        rcases HC.out with ⟨h1, h2⟩ | ⟨h0, h1, h2⟩ | ⟨h0, h1⟩
        · clear HC
          go_wp2
          go_round
          case rel => exact ⟨k + 1, by omega, by go_num, fun j hj => by
            by_cases e : j = k
            · subst e; exact HN.out
            · exact hrel.out j (by omega)⟩
          case measure => simp [intOf]; omega
        · clear HC
          (try first | (have a1 : 97 ≤ (s[k].toNat : Int) := by omega) | (have a1 : (s[k].toNat : Int) < 97 := by omega)); (try first | (have a2 : (s[k].toNat : Int) ≤ 122 := by omega) | (have a2 : 122 < (s[k].toNat : Int) := by omega)); (try first | (have a3 : 48 ≤ (s[k].toNat : Int) := by omega) | (have a3 : (s[k].toNat : Int) < 48 := by omega)); (try first | (have a4 : (s[k].toNat : Int) ≤ 57 := by omega) | (have a4 : 57 < (s[k].toNat : Int) := by omega)); (try first | (have a1d : decide (97 ≤ (s[k].toNat : Int)) = true := decide_eq_true (by omega)) | (have a1d : decide (97 ≤ (s[k].toNat : Int)) = false := decide_eq_false (by omega))); (try first | (have a2d : decide ((s[k].toNat : Int) ≤ 122) = true := decide_eq_true (by omega)) | (have a2d : decide ((s[k].toNat : Int) ≤ 122) = false := decide_eq_false (by omega))); (try first | (have a3d : decide (48 ≤ (s[k].toNat : Int)) = true := decide_eq_true (by omega)) | (have a3d : decide (48 ≤ (s[k].toNat : Int)) = false := decide_eq_false (by omega))); (try first | (have a4d : decide ((s[k].toNat : Int) ≤ 57) = true := decide_eq_true (by omega)) | (have a4d : decide ((s[k].toNat : Int) ≤ 57) = false := decide_eq_false (by omega)))
          have e0 : ((k : Int) == 0) = false := by simp; omega
          have h3 : (s[k].toNat : Int) < 97 := by omega
          go_wp2
          go_round
          case rel => exact ⟨k + 1, by omega, by go_num, fun j hj => by
            by_cases e : j = k
            · subst e; exact HN.out
            · exact hrel.out j (by omega)⟩
          case measure => simp [intOf]; omega
        · clear HC
          have e0 : ((k : Int) == 0) = false := by simp; omega
          have e1 : ((s[k].toNat : Int) != 95) = false := by simp; omega
          have h3 : (s[k].toNat : Int) < 97 := by omega
          have h4 : 57 < (s[k].toNat : Int) := by omega
          clear h1
          go_wp2
          go_round
          case rel => exact ⟨k + 1, by omega, by go_num, fun j hj => by
            by_cases e : j = k
            · subst e; exact HN.out
            · exact hrel.out j (by omega)⟩
          case measure => simp [intOf]; omega
      · have HF := Hid.mk' (named_no hlt hn)
        clear hn
        rcases hc with ⟨rfl, h1⟩ | ⟨rfl, h1⟩ | ⟨h0, h1⟩ | ⟨h0, h1, h2⟩ | ⟨h0, h1, h2⟩ | ⟨h0, h1⟩
        · (try first | (have a1 : 97 ≤ (s[0].toNat : Int) := by omega) | (have a1 : (s[0].toNat : Int) < 97 := by omega)); (try first | (have a2 : (s[0].toNat : Int) ≤ 122 := by omega) | (have a2 : 122 < (s[0].toNat : Int) := by omega)); (try first | (have a3 : 48 ≤ (s[0].toNat : Int) := by omega) | (have a3 : (s[0].toNat : Int) < 48 := by omega)); (try first | (have a4 : (s[0].toNat : Int) ≤ 57 := by omega) | (have a4 : 57 < (s[0].toNat : Int) := by omega)); (try first | (have a1d : decide (97 ≤ (s[0].toNat : Int)) = true := decide_eq_true (by omega)) | (have a1d : decide (97 ≤ (s[0].toNat : Int)) = false := decide_eq_false (by omega))); (try first | (have a2d : decide ((s[0].toNat : Int) ≤ 122) = true := decide_eq_true (by omega)) | (have a2d : decide ((s[0].toNat : Int) ≤ 122) = false := decide_eq_false (by omega))); (try first | (have a3d : decide (48 ≤ (s[0].toNat : Int)) = true := decide_eq_true (by omega)) | (have a3d : decide (48 ≤ (s[0].toNat : Int)) = false := decide_eq_false (by omega))); (try first | (have a4d : decide ((s[0].toNat : Int) ≤ 57) = true := decide_eq_true (by omega)) | (have a4d : decide ((s[0].toNat : Int) ≤ 57) = false := decide_eq_false (by omega)))
          go_wp2
          all_goals
            go_ret
            exact ⟨ret_bool HF.out.symm, rfl⟩
        · (try first | (have a1 : 97 ≤ (s[0].toNat : Int) := by omega) | (have a1 : (s[0].toNat : Int) < 97 := by omega)); (try first | (have a2 : (s[0].toNat : Int) ≤ 122 := by omega) | (have a2 : 122 < (s[0].toNat : Int) := by omega)); (try first | (have a3 : 48 ≤ (s[0].toNat : Int) := by omega) | (have a3 : (s[0].toNat : Int) < 48 := by omega)); (try first | (have a4 : (s[0].toNat : Int) ≤ 57 := by omega) | (have a4 : 57 < (s[0].toNat : Int) := by omega)); (try first | (have a1d : decide (97 ≤ (s[0].toNat : Int)) = true := decide_eq_true (by omega)) | (have a1d : decide (97 ≤ (s[0].toNat : Int)) = false := decide_eq_false (by omega))); (try first | (have a2d : decide ((s[0].toNat : Int) ≤ 122) = true := decide_eq_true (by omega)) | (have a2d : decide ((s[0].toNat : Int) ≤ 122) = false := decide_eq_false (by omega))); (try first | (have a3d : decide (48 ≤ (s[0].toNat : Int)) = true := decide_eq_true (by omega)) | (have a3d : decide (48 ≤ (s[0].toNat : Int)) = false := decide_eq_false (by omega))); (try first | (have a4d : decide ((s[0].toNat : Int) ≤ 57) = true := decide_eq_true (by omega)) | (have a4d : decide ((s[0].toNat : Int) ≤ 57) = false := decide_eq_false (by omega)))
          go_wp2
          all_goals
            go_ret
            exact ⟨ret_bool HF.out.symm, rfl⟩
        all_goals
          have e0 : ((k : Int) == 0) = false := by simp; omega
          have e1 : ((s[k].toNat : Int) != 95) = true := by simp; omega
          (try first | (have a1 : 97 ≤ (s[k].toNat : Int) := by omega) | (have a1 : (s[k].toNat : Int) < 97 := by omega)); (try first | (have a2 : (s[k].toNat : Int) ≤ 122 := by omega) | (have a2 : 122 < (s[k].toNat : Int) := by omega)); (try first | (have a3 : 48 ≤ (s[k].toNat : Int) := by omega) | (have a3 : (s[k].toNat : Int) < 48 := by omega)); (try first | (have a4 : (s[k].toNat : Int) ≤ 57 := by omega) | (have a4 : 57 < (s[k].toNat : Int) := by omega)); (try first | (have a1d : decide (97 ≤ (s[k].toNat : Int)) = true := decide_eq_true (by omega)) | (have a1d : decide (97 ≤ (s[k].toNat : Int)) = false := decide_eq_false (by omega))); (try first | (have a2d : decide ((s[k].toNat : Int) ≤ 122) = true := decide_eq_true (by omega)) | (have a2d : decide ((s[k].toNat : Int) ≤ 122) = false := decide_eq_false (by omega))); (try first | (have a3d : decide (48 ≤ (s[k].toNat : Int)) = true := decide_eq_true (by omega)) | (have a3d : decide (48 ≤ (s[k].toNat : Int)) = false := decide_eq_false (by omega))); (try first | (have a4d : decide ((s[k].toNat : Int) ≤ 57) = true := decide_eq_true (by omega)) | (have a4d : decide ((s[k].toNat : Int) ≤ 57) = false := decide_eq_false (by omega)))
          go_wp2
          all_goals
            go_ret
            exact ⟨ret_bool HF.out.symm, rfl⟩
    · have hkk : k = s.size := by omega
      have HF := Hid.mk' (named_yes (s := s) fun j hj => hrel.out j (by omega))
      subst hkk
      by_cases h1 : 1 ≤ s.size <;> by_cases h2 : s.size ≤ 31
      all_goals
        go_wp2
        all_goals go_ret
        all_goals exact ⟨ret_bool (by rw [HF.out] <;> first | (apply decide_eq_decide.2; omega) | (symm; rw [decide_eq_true_iff]; omega) | (symm; rw [decide_eq_false_iff_not]; omega)), rfl⟩

set_option maxRecDepth 20000 in set_option maxHeartbeats 400000 in
theorem rnamed_any (s : ByteArray) (w : World) (hs : s.size ≤ 9223372036854775807) :
    Calls Try.prog 99 #[.string s] w fun e w' => e = .returned (.bool (namedB s)) ∧ w = w' := by
  by_cases hl : 1 ≤ s.size ∧ s.size ≤ 31
  case neg =>
    have HF := Hid.mk' (named_len hl)
    by_cases h1 : s.size < 1
    · clear hl
      go_enter Try.func99, Try.ntmps99
      go_wp2
      go_ret
      exact ⟨ret_bool HF.out.symm, rfl⟩
    · have h2 : 31 < s.size := by omega
      clear hl
      go_enter Try.func99, Try.ntmps99
      go_wp2
      go_ret
      exact ⟨ret_bool HF.out.symm, rfl⟩
  obtain ⟨hl1, hl2⟩ := hl
  go_enter Try.func99, Try.ntmps99
  go_wp2
  go_loop [3] (fun i => ∃ k : Nat, k ≤ s.size ∧ i = .int .i64 k ∧ Hid (∀ j, j < k → nameAt s j = true)) (fun i => s.size - (intOf i).toNat)
  case atStart => exact ⟨0, Nat.zero_le _, rfl, fun j h => by omega⟩
  case round =>
    obtain ⟨k, hk, rfl, hrel⟩ := hrel
    by_cases hlt : k < s.size
    · rcases name_cases hlt with ⟨hn, hc⟩ | ⟨hn, hc⟩
      · have HN := Hid.mk' hn
        clear hn
        have HC := Hid.mk' hc
        clear hc
        rcases HC.out with ⟨h1, h2⟩ | ⟨h0, h1, h2⟩ | ⟨h0, h1⟩
        · clear HC
          go_wp2
          go_round
          case rel => exact ⟨k + 1, by omega, by go_num, fun j hj => by
            by_cases e : j = k
            · subst e; exact HN.out
            · exact hrel.out j (by omega)⟩
          case measure => simp [intOf]; omega
        · clear HC
          have h3 : (s[k].toNat : Int) < 97 := by omega
          go_wp2
          go_round
          case rel => exact ⟨k + 1, by omega, by go_num, fun j hj => by
            by_cases e : j = k
            · subst e; exact HN.out
            · exact hrel.out j (by omega)⟩
          case measure => simp [intOf]; omega
        · clear HC
          have e1 : ((s[k].toNat : Int) == 95) = true := by simp; omega
          have h3 : (s[k].toNat : Int) < 97 := by omega
          have h4 : 57 < (s[k].toNat : Int) := by omega
          clear h1
          go_wp2
          go_round
          case rel => exact ⟨k + 1, by omega, by go_num, fun j hj => by
            by_cases e : j = k
            · subst e; exact HN.out
            · exact hrel.out j (by omega)⟩
          case measure => simp [intOf]; omega
      · have HF := Hid.mk' (named_no hlt hn)
        clear hn
        rcases hc with ⟨rfl, h1⟩ | ⟨rfl, h1⟩ | ⟨h0, h1⟩ | ⟨h0, h1, h2⟩ | ⟨h0, h1, h2⟩ | ⟨h0, h1⟩
        · (try first | (have a1 : 97 ≤ (s[0].toNat : Int) := by omega) | (have a1 : (s[0].toNat : Int) < 97 := by omega)); (try first | (have a2 : (s[0].toNat : Int) ≤ 122 := by omega) | (have a2 : 122 < (s[0].toNat : Int) := by omega)); (try first | (have a3 : 48 ≤ (s[0].toNat : Int) := by omega) | (have a3 : (s[0].toNat : Int) < 48 := by omega)); (try first | (have a4 : (s[0].toNat : Int) ≤ 57 := by omega) | (have a4 : 57 < (s[0].toNat : Int) := by omega)); (try first | (have a1d : decide (97 ≤ (s[0].toNat : Int)) = true := decide_eq_true (by omega)) | (have a1d : decide (97 ≤ (s[0].toNat : Int)) = false := decide_eq_false (by omega))); (try first | (have a2d : decide ((s[0].toNat : Int) ≤ 122) = true := decide_eq_true (by omega)) | (have a2d : decide ((s[0].toNat : Int) ≤ 122) = false := decide_eq_false (by omega))); (try first | (have a3d : decide (48 ≤ (s[0].toNat : Int)) = true := decide_eq_true (by omega)) | (have a3d : decide (48 ≤ (s[0].toNat : Int)) = false := decide_eq_false (by omega))); (try first | (have a4d : decide ((s[0].toNat : Int) ≤ 57) = true := decide_eq_true (by omega)) | (have a4d : decide ((s[0].toNat : Int) ≤ 57) = false := decide_eq_false (by omega)))
          go_wp2
          all_goals
            go_ret
            exact ⟨ret_bool HF.out.symm, rfl⟩
        · (try first | (have a1 : 97 ≤ (s[0].toNat : Int) := by omega) | (have a1 : (s[0].toNat : Int) < 97 := by omega)); (try first | (have a2 : (s[0].toNat : Int) ≤ 122 := by omega) | (have a2 : 122 < (s[0].toNat : Int) := by omega)); (try first | (have a3 : 48 ≤ (s[0].toNat : Int) := by omega) | (have a3 : (s[0].toNat : Int) < 48 := by omega)); (try first | (have a4 : (s[0].toNat : Int) ≤ 57 := by omega) | (have a4 : 57 < (s[0].toNat : Int) := by omega)); (try first | (have a1d : decide (97 ≤ (s[0].toNat : Int)) = true := decide_eq_true (by omega)) | (have a1d : decide (97 ≤ (s[0].toNat : Int)) = false := decide_eq_false (by omega))); (try first | (have a2d : decide ((s[0].toNat : Int) ≤ 122) = true := decide_eq_true (by omega)) | (have a2d : decide ((s[0].toNat : Int) ≤ 122) = false := decide_eq_false (by omega))); (try first | (have a3d : decide (48 ≤ (s[0].toNat : Int)) = true := decide_eq_true (by omega)) | (have a3d : decide (48 ≤ (s[0].toNat : Int)) = false := decide_eq_false (by omega))); (try first | (have a4d : decide ((s[0].toNat : Int) ≤ 57) = true := decide_eq_true (by omega)) | (have a4d : decide ((s[0].toNat : Int) ≤ 57) = false := decide_eq_false (by omega)))
          go_wp2
          all_goals
            go_ret
            exact ⟨ret_bool HF.out.symm, rfl⟩
        all_goals
          have e1 : ((s[k].toNat : Int) == 95) = false := by simp; omega
          (try first | (have a1 : 97 ≤ (s[k].toNat : Int) := by omega) | (have a1 : (s[k].toNat : Int) < 97 := by omega)); (try first | (have a2 : (s[k].toNat : Int) ≤ 122 := by omega) | (have a2 : 122 < (s[k].toNat : Int) := by omega)); (try first | (have a3 : 48 ≤ (s[k].toNat : Int) := by omega) | (have a3 : (s[k].toNat : Int) < 48 := by omega)); (try first | (have a4 : (s[k].toNat : Int) ≤ 57 := by omega) | (have a4 : 57 < (s[k].toNat : Int) := by omega)); (try first | (have a1d : decide (97 ≤ (s[k].toNat : Int)) = true := decide_eq_true (by omega)) | (have a1d : decide (97 ≤ (s[k].toNat : Int)) = false := decide_eq_false (by omega))); (try first | (have a2d : decide ((s[k].toNat : Int) ≤ 122) = true := decide_eq_true (by omega)) | (have a2d : decide ((s[k].toNat : Int) ≤ 122) = false := decide_eq_false (by omega))); (try first | (have a3d : decide (48 ≤ (s[k].toNat : Int)) = true := decide_eq_true (by omega)) | (have a3d : decide (48 ≤ (s[k].toNat : Int)) = false := decide_eq_false (by omega))); (try first | (have a4d : decide ((s[k].toNat : Int) ≤ 57) = true := decide_eq_true (by omega)) | (have a4d : decide ((s[k].toNat : Int) ≤ 57) = false := decide_eq_false (by omega)))
          go_wp2
          all_goals
            go_ret
            exact ⟨ret_bool HF.out.symm, rfl⟩
    · have hkk : k = s.size := by omega
      have HF := Hid.mk' (named_yes (s := s) fun j hj => hrel.out j (by omega))
      subst hkk
      go_wp2
      go_ret
      exact ⟨ret_bool (by rw [HF.out]; symm; rw [decide_eq_true_iff]; omega), rfl⟩

end Go.Proofs.Ytdbepkfblfhlhaa
