/-
The reference's plain and Right of a value.
-/
import Derived.Test.YtmpnopjkpamhaaaBase
namespace Go.Proofs.Ytmpnopjkpamhaaa
open Go.RowKit

def plainB (s : ByteArray) : Bool := s.data.toList.all fun c => 32 ≤ c && c ≤ 126

theorem plain_get {s : ByteArray} (h : plainB s = true) (k : Nat) (hk : k < s.size) : 32 ≤ (s[k].toNat : Int) ∧ (s[k].toNat : Int) ≤ 126 := by
  unfold plainB at h
  rw [List.all_eq_true] at h
  have := h s[k] (by rw [Array.mem_toList_iff]; exact Array.getElem_mem hk)
  simp [UInt8.le_iff_toNat_le] at this
  omega

theorem plain_of {s : ByteArray} (h : ∀ k (hk : k < s.size), 32 ≤ (s[k].toNat : Int) ∧ (s[k].toNat : Int) ≤ 126) : plainB s = true := by
  unfold plainB
  rw [List.all_eq_true]
  intro c hc
  rw [Array.mem_toList_iff] at hc
  obtain ⟨k, hk, rfl⟩ := Array.mem_iff_getElem.1 hc
  have := h k hk
  simp [UInt8.le_iff_toNat_le]
  have e : s[k] = s.data[k] := rfl
  rw [e] at this
  omega

set_option maxRecDepth 20000 in set_option maxHeartbeats 400000 in
theorem rplain_any (s : ByteArray) (w : World) (hs : s.size ≤ 9223372036854775807) :
    Calls Try.prog 64 #[.string s] w fun e w' => e = .returned (.bool (plainB s)) ∧ w = w' := by
  go_enter Try.func64, Try.ntmps64
  go_wp2
  go_loop [3] (fun i => ∃ k : Nat, k ≤ s.size ∧ i = .int .i64 k ∧ Hid (∀ j (hj : j < s.size), j < k → 32 ≤ (s[j].toNat : Int) ∧ (s[j].toNat : Int) ≤ 126)) (fun i => s.size - (intOf i).toNat)
  case atStart => exact ⟨0, Nat.zero_le _, rfl, fun j _ h => by omega⟩
  case round =>
    obtain ⟨k, hk, rfl, hrel⟩ := hrel
    by_cases hlt : k < s.size
    · by_cases hg : 32 ≤ (s[k].toNat : Int) ∧ (s[k].toNat : Int) ≤ 126
      · obtain ⟨h1, h2⟩ := hg
        go_wp2
        go_round
        case rel => exact ⟨k + 1, by omega, by go_num, fun j hj hjk => by
          by_cases e : j = k
          · subst e; exact ⟨h1, h2⟩
          · exact hrel.out j hj (by omega)⟩
        case measure => simp [intOf]; omega
      · have hf : Hid (plainB s = false) := by
          show plainB s = false
          rw [Bool.eq_false_iff]; exact fun h => hg (plain_get h k hlt)
        by_cases hg1 : (s[k].toNat : Int) < 32
        · go_wp2
          go_ret
          exact ⟨ret_bool hf.out.symm, rfl⟩
        · have hg2 : 126 < (s[k].toNat : Int) := by omega
          go_wp2
          go_ret
          exact ⟨ret_bool hf.out.symm, rfl⟩
    · have hkk : k = s.size := by omega
      have hf : Hid (plainB s = true) := plain_of fun j hj => hrel.out j hj (by omega)
      subst hkk
      go_wp2
      go_ret
      exact ⟨ret_bool hf.out.symm, rfl⟩

/-- What is wrong with a value. -/
def rightV (ty n x y : Int) (s : ByteArray) : Int :=
  if ty < 1 ∨ 6 < ty then 11
  else if (2 < ty ∧ n ≠ 0) ∨ (ty ≠ 3 ∧ ty ≠ 4 ∧ x ≠ 0) ∨ (ty ≠ 4 ∧ y ≠ 0) ∨ (ty < 5 ∧ s.size ≠ 0) then 3
  else if ty = 1 ∧ n ≠ 0 ∧ n ≠ 1 then 4
  else if 2048 < s.size then 2
  else if ty = 5 ∧ plainB s = false then 3
  else 0

set_option maxRecDepth 100000 in set_option maxHeartbeats 1600000 in
theorem rright_any (ty n x y : Int) (s : ByteArray) (w : World) (hs : s.size ≤ 9223372036854775807) :
    Calls Try.prog 36 #[.agg #[.int .u8 ty, .int .i64 n, .int .u64 x, .int .u64 y, .string s]] w fun e w' =>
      e = .returned (.int .i64 (rightV ty n x y s)) ∧ Ext w w' := by
  have HP := Hid.mk' (fun w => rplain_any s w hs)
  go_enter Try.func36, Try.ntmps36
  go_wp2_with (go_at_call 64; refine (HP.out _).mono ?_; rintro e w' ⟨rfl, rfl⟩)
  all_goals
    go_ret
    refine ⟨ret_int ?_, by (repeat (with_reducible (first | exact Ext.refl _ | assumption | exact held_left (by assumption) | apply Ext.drewN | apply Ext.drew | apply Ext.alloc | (refine Ext.setCell ?_ (by first | (simp; done) | (simp; omega) | omega) _) | (refine Ext.trans ?_ (by assumption)) | (refine Ext.trans ?_ (held_left (by assumption))))))⟩
    clear HP
    try simp only [isEmpty_size] at *
    unfold rightV
    (repeat' split) <;> (first | rfl | (exfalso; omega) | (simp_all; done) | (simp_all; omega) | (exfalso; simp_all; omega))

end Go.Proofs.Ytmpnopjkpamhaaa
