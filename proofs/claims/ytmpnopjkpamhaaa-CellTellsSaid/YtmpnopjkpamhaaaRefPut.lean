/-
The reference's Word, Uint, Zig, Text, turned, float.
-/
import Derived.Test.YtmpnopjkpamhaaaPut
namespace Go.Proofs.Ytmpnopjkpamhaaa
open Go.RowKit

theorem byte_step (x : Int) (k : Nat) : x / 2 ^ (8 * k) / 256 = x / 2 ^ (8 * (k + 1)) := by
  rw [Nat.mul_succ, Int.pow_add, Int.ediv_ediv_of_nonneg (Int.pow_nonneg (by decide))]; rfl

set_option maxRecDepth 100000 in set_option maxHeartbeats 1600000 in
theorem rword_any (x : Int) (w : World) (h0 : 0 ≤ x) (h1 : x < 18446744073709551616) :
    Calls Try.prog 54 #[.int .u64 x] w fun e w' => ∃ v', e = .returned v' ∧ OB w' w.heap.size v' (wordL x) ∧ Ext w w' := by
  obtain ⟨i0, hi, hz0, hz1, hz2⟩ := info_parts Try.infoU8
  go_enter Try.func54, Try.ntmps54
  go_wp2
  go_loopw [0, 3, 4] (fun t v i wr => ∃ (k : Nat) (m : Int), k ≤ 8 ∧ t = .int .u64 m ∧ 0 ≤ m ∧ m < 18446744073709551616 ∧ i = .int .i64 k ∧ Hid (m = x / 2 ^ (8 * k)) ∧ Hid (OB wr w.heap.size v ((List.range k).map (byteAt x))) ∧ Hid (Ext w wr)) (fun _ _ i _ => 8 - (intOf i).toNat)
  case atStart => exact ⟨0, x, by omega, rfl, h0, h1, rfl, Hid.mk' (by simp), Hid.mk' (OB.nil _ _), Hid.mk' (Ext.refl _)⟩
  case round =>
    obtain ⟨k, m, hk, rfl, hm0, hm1, rfl, hm, hown, hE⟩ := hrel
    by_cases hlt : k < 8
    · go_wp2_with (at_builtin; refine wpList_append_own _ rfl _ _ 29 rfl w.heap.size 5 i0 _ 1 1 Try.underlying29 hi hz0 hz1 hz2 rfl (by decide) _ _ _ rfl (hown.out.alloc _) ⟨_, 0, none⟩ 1 1 (bs [m % 256]) rfl rfl ?c1 ?c2 ?c3 ?c4 ?c5 ?_)
      case c1 => exact cells_one _ _
      case c2 => exact bs_one _
      case c3 => unfold maxLen; simp; omega
      case c4 => simp; omega
      case c5 => have := hE.out.size; simp; omega
      intro v' w2 hown' hgrow _
      have hE2 := OB.grown (hE.out.alloc _) (hown.out.alloc _) hgrow
      have HO := Hid.mk' (OB.push hown' (by simp))
      have HE2 := Hid.mk' hE2
      clear hown' hgrow hE2
      go_wp2
      go_roundw
      case rel => exact ⟨k + 1, m / 256, by omega, rfl, by omega, by omega, by go_num, Hid.mk' (by rw [hm.out]; exact byte_step x k), Hid.mk' (by rw [List.range_succ, List.map_append]; have h := HO.out; rw [hm.out] at h; exact h), HE2⟩
      case measure => simp [intOf]; omega
    · have hkk : k = 8 := by omega
      subst hkk
      go_wp2
      go_ret
      exact ⟨_, rfl, hown.out, hE.out⟩

set_option maxRecDepth 100000 in set_option maxHeartbeats 1600000 in
theorem ruint_any (x : Nat) (w : World) (hx : x < 2 ^ 64) :
    Calls Try.prog 32 #[.int .u64 x] w fun e w' => ∃ v', e = .returned v' ∧ OB w' w.heap.size v' (sevens x) ∧ Ext w w' := by
  obtain ⟨i0, hi, hz0, hz1, hz2⟩ := info_parts Try.infoU8
  have HX := Hid.mk' (sevens_len10 hx)
  go_enter Try.func32, Try.ntmps32
  go_wp2
  go_loopw [0, 3] (fun t v wr => ∃ (m : Nat) (l : List Int), t = .int .u64 m ∧ m < 2 ^ 64 ∧ Hid (l ++ sevens m = sevens x) ∧ Hid (OB wr w.heap.size v l) ∧ Hid (Ext w wr)) (fun t _ _ => (intOf t).toNat)
  case atStart => exact ⟨x, [], rfl, hx, Hid.mk' rfl, Hid.mk' (OB.nil _ _), Hid.mk' (Ext.refl _)⟩
  case round =>
    obtain ⟨m, l, rfl, hm, hs, ho, hE⟩ := hrel
    have hll : l.length ≤ 10 := by
      have := congrArg List.length hs.out
      have := HX.out
      simp only [List.length_append] at *
      omega
    by_cases hlt : m < 128
    · go_wp2_with (at_builtin; refine wpList_append_own _ rfl _ _ 29 rfl w.heap.size 5 i0 _ 1 1 Try.underlying29 hi hz0 hz1 hz2 rfl (by decide) _ _ _ rfl (ho.out.alloc _) ⟨_, 0, none⟩ 1 1 (bs [(m : Int)]) rfl rfl ?d1 ?d2 ?d3 ?d4 ?d5 ?_)
      case d1 => exact cells_one _ _
      case d2 => exact bs_one _
      case d3 => unfold maxLen; omega
      case d4 => omega
      case d5 => have := hE.out.size; simp; omega
      intro v' w2 hown' hgrow _
      have hE2 := OB.grown (hE.out.alloc _) (ho.out.alloc _) hgrow
      have HO := Hid.mk' (OB.push hown' (by simp))
      have HE2 := Hid.mk' hE2
      clear hown' hgrow hE2
      go_wp2
      go_ret
      exact ⟨_, rfl, by rw [← hs.out, sevens_lt hlt]; exact HO.out, HE2.out⟩
    · go_wp2_with (at_builtin; refine wpList_append_own _ rfl _ _ 29 rfl w.heap.size 5 i0 _ 1 1 Try.underlying29 hi hz0 hz1 hz2 rfl (by decide) _ _ _ rfl (ho.out.alloc _) ⟨_, 0, none⟩ 1 1 (bs [(m : Int) % 128 + 128]) rfl rfl ?c1 ?c2 ?c3 ?c4 ?c5 ?_)
      case c1 => exact cells_one _ _
      case c2 => exact bs_one _
      case c3 => unfold maxLen; omega
      case c4 => omega
      case c5 => have := hE.out.size; simp; omega
      intro v' w2 hown' hgrow _
      have hE2 := OB.grown (hE.out.alloc _) (ho.out.alloc _) hgrow
      have HO := Hid.mk' (OB.push hown' (by simp))
      have HE2 := Hid.mk' hE2
      clear hown' hgrow hE2
      have E3 : Hid (((m : Int) % 128 + 128) = ((m % 128 + 128 : Nat) : Int)) := Hid.mk' (by omega)
      go_wp2
      go_roundw
      case rel => exact ⟨m / 128, l ++ [((m % 128 + 128 : Nat) : Int)], by go_num, by omega, Hid.mk' (by rw [← hs.out, sevens_ge hlt, List.append_assoc, List.singleton_append]), Hid.mk' (by rw [← E3.out]; exact HO.out), HE2⟩
      case measure => simp [intOf]; omega

set_option maxRecDepth 100000 in set_option maxHeartbeats 1600000 in
theorem rzig_any (n : Int) (w : World) (hn : -9223372036854775808 ≤ n ∧ n < 9223372036854775808) :
    Calls Try.prog 55 #[.int .i64 n] w fun e w' => e = .returned (.int .u64 (zig n)) ∧ w = w' := by
  obtain ⟨hn1, hn2⟩ := hn
  by_cases h : n < 0
  · have HZ : Hid ((zig n : Int) = 2 * (-(n + 1)) + 1) := Hid.mk' (by unfold zig; rw [if_pos h]; omega)
    have hp : 0 ≤ -(n + 1) := by omega
    go_enter Try.func55, Try.ntmps55
    go_wp2
    go_ret
    exact ⟨ret_int (by rw [HZ.out]), rfl⟩
  · have HZ : Hid ((zig n : Int) = 2 * n) := Hid.mk' (by unfold zig; rw [if_neg h]; omega)
    have hp : 0 ≤ n := by omega
    go_enter Try.func55, Try.ntmps55
    go_wp2
    go_ret
    exact ⟨ret_int (by rw [HZ.out]), rfl⟩

end Go.Proofs.Ytmpnopjkpamhaaa
