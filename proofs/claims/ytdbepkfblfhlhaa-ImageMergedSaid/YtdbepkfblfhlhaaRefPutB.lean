import Derived.Test.YtdbepkfblfhlhaaPut
import Derived.Lib.ConvBytes
/-
The reference's Word, Uint, Zig, Text, turned, float.
-/
namespace Go.Proofs.Ytdbepkfblfhlhaa
open Go.RowKit

theorem byte_step (x : Int) (k : Nat) : x / 2 ^ (8 * k) / 256 = x / 2 ^ (8 * (k + 1)) := by
  rw [Nat.mul_succ, Int.pow_add, Int.ediv_ediv_of_nonneg (Int.pow_nonneg (by decide))]; rfl

set_option maxRecDepth 100000 in set_option maxHeartbeats 1600000 in
theorem rword_any (x : Int) (w : World) (h0 : 0 ≤ x) (h1 : x < 18446744073709551616) :
    Calls Try.prog 140 #[.int .u64 x] w fun e w' => ∃ v', e = .returned v' ∧ OB w' w.heap.size v' (wordL x) ∧ Ext w w' := by
  obtain ⟨i0, hi, hz0, hz1, hz2⟩ := info_parts Try.infoU8
  go_enter Try.func140, Try.ntmps140
  go_wp2
  go_loopw [0, 3, 4] (fun t v i wr => ∃ (k : Nat) (m : Int), k ≤ 8 ∧ t = .int .u64 m ∧ 0 ≤ m ∧ m < 18446744073709551616 ∧ i = .int .i64 k ∧ Hid (m = x / 2 ^ (8 * k)) ∧ Hid (OB wr w.heap.size v ((List.range k).map (byteAt x))) ∧ Hid (Ext w wr)) (fun _ _ i _ => 8 - (intOf i).toNat)
  case atStart => exact ⟨0, x, by omega, rfl, h0, h1, rfl, Hid.mk' (by simp), Hid.mk' (OB.nil _ _), Hid.mk' (Ext.refl _)⟩
  case round =>
    obtain ⟨k, m, hk, rfl, hm0, hm1, rfl, hm, hown, hE⟩ := hrel
    by_cases hlt : k < 8
    · go_wp2_with (at_builtin; refine wpList_append_own _ rfl _ _ 80 rfl w.heap.size 5 i0 _ 1 1 Try.underlying80 hi hz0 hz1 hz2 rfl (by decide) _ _ _ rfl (hown.out.alloc _) ⟨_, 0, none⟩ 1 1 (bs [m % 256]) rfl rfl ?c1 ?c2 ?c3 ?c4 ?c5 ?_)
      case c1 => exact cells_one _ _
      case c2 => exact bs_one _
      case c3 => unfold maxLen; simp; omega
      case c4 => simp; omega
      case c5 => have := hE.out.size; simp; omega
      intro v' w2 hown' hgrow _
      have hE2 := OB.grown (hE.out.alloc _) (hown.out.alloc _) hgrow
      have HO := Hid.mk' (OB.push hown' (by simp))
      have HE2 := Hid.mk' hE2
      clear hown' hgrow hE2
      go_wp2
      go_roundw
      case rel => exact ⟨k + 1, m / 256, by omega, rfl, by omega, by omega, by go_num, Hid.mk' (by rw [hm.out]; exact byte_step x k), Hid.mk' (by rw [List.range_succ, List.map_append]; have h := HO.out; rw [hm.out] at h; exact h), HE2⟩
      case measure => simp [intOf]; omega
    · have hkk : k = 8 := by omega
      subst hkk
      go_wp2
      go_ret
      exact ⟨_, rfl, hown.out, hE.out⟩

set_option maxRecDepth 100000 in set_option maxHeartbeats 1600000 in
theorem ruint_any (x : Nat) (w : World) (hx : x < 2 ^ 64) :
    Calls Try.prog 114 #[.int .u64 x] w fun e w' => ∃ v', e = .returned v' ∧ OB w' w.heap.size v' (sevens x) ∧ Ext w w' := by
  obtain ⟨i0, hi, hz0, hz1, hz2⟩ := info_parts Try.infoU8
  have HX := Hid.mk' (sevens_len10 hx)
  go_enter Try.func114, Try.ntmps114
  go_wp2
  go_loopw [0, 3] (fun t v wr => ∃ (m : Nat) (l : List Int), t = .int .u64 m ∧ m < 2 ^ 64 ∧ Hid (l ++ sevens m = sevens x) ∧ Hid (OB wr w.heap.size v l) ∧ Hid (Ext w wr)) (fun t _ _ => (intOf t).toNat)
  case atStart => exact ⟨x, [], rfl, hx, Hid.mk' rfl, Hid.mk' (OB.nil _ _), Hid.mk' (Ext.refl _)⟩
  case round =>
    obtain ⟨m, l, rfl, hm, hs, ho, hE⟩ := hrel
    have hll : l.length ≤ 10 := by
      have := congrArg List.length hs.out
      have := HX.out
      simp only [List.length_append] at *
      omega
    by_cases hlt : m < 128
    · go_wp2_with (at_builtin; refine wpList_append_own _ rfl _ _ 80 rfl w.heap.size 5 i0 _ 1 1 Try.underlying80 hi hz0 hz1 hz2 rfl (by decide) _ _ _ rfl (ho.out.alloc _) ⟨_, 0, none⟩ 1 1 (bs [(m : Int)]) rfl rfl ?d1 ?d2 ?d3 ?d4 ?d5 ?_)
      case d1 => exact cells_one _ _
      case d2 => exact bs_one _
      case d3 => unfold maxLen; omega
      case d4 => omega
      case d5 => have := hE.out.size; simp; omega
      intro v' w2 hown' hgrow _
      have hE2 := OB.grown (hE.out.alloc _) (ho.out.alloc _) hgrow
      have HO := Hid.mk' (OB.push hown' (by simp))
      have HE2 := Hid.mk' hE2
      clear hown' hgrow hE2
      go_wp2
      go_ret
      exact ⟨_, rfl, by rw [← hs.out, sevens_lt hlt]; exact HO.out, HE2.out⟩
    · go_wp2_with (at_builtin; refine wpList_append_own _ rfl _ _ 80 rfl w.heap.size 5 i0 _ 1 1 Try.underlying80 hi hz0 hz1 hz2 rfl (by decide) _ _ _ rfl (ho.out.alloc _) ⟨_, 0, none⟩ 1 1 (bs [(m : Int) % 128 + 128]) rfl rfl ?c1 ?c2 ?c3 ?c4 ?c5 ?_)
      case c1 => exact cells_one _ _
      case c2 => exact bs_one _
      case c3 => unfold maxLen; omega
      case c4 => omega
      case c5 => have := hE.out.size; simp; omega
      intro v' w2 hown' hgrow _
      have hE2 := OB.grown (hE.out.alloc _) (ho.out.alloc _) hgrow
      have HO := Hid.mk' (OB.push hown' (by simp))
      have HE2 := Hid.mk' hE2
      clear hown' hgrow hE2
      have E3 : Hid (((m : Int) % 128 + 128) = ((m % 128 + 128 : Nat) : Int)) := Hid.mk' (by omega)
      go_wp2
      go_roundw
      case rel => exact ⟨m / 128, l ++ [((m % 128 + 128 : Nat) : Int)], by go_num, by omega, Hid.mk' (by rw [← hs.out, sevens_ge hlt, List.append_assoc, List.singleton_append]), Hid.mk' (by rw [← E3.out]; exact HO.out), HE2⟩
      case measure => simp [intOf]; omega

set_option maxRecDepth 100000 in set_option maxHeartbeats 1600000 in
theorem rzig_any (n : Int) (w : World) (hn : -9223372036854775808 ≤ n ∧ n < 9223372036854775808) :
    Calls Try.prog 141 #[.int .i64 n] w fun e w' => e = .returned (.int .u64 (zig n)) ∧ w = w' := by
  obtain ⟨hn1, hn2⟩ := hn
  by_cases h : n < 0
  · have HZ : Hid ((zig n : Int) = 2 * (-(n + 1)) + 1) := Hid.mk' (by unfold zig; rw [if_pos h]; omega)
    have hp : 0 ≤ -(n + 1) := by omega
    go_enter Try.func141, Try.ntmps141
    go_wp2
    go_ret
    exact ⟨ret_int (by rw [HZ.out]), rfl⟩
  · have HZ : Hid ((zig n : Int) = 2 * n) := Hid.mk' (by unfold zig; rw [if_neg h]; omega)
    have hp : 0 ≤ n := by omega
    go_enter Try.func141, Try.ntmps141
    go_wp2
    go_ret
    exact ⟨ret_int (by rw [HZ.out]), rfl⟩

end Go.Proofs.Ytdbepkfblfhlhaa

/-
The reference's turned, float, Text, Put.
-/
namespace Go.Proofs.Ytdbepkfblfhlhaa
open Go.RowKit

def rv (x : Nat) : Nat → Nat
  | 0 => 0
  | k + 1 => 256 * rv x k + x / 256 ^ k % 256
theorem rv_8 (x : Nat) : rv x 8 = rev x := by simp [rv, rev]
theorem rv_lt (x : Nat) : ∀ k, k < 8 → rv x k < 72057594037927936 := by
  intro k hk
  have h : k = 0 ∨ k = 1 ∨ k = 2 ∨ k = 3 ∨ k = 4 ∨ k = 5 ∨ k = 6 ∨ k = 7 := by omega
  rcases h with rfl | rfl | rfl | rfl | rfl | rfl | rfl | rfl <;> simp [rv] <;> omega
theorem word_get (x : Nat) {k : Nat} (hk : k < 8) : (wordL (x : Int)).getD k 0 = ((x / 256 ^ k % 256 : Nat) : Int) := by
  have h : ((2 : Int) ^ (8 * k)) = ((256 ^ k : Nat) : Int) := by rw [show (256 : Nat) = 2 ^ 8 from rfl, ← Nat.pow_mul, Int.natCast_pow]; rfl
  simp only [wordL, byteAt, List.getD, List.getElem?_map, List.getElem?_range hk, Option.map_some, Option.getD_some, h, Int.natCast_emod, Int.natCast_ediv]
  rfl

set_option maxRecDepth 100000 in set_option maxHeartbeats 1600000 in
theorem rturned_any (x : Nat) (w : World) (hx : x < 2 ^ 64) :
    Calls Try.prog 164 #[.int .u64 x] w fun e w' => e = .returned (.int .u64 (rev x)) ∧ Ext w w' := by
  go_enter Try.func164, Try.ntmps164
  go_wp2_with (go_at_call 140; refine (rword_any x _ (by omega) (by omega)).mono ?_; rintro e w1 ⟨v1, rfl, ho1, hb1⟩; have HO1 := Hid.mk' ho1; have HE1 := Hid.mk' hb1; clear ho1 hb1)
  obtain ⟨a, cap, hv, hs⟩ := HO1.out.sl
  subst hv
  have hn : ((wordL (x : Int)).map bcell).length = 8 := by rw [List.length_map, wordL_len]
  rw [hn]
  rcases hs with h0 | ⟨b, o, rfl, hb, hc⟩
  · rw [h0] at hn; cases hn
  have HC : Hid (∀ k, k < 8 → w1.cell? ⟨b, o + k, none⟩ = some (.int .u8 ((x / 256 ^ k % 256 : Nat) : Int))) := Hid.mk' (fun k hk => by
    have := hc k (by rw [hn]; exact hk) 0 (by omega)
    rw [Nat.mul_one, Nat.add_zero] at this
    rw [this, ← word_get x hk]
    simp [bcell, List.getD, List.getElem?_map, List.getElem?_eq_getElem (show k < (wordL (x : Int)).length by rw [wordL_len]; exact hk)])
  clear hc hn HO1
  go_wp2
  go_loop [4, 5] (fun t i => ∃ k : Nat, k ≤ 8 ∧ i = .int .i64 k ∧ t = .int .u64 (rv x k)) (fun _ i => 8 - (intOf i).toNat)
  case atStart => exact ⟨0, by omega, rfl, rfl⟩
  case round =>
    obtain ⟨k, hk, rfl, rfl⟩ := hrel
    by_cases hlt : k < 8
    · have h1 := rv_lt x k hlt
      have h2 := HC.out k hlt
      obtain ⟨q, hq⟩ : ∃ q : Nat, q = x / 256 ^ k % 256 := ⟨_, rfl⟩
      rw [← hq] at h2
      have h3 : q < 256 := by omega
      have HN : Hid (((rv x (k + 1) : Nat) : Int) = 256 * (rv x k : Int) + (q : Int)) := Hid.mk' (by rw [rv, ← hq]; push_cast; rfl)
      clear hq
      go_wp2
      go_round
      case rel => exact ⟨k + 1, by omega, by go_num, by rw [HN.out]⟩
      case measure => simp [intOf]; omega
    · have hkk : k = 8 := by omega
      subst hkk
      have HN : Hid (((rv x 8 : Nat) : Int) = rev x) := Hid.mk' (by rw [rv_8])
      go_wp2
      go_ret
      exact ⟨ret_int HN.out, HE1.out⟩

set_option maxRecDepth 100000 in set_option maxHeartbeats 1600000 in
theorem rfloat_any (x : Nat) (ver : Int) (w : World) (hx : x < 2 ^ 64) :
    Calls Try.prog 142 #[.int .u64 x, .int .u8 ver] w fun e w' => ∃ v', e = .returned v' ∧ OB w' w.heap.size v' (floatL x ver) ∧ Ext w w' := by
  have HX := Hid.mk' hx
  clear hx
  by_cases h1 : ver = 1
  · subst h1
    go_enter Try.func142, Try.ntmps142
    go_wp2_with (go_at_call 140; refine (rword_any x _ (by omega) (by have := HX.out; omega)).mono ?_; rintro e w1 ⟨v1, rfl, ho1, hb1⟩; have HO1 := Hid.mk' ho1; have HE1 := Hid.mk' hb1; clear ho1 hb1)
    go_ret
    exact ⟨_, rfl, by unfold floatL; rw [if_pos rfl]; exact HO1.out, HE1.out⟩
  · go_enter Try.func142, Try.ntmps142
    go_wp2_with (first
      | (go_at_call 164; refine (rturned_any x _ HX.out).mono ?_; rintro e w0 ⟨rfl, hb0⟩; have HE0 := Hid.mk' hb0; clear hb0)
      | (go_at_call 114; refine (ruint_any (rev x) _ rev_lt).mono ?_; rintro e w1 ⟨v1, rfl, ho1, hb1⟩; have HO1 := Hid.mk' ho1; have HE1 := Hid.mk' hb1; clear ho1 hb1))
    go_ret
    exact ⟨_, rfl, by unfold floatL; rw [if_neg h1]; exact HO1.out.base HE0.out.size, HE0.out.trans HE1.out⟩

theorem ext_bytesWorld (w : World) (e : TypeId) (s : ByteArray) : Ext w (Go.Lib.bytesWorld w e s) :=
  ⟨rfl, rfl, rfl, by rw [Go.Lib.bytesWorld_size]; omega, fun k hk => Go.Lib.bytesWorld_at_old w e s k hk⟩
theorem news_bytesWorld (w : World) (e : TypeId) (s : ByteArray) : ∀ j u, (bs (strL s))[j]? = some u → (Go.Lib.bytesWorld w e s).cell? ((⟨w.heap.size, 0, none⟩ : Addr).add j) = some u := by
  refine bytes_news fun i hi => ?_
  rw [strL_len] at hi
  rw [Nat.zero_add, Go.Lib.bytesWorld_cell w e s i hi]
  have h : i < s.data.toList.length := by simpa using hi
  simp [strL, List.getD, List.getElem?_map, List.getElem?_eq_getElem h]
theorem conv_str (w : World) (s : ByteArray) : (convert 9 80 (.string s)).run Try.prog w = .ok (.slice (some ⟨w.heap.size, 0, none⟩) s.size (grownCap w s.size 0 5)) (Go.Lib.bytesWorld w 5 s) :=
  Go.Lib.run_convert_string_bytes w _ _ _ s Try.underlying9 Try.underlying80 Try.underlying5

set_option maxRecDepth 100000 in set_option maxHeartbeats 1600000 in
theorem rtext_any (s : ByteArray) (w : World) (hs : s.size ≤ 1000000) :
    Calls Try.prog 143 #[.string s] w fun e w' => ∃ v', e = .returned v' ∧ OB w' w.heap.size v' (sevens s.size ++ strL s) ∧ Ext w w' := by
  obtain ⟨i0, hi, hz0, hz1, hz2⟩ := info_parts Try.infoU8
  have HX := Hid.mk' (sevens_len10 (x := s.size) (by omega))
  have hcv := fun w => conv_str w s
  go_enter Try.func143, Try.ntmps143
  go_wp2_with (first
    | (go_at_call 114; refine (ruint_any s.size _ (by omega)).mono ?_; rintro e w1 ⟨v1, rfl, ho1, hb1⟩; have HO1 := Hid.mk' ho1; have HE1 := Hid.mk' hb1; clear ho1 hb1)
    | (at_builtin; refine wpList_append_own _ rfl _ _ 80 rfl w.heap.size 5 i0 _ 1 1 Try.underlying80 hi hz0 hz1 hz2 rfl (by decide) _ _ _ rfl (HO1.out.ext (ext_bytesWorld w1 5 s)) _ s.size _ (bs (strL s)) rfl (by rw [bs_len, strL_len, Nat.mul_one]) (news_bytesWorld w1 5 s) (bs_one _) ?c3 ?c4 ?c5 ?_))
  case c3 => have := HX.out; unfold maxLen; omega
  case c4 => have := HX.out; omega
  case c5 => exact (HE1.out.trans (ext_bytesWorld w1 5 s)).size
  intro v2 w2 hown hgrow _
  have hE2 := OB.grown (HE1.out.trans (ext_bytesWorld w1 5 s)) (HO1.out.ext (ext_bytesWorld w1 5 s)) hgrow
  have HO := Hid.mk' (OB.push hown (by rw [strL_len]))
  have HE2 := Hid.mk' hE2
  clear hown hgrow hE2
  go_wp2
  go_ret
  exact ⟨_, rfl, HO.out, HE2.out⟩

end Go.Proofs.Ytdbepkfblfhlhaa
