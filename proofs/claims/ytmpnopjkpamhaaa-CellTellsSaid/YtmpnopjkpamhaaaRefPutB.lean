/-
The reference's turned, float, Text, Put.
-/
import Derived.Test.YtmpnopjkpamhaaaRefPut
import Derived.Lib.ConvBytes
namespace Go.Proofs.Ytmpnopjkpamhaaa
open Go.RowKit

def rv (x : Nat) : Nat → Nat
  | 0 => 0
  | k + 1 => 256 * rv x k + x / 256 ^ k % 256
theorem rv_8 (x : Nat) : rv x 8 = rev x := by simp [rv, rev]
theorem rv_lt (x : Nat) : ∀ k, k < 8 → rv x k < 72057594037927936 := by
  intro k hk
  have h : k = 0 ∨ k = 1 ∨ k = 2 ∨ k = 3 ∨ k = 4 ∨ k = 5 ∨ k = 6 ∨ k = 7 := by omega
  rcases h with rfl | rfl | rfl | rfl | rfl | rfl | rfl | rfl <;> simp [rv] <;> omega
theorem word_get (x : Nat) {k : Nat} (hk : k < 8) : (wordL (x : Int)).getD k 0 = ((x / 256 ^ k % 256 : Nat) : Int) := by
  have h : ((2 : Int) ^ (8 * k)) = ((256 ^ k : Nat) : Int) := by rw [show (256 : Nat) = 2 ^ 8 from rfl, ← Nat.pow_mul, Int.natCast_pow]; rfl
  simp only [wordL, byteAt, List.getD, List.getElem?_map, List.getElem?_range hk, Option.map_some, Option.getD_some, h, Int.natCast_emod, Int.natCast_ediv]
  rfl

set_option maxRecDepth 100000 in set_option maxHeartbeats 1600000 in
theorem rturned_any (x : Nat) (w : World) (hx : x < 2 ^ 64) :
    Calls Try.prog 86 #[.int .u64 x] w fun e w' => e = .returned (.int .u64 (rev x)) ∧ Ext w w' := by
  go_enter Try.func86, Try.ntmps86
  go_wp2_with (go_at_call 54; refine (rword_any x _ (by omega) (by omega)).mono ?_; rintro e w1 ⟨v1, rfl, ho1, hb1⟩; have HO1 := Hid.mk' ho1; have HE1 := Hid.mk' hb1; clear ho1 hb1)
  obtain ⟨a, cap, hv, hs⟩ := HO1.out.sl
  subst hv
  have hn : ((wordL (x : Int)).map bcell).length = 8 := by rw [List.length_map, wordL_len]
  rw [hn]
  rcases hs with h0 | ⟨b, o, rfl, hb, hc⟩
  · rw [h0] at hn; cases hn
  have HC : Hid (∀ k, k < 8 → w1.cell? ⟨b, o + k, none⟩ = some (.int .u8 ((x / 256 ^ k % 256 : Nat) : Int))) := Hid.mk' (fun k hk => by
    have := hc k (by rw [hn]; exact hk) 0 (by omega)
    rw [Nat.mul_one, Nat.add_zero] at this
    rw [this, ← word_get x hk]
    simp [bcell, List.getD, List.getElem?_map, List.getElem?_eq_getElem (show k < (wordL (x : Int)).length by rw [wordL_len]; exact hk)])
  clear hc hn HO1
  go_wp2
  go_loop [4, 5] (fun t i => ∃ k : Nat, k ≤ 8 ∧ i = .int .i64 k ∧ t = .int .u64 (rv x k)) (fun _ i => 8 - (intOf i).toNat)
  case atStart => exact ⟨0, by omega, rfl, rfl⟩
  case round =>
    obtain ⟨k, hk, rfl, rfl⟩ := hrel
    by_cases hlt : k < 8
    · have h1 := rv_lt x k hlt
      have h2 := HC.out k hlt
      obtain ⟨q, hq⟩ : ∃ q : Nat, q = x / 256 ^ k % 256 := ⟨_, rfl⟩
      rw [← hq] at h2
      have h3 : q < 256 := by omega
      have HN : Hid (((rv x (k + 1) : Nat) : Int) = 256 * (rv x k : Int) + (q : Int)) := Hid.mk' (by rw [rv, ← hq]; push_cast; rfl)
      clear hq
      go_wp2
      go_round
      case rel => exact ⟨k + 1, by omega, by go_num, by rw [HN.out]⟩
      case measure => simp [intOf]; omega
    · have hkk : k = 8 := by omega
      subst hkk
      have HN : Hid (((rv x 8 : Nat) : Int) = rev x) := Hid.mk' (by rw [rv_8])
      go_wp2
      go_ret
      exact ⟨ret_int HN.out, HE1.out⟩

set_option maxRecDepth 100000 in set_option maxHeartbeats 1600000 in
theorem rfloat_any (x : Nat) (ver : Int) (w : World) (hx : x < 2 ^ 64) :
    Calls Try.prog 56 #[.int .u64 x, .int .u8 ver] w fun e w' => ∃ v', e = .returned v' ∧ OB w' w.heap.size v' (floatL x ver) ∧ Ext w w' := by
  have HX := Hid.mk' hx
  clear hx
  by_cases h1 : ver = 1
  · subst h1
    go_enter Try.func56, Try.ntmps56
    go_wp2_with (go_at_call 54; refine (rword_any x _ (by omega) (by have := HX.out; omega)).mono ?_; rintro e w1 ⟨v1, rfl, ho1, hb1⟩; have HO1 := Hid.mk' ho1; have HE1 := Hid.mk' hb1; clear ho1 hb1)
    go_ret
    exact ⟨_, rfl, by unfold floatL; rw [if_pos rfl]; exact HO1.out, HE1.out⟩
  · go_enter Try.func56, Try.ntmps56
    go_wp2_with (first
      | (go_at_call 86; refine (rturned_any x _ HX.out).mono ?_; rintro e w0 ⟨rfl, hb0⟩; have HE0 := Hid.mk' hb0; clear hb0)
      | (go_at_call 32; refine (ruint_any (rev x) _ rev_lt).mono ?_; rintro e w1 ⟨v1, rfl, ho1, hb1⟩; have HO1 := Hid.mk' ho1; have HE1 := Hid.mk' hb1; clear ho1 hb1))
    go_ret
    exact ⟨_, rfl, by unfold floatL; rw [if_neg h1]; exact HO1.out.base HE0.out.size, HE0.out.trans HE1.out⟩

theorem ext_bytesWorld (w : World) (e : TypeId) (s : ByteArray) : Ext w (Go.Lib.bytesWorld w e s) :=
  ⟨rfl, rfl, rfl, by rw [Go.Lib.bytesWorld_size]; omega, fun k hk => Go.Lib.bytesWorld_at_old w e s k hk⟩
theorem news_bytesWorld (w : World) (e : TypeId) (s : ByteArray) : ∀ j u, (bs (strL s))[j]? = some u → (Go.Lib.bytesWorld w e s).cell? ((⟨w.heap.size, 0, none⟩ : Addr).add j) = some u := by
  refine bytes_news fun i hi => ?_
  rw [strL_len] at hi
  rw [Nat.zero_add, Go.Lib.bytesWorld_cell w e s i hi]
  have h : i < s.data.toList.length := by simpa using hi
  simp [strL, List.getD, List.getElem?_map, List.getElem?_eq_getElem h]
theorem conv_str (w : World) (s : ByteArray) : (convert 9 29 (.string s)).run Try.prog w = .ok (.slice (some ⟨w.heap.size, 0, none⟩) s.size (grownCap w s.size 0 5)) (Go.Lib.bytesWorld w 5 s) :=
  Go.Lib.run_convert_string_bytes w _ _ _ s Try.underlying9 Try.underlying29 Try.underlying5

set_option maxRecDepth 100000 in set_option maxHeartbeats 1600000 in
theorem rtext_any (s : ByteArray) (w : World) (hs : s.size ≤ 1000000) :
    Calls Try.prog 57 #[.string s] w fun e w' => ∃ v', e = .returned v' ∧ OB w' w.heap.size v' (sevens s.size ++ strL s) ∧ Ext w w' := by
  obtain ⟨i0, hi, hz0, hz1, hz2⟩ := info_parts Try.infoU8
  have HX := Hid.mk' (sevens_len10 (x := s.size) (by omega))
  have hcv := fun w => conv_str w s
  go_enter Try.func57, Try.ntmps57
  go_wp2_with (first
    | (go_at_call 32; refine (ruint_any s.size _ (by omega)).mono ?_; rintro e w1 ⟨v1, rfl, ho1, hb1⟩; have HO1 := Hid.mk' ho1; have HE1 := Hid.mk' hb1; clear ho1 hb1)
    | (at_builtin; refine wpList_append_own _ rfl _ _ 29 rfl w.heap.size 5 i0 _ 1 1 Try.underlying29 hi hz0 hz1 hz2 rfl (by decide) _ _ _ rfl (HO1.out.ext (ext_bytesWorld w1 5 s)) _ s.size _ (bs (strL s)) rfl (by rw [bs_len, strL_len, Nat.mul_one]) (news_bytesWorld w1 5 s) (bs_one _) ?c3 ?c4 ?c5 ?_))
  case c3 => have := HX.out; unfold maxLen; omega
  case c4 => have := HX.out; omega
  case c5 => exact (HE1.out.trans (ext_bytesWorld w1 5 s)).size
  intro v2 w2 hown hgrow _
  have hE2 := OB.grown (HE1.out.trans (ext_bytesWorld w1 5 s)) (HO1.out.ext (ext_bytesWorld w1 5 s)) hgrow
  have HO := Hid.mk' (OB.push hown (by rw [strL_len]))
  have HE2 := Hid.mk' hE2
  clear hown hgrow hE2
  go_wp2
  go_ret
  exact ⟨_, rfl, HO.out, HE2.out⟩

end Go.Proofs.Ytmpnopjkpamhaaa
