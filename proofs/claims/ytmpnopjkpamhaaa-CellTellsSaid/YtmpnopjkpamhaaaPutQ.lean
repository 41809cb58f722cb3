/-
Putting numbers with a sign, texts, floats and complex numbers.
-/
import Derived.Test.YtmpnopjkpamhaaaPutP
import Derived.Test.YtmpnopjkpamhaaaVal
namespace Go.Proofs.Ytmpnopjkpamhaaa
open Go.RowKit

/-- A number with a sign as one without. -/
def zig (n : Int) : Nat := if n < 0 then (-2 * n - 1).toNat else (2 * n).toNat

theorem xor_ones (a : Nat) (h : a < 2 ^ 64) : a ^^^ 18446744073709551615 = 18446744073709551615 - a := by
  have e := congrArg BitVec.toNat (BitVec.xor_allOnes (x := BitVec.ofNat 64 a))
  simp only [BitVec.toNat_xor, BitVec.toNat_ofNat, BitVec.toNat_allOnes, BitVec.toNat_not, Nat.mod_eq_of_lt h] at e
  exact e
theorem u64_wrap (n : Int) : IntKind.u64.wrap n = n % 18446744073709551616 := by
  simp [IntKind.wrap, IntKind.signed, IntKind.bits]
theorem zig_bits (n : Int) (hn : -9223372036854775808 ≤ n ∧ n < 9223372036854775808) : bits BinOp.xor IntKind.u64 (IntKind.u64.wrap (IntKind.u64.wrap n * 2)) (IntKind.u64.wrap (n / 9223372036854775808)) = (zig n : Int) := by
  rw [u64_wrap, u64_wrap, u64_wrap]
  unfold zig
  by_cases h : n < 0
  · rw [if_pos h, show (n % 18446744073709551616 * 2 % 18446744073709551616) = ((18446744073709551616 + 2 * n).toNat : Int) by omega, show (n / 9223372036854775808 % 18446744073709551616) = ((18446744073709551615 : Nat) : Int) by omega,
      bits_xor_u64_nat _ _ (by omega) (by omega), xor_ones _ (by omega)]
    omega
  · rw [if_neg h, show (n % 18446744073709551616 * 2 % 18446744073709551616) = ((2 * n).toNat : Int) by omega, show (n / 9223372036854775808 % 18446744073709551616) = ((0 : Nat) : Int) by omega,
      bits_xor_u64_nat _ _ (by omega) (by omega), Nat.xor_zero]

theorem zig_lt (n : Int) (hn : -9223372036854775808 ≤ n ∧ n < 9223372036854775808) : zig n < 2 ^ 64 := by unfold zig; split <;> omega

set_option maxRecDepth 100000 in set_option maxHeartbeats 1600000 in
theorem putInt_any (v : Value) (l : List Int) (n : Int) (w : World) (hl : Sl w v 1 (l.map bcell)) (hn : -9223372036854775808 ≤ n ∧ n < 9223372036854775808) (hlen : l.length ≤ 1000000) :
    Calls Try.prog 49 #[v, .int .i64 n] w fun e w' => ∃ v', e = .returned v' ∧ OB w' w.heap.size v' (l ++ sevens (zig n)) ∧ Ext w w' := by
  have HL := Hid.mk' hl
  have HZ := Hid.mk' (zig_bits n hn)
  go_enter Try.func49, Try.ntmps49
  go_wp2_with (go_at_call 29; rw [HZ.out]; refine (putUint_any v l (zig n) _ HL.out (zig_lt n hn) hlen).mono ?_; rintro e w1 ⟨v1, rfl, ho1, hb1⟩; have HO1 := Hid.mk' ho1; have HE1 := Hid.mk' hb1; clear ho1 hb1)
  go_ret
  exact ⟨_, rfl, HO1.out, HE1.out⟩

theorem data_len (s : ByteArray) : (s.data.toList.map fun b => (b.toNat : Int)).length = s.size := by rw [List.length_map, Array.length_toList]; rfl
def strL (s : ByteArray) : List Int := s.data.toList.map fun b => (b.toNat : Int)
theorem strL_len (s : ByteArray) : (strL s).length = s.size := by simp [strL]

set_option maxRecDepth 100000 in set_option maxHeartbeats 1600000 in
theorem putText_any (v : Value) (l : List Int) (s : ByteArray) (w : World) (hl : Sl w v 1 (l.map bcell)) (hs : s.size ≤ 1000000) (hlen : l.length ≤ 1000000) :
    Calls Try.prog 52 #[v, .string s] w fun e w' => ∃ v', e = .returned v' ∧ OB w' w.heap.size v' (l ++ (sevens s.size ++ strL s)) ∧ Ext w w' := by
  obtain ⟨i0, hi, hz0, hz1, hz2⟩ := info_parts Try.infoU8
  have HL := Hid.mk' hl
  have HX := Hid.mk' (sevens_len10 (x := s.size) (by omega))
  go_enter Try.func52, Try.ntmps52
  go_wp2_with (first
    | (go_at_call 29; refine (putUint_any v l s.size _ HL.out (by omega) hlen).mono ?_; rintro e w1 ⟨v1, rfl, ho1, hb1⟩; have HO1 := Hid.mk' ho1; have HE1 := Hid.mk' hb1; clear ho1 hb1)
    | (at_builtin; refine Go.Lib.wpList_append_own_string _ rfl _ _ 29 9 rfl w.heap.size 5 i0 Try.underlying29 Try.underlying9 hi hz0 hz1 hz2 _ _ _ rfl HO1.out s rfl ?c1 ?c2 ?c3 ?_))
  case c1 => have := HX.out; unfold maxLen; simp; omega
  case c2 => have := HX.out; simp; omega
  case c3 => exact HE1.out.size
  intro v2 w2 hown hgrow _
  have hE2 := OB.grown HE1.out HO1.out hgrow
  rw [bs_str] at hown
  have HO := Hid.mk' (OB.push hown (by rw [data_len, List.length_append]))
  have HE2 := Hid.mk' hE2
  clear hown hgrow hE2
  go_wp2
  go_ret
  exact ⟨_, rfl, by rw [← List.append_assoc]; exact HO.out, HE2.out⟩

end Go.Proofs.Ytmpnopjkpamhaaa
