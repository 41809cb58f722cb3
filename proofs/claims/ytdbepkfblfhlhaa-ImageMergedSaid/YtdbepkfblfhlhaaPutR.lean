import Derived.Test.YtdbepkfblfhlhaaPutP
import Derived.Test.YtdbepkfblfhlhaaVal
import Derived.Test.YtdbepkfblfhlhaaRev
/-
Putting numbers with a sign, texts, floats and complex numbers.
-/
namespace Go.Proofs.Ytdbepkfblfhlhaa
open Go.RowKit

/-- A number with a sign as one without. -/
def zig (n : Int) : Nat := if n < 0 then (-2 * n - 1).toNat else (2 * n).toNat

theorem xor_ones (a : Nat) (h : a < 2 ^ 64) : a ^^^ 18446744073709551615 = 18446744073709551615 - a := by
  have e := congrArg BitVec.toNat (BitVec.xor_allOnes (x := BitVec.ofNat 64 a))
  simp only [BitVec.toNat_xor, BitVec.toNat_ofNat, BitVec.toNat_allOnes, BitVec.toNat_not, Nat.mod_eq_of_lt h] at e
  exact e
theorem u64_wrap (n : Int) : IntKind.u64.wrap n = n % 18446744073709551616 := by
  simp [IntKind.wrap, IntKind.signed, IntKind.bits]
theorem zig_bits (n : Int) (hn : -9223372036854775808 ≤ n ∧ n < 9223372036854775808) : bits BinOp.xor IntKind.u64 (IntKind.u64.wrap (IntKind.u64.wrap n * 2)) (IntKind.u64.wrap (n / 9223372036854775808)) = (zig n : Int) := by
  rw [u64_wrap, u64_wrap, u64_wrap]
  unfold zig
  by_cases h : n < 0
  · rw [if_pos h, show (n % 18446744073709551616 * 2 % 18446744073709551616) = ((18446744073709551616 + 2 * n).toNat : Int) by omega, show (n / 9223372036854775808 % 18446744073709551616) = ((18446744073709551615 : Nat) : Int) by omega,
      bits_xor_u64_nat _ _ (by omega) (by omega), xor_ones _ (by omega)]
    omega
  · rw [if_neg h, show (n % 18446744073709551616 * 2 % 18446744073709551616) = ((2 * n).toNat : Int) by omega, show (n / 9223372036854775808 % 18446744073709551616) = ((0 : Nat) : Int) by omega,
      bits_xor_u64_nat _ _ (by omega) (by omega), Nat.xor_zero]

theorem zig_lt (n : Int) (hn : -9223372036854775808 ≤ n ∧ n < 9223372036854775808) : zig n < 2 ^ 64 := by unfold zig; split <;> omega

set_option maxRecDepth 100000 in set_option maxHeartbeats 1600000 in
theorem putInt_any (v : Value) (l : List Int) (n : Int) (w : World) (hl : Sl w v 1 (l.map bcell)) (hn : -9223372036854775808 ≤ n ∧ n < 9223372036854775808) (hlen : l.length ≤ 1000000) :
    Calls Try.prog 136 #[v, .int .i64 n] w fun e w' => ∃ v', e = .returned v' ∧ OB w' w.heap.size v' (l ++ sevens (zig n)) ∧ Ext w w' := by
  have HL := Hid.mk' hl
  have HZ := Hid.mk' (zig_bits n hn)
  go_enter Try.func136, Try.ntmps136
  go_wp2_with (go_at_call 112; rw [HZ.out]; refine (putUint_any v l (zig n) _ HL.out (zig_lt n hn) hlen).mono ?_; rintro e w1 ⟨v1, rfl, ho1, hb1⟩; have HO1 := Hid.mk' ho1; have HE1 := Hid.mk' hb1; clear ho1 hb1)
  go_ret
  exact ⟨_, rfl, HO1.out, HE1.out⟩

theorem data_len (s : ByteArray) : (s.data.toList.map fun b => (b.toNat : Int)).length = s.size := by rw [List.length_map, Array.length_toList]; rfl
def strL (s : ByteArray) : List Int := s.data.toList.map fun b => (b.toNat : Int)
theorem strL_len (s : ByteArray) : (strL s).length = s.size := by simp [strL]

set_option maxRecDepth 100000 in set_option maxHeartbeats 1600000 in
theorem putText_any (v : Value) (l : List Int) (s : ByteArray) (w : World) (hl : Sl w v 1 (l.map bcell)) (hs : s.size ≤ 1000000) (hlen : l.length ≤ 1000000) :
    Calls Try.prog 139 #[v, .string s] w fun e w' => ∃ v', e = .returned v' ∧ OB w' w.heap.size v' (l ++ (sevens s.size ++ strL s)) ∧ Ext w w' := by
  obtain ⟨i0, hi, hz0, hz1, hz2⟩ := info_parts Try.infoU8
  have HL := Hid.mk' hl
  have HX := Hid.mk' (sevens_len10 (x := s.size) (by omega))
  go_enter Try.func139, Try.ntmps139
  go_wp2_with (first
    | (go_at_call 112; refine (putUint_any v l s.size _ HL.out (by omega) hlen).mono ?_; rintro e w1 ⟨v1, rfl, ho1, hb1⟩; have HO1 := Hid.mk' ho1; have HE1 := Hid.mk' hb1; clear ho1 hb1)
    | (at_builtin; refine Go.Lib.wpList_append_own_string _ rfl _ _ 80 9 rfl w.heap.size 5 i0 Try.underlying80 Try.underlying9 hi hz0 hz1 hz2 _ _ _ rfl HO1.out s rfl ?c1 ?c2 ?c3 ?_))
  case c1 => have := HX.out; unfold maxLen; simp; omega
  case c2 => have := HX.out; simp; omega
  case c3 => exact HE1.out.size
  intro v2 w2 hown hgrow _
  have hE2 := OB.grown HE1.out HO1.out hgrow
  rw [bs_str] at hown
  have HO := Hid.mk' (OB.push hown (by rw [data_len, List.length_append]))
  have HE2 := Hid.mk' hE2
  clear hown hgrow hE2
  go_wp2
  go_ret
  exact ⟨_, rfl, by rw [← List.append_assoc]; exact HO.out, HE2.out⟩

end Go.Proofs.Ytdbepkfblfhlhaa

/-
Putting floats and complex numbers.
-/
namespace Go.Proofs.Ytdbepkfblfhlhaa
open Go.RowKit

theorem wordL_len (x : Int) : (wordL x).length = 8 := by simp [wordL]
/-- The bytes of a float. -/
def floatL (x : Nat) (ver : Int) : List Int := if ver = 1 then wordL x else sevens (rev x)
theorem floatL_len {x : Nat} {ver : Int} : (floatL x ver).length ≤ 10 := by
  unfold floatL; split
  · rw [wordL_len]; omega
  · exact sevens_len10 rev_lt

set_option maxRecDepth 100000 in set_option maxHeartbeats 1600000 in
theorem putFloat_any (W : World) (v : Value) (l : List Int) (x : Nat) (ver : Int) (w : World) (hE : Ext W w) (ho : OB w W.heap.size v l) (hx : x < 2 ^ 64) (hlen : l.length ≤ 1000000) :
    Calls Try.prog 137 #[v, .int .u64 x, .int .u8 ver] w fun e w' => ∃ v', e = .returned v' ∧ OB w' W.heap.size v' (l ++ floatL x ver) ∧ Ext W w' := by
  have HE0 := Hid.mk' hE
  have HO0 := Hid.mk' ho
  have HX := Hid.mk' hx
  clear hE ho hx
  by_cases h1 : ver = 1
  · subst h1
    go_enter Try.func137, Try.ntmps137
    go_wp2_with (go_at_call 135; refine (putWord_any W v l x _ HE0.out HO0.out hlen).mono ?_; rintro e w1 ⟨v1, rfl, ho1, hb1⟩; have HO1 := Hid.mk' ho1; have HE1 := Hid.mk' hb1; clear ho1 hb1)
    go_ret
    exact ⟨_, rfl, by unfold floatL; rw [if_pos rfl]; exact HO1.out, HE1.out⟩
  · go_enter Try.func137, Try.ntmps137
    go_wp2_with (first
      | (go_at_call 163; refine (rev_any x _ HX.out).mono ?_; rintro e w0 ⟨rfl, rfl⟩)
      | (go_at_call 112; refine (putUint_any v l (rev x) _ HO0.out.sl rev_lt hlen).mono ?_; rintro e w1 ⟨v1, rfl, ho1, hb1⟩; have HO1 := Hid.mk' ho1; have HE1 := Hid.mk' hb1; clear ho1 hb1))
    go_ret
    exact ⟨_, rfl, by unfold floatL; rw [if_neg h1]; exact HO1.out.base HE0.out.size, HE0.out.trans HE1.out⟩

/-- The bytes of a complex number. -/
def markOf (x y : Nat) : Int := (if x = 0 then 0 else 1) + (if y = 0 then 0 else 2)
def complexL (x y : Nat) (ver : Int) : List Int :=
  if ver = 2 then [markOf x y] ++ (if x = 0 then [] else floatL x 2) ++ (if y = 0 then [] else floatL y 2) else floatL x ver ++ floatL y ver

set_option maxRecDepth 100000 in set_option maxHeartbeats 1600000 in
theorem putComplex_any (W : World) (v : Value) (l : List Int) (x y : Nat) (ver : Int) (w : World) (hE : Ext W w) (ho : OB w W.heap.size v l) (hx : x < 2 ^ 64) (hy : y < 2 ^ 64) (hlen : l.length ≤ 900000) :
    Calls Try.prog 138 #[v, .complex .f64 x y, .int .u8 ver] w fun e w' => ∃ v', e = .returned v' ∧ OB w' W.heap.size v' (l ++ complexL x y ver) ∧ Ext W w' := by
  obtain ⟨i0, hi, hz0, hz1, hz2⟩ := info_parts Try.infoU8
  have HE0 := Hid.mk' hE
  have HO0 := Hid.mk' ho
  have HX := Hid.mk' (And.intro hx hy)
  have hfx := fun ver => floatL_len (x := x) (ver := ver)
  have HFX := Hid.mk' hfx
  clear hE ho hx hy hfx
  by_cases h2 : ver = 2
  · subst h2
    by_cases hx0 : x = 0 <;> by_cases hy0 : y = 0
    · subst hx0; subst hy0
      go_enter Try.func138, Try.ntmps138
      go_wp2_with (first
        | (go_at_call 61; refine (vbits_any _ _ _).mono ?_; rintro e w0 ⟨rfl, rfl⟩)
        | (at_builtin; refine wpList_append_own _ rfl _ _ 80 rfl W.heap.size 5 i0 _ 1 1 Try.underlying80 hi hz0 hz1 hz2 rfl (by decide) _ _ _ rfl (HO0.out.alloc _) ⟨_, 0, none⟩ 1 1 (bs [0]) rfl rfl ?c1a ?c2a ?c3a ?c4a ?c5a ?_))
      case c1a => exact cells_one _ _
      case c2a => exact bs_one _
      case c3a => unfold maxLen; omega
      case c4a => omega
      case c5a => have := HE0.out.size; simp; omega
      intro v1 w1 hown hgrow _
      have hE1 := OB.grown (HE0.out.alloc _) (HO0.out.alloc _) hgrow
      have HO1 := Hid.mk' (OB.push hown (by simp))
      have HE1 := Hid.mk' hE1
      clear hown hgrow hE1
      go_wp2
      go_ret
      refine ⟨_, rfl, ?_, HE1.out⟩
      have h := HO1.out
      unfold complexL markOf
      simpa using h
    · subst hx0
      go_enter Try.func138, Try.ntmps138
      go_wp2_with (first
        | (go_at_call 61; refine (vbits_any _ _ _).mono ?_; rintro e w0 ⟨rfl, rfl⟩)
        | (at_builtin; refine wpList_append_own _ rfl _ _ 80 rfl W.heap.size 5 i0 _ 1 1 Try.underlying80 hi hz0 hz1 hz2 rfl (by decide) _ _ _ rfl (HO0.out.alloc _) ⟨_, 0, none⟩ 1 1 (bs [2]) rfl rfl ?c1b ?c2b ?c3b ?c4b ?c5b ?_))
      case c1b => exact cells_one _ _
      case c2b => exact bs_one _
      case c3b => unfold maxLen; omega
      case c4b => omega
      case c5b => have := HE0.out.size; simp; omega
      intro v1 w1 hown hgrow _
      have hE1 := OB.grown (HE0.out.alloc _) (HO0.out.alloc _) hgrow
      have HO1 := Hid.mk' (OB.push hown (by simp))
      have HE1 := Hid.mk' hE1
      clear hown hgrow hE1
      go_wp2_with (first
        | (go_at_call_of 137 (Value.int IntKind.u64 (y : Int)); refine (putFloat_any W v1 (l ++ [2]) y 2 _ HE1.out HO1.out HX.out.2 (by simp; omega)).mono ?_; rintro e w3 ⟨v3, rfl, ho3, hb3⟩; have HO3 := Hid.mk' ho3; have HE3 := Hid.mk' hb3; clear ho3 hb3))
      go_ret
      refine ⟨_, rfl, ?_, HE3.out⟩
      have h := HO3.out
      unfold complexL markOf
      simpa [hy0] using h
    · subst hy0
      go_enter Try.func138, Try.ntmps138
      go_wp2_with (first
        | (go_at_call 61; refine (vbits_any _ _ _).mono ?_; rintro e w0 ⟨rfl, rfl⟩)
        | (at_builtin; refine wpList_append_own _ rfl _ _ 80 rfl W.heap.size 5 i0 _ 1 1 Try.underlying80 hi hz0 hz1 hz2 rfl (by decide) _ _ _ rfl (HO0.out.alloc _) ⟨_, 0, none⟩ 1 1 (bs [1]) rfl rfl ?c1c ?c2c ?c3c ?c4c ?c5c ?_))
      case c1c => exact cells_one _ _
      case c2c => exact bs_one _
      case c3c => unfold maxLen; omega
      case c4c => omega
      case c5c => have := HE0.out.size; simp; omega
      intro v1 w1 hown hgrow _
      have hE1 := OB.grown (HE0.out.alloc _) (HO0.out.alloc _) hgrow
      have HO1 := Hid.mk' (OB.push hown (by simp))
      have HE1 := Hid.mk' hE1
      clear hown hgrow hE1
      go_wp2_with (first
        | (go_at_call_of 137 (Value.int IntKind.u64 (x : Int)); refine (putFloat_any W v1 (l ++ [1]) x 2 _ HE1.out HO1.out HX.out.1 (by simp; omega)).mono ?_; rintro e w2 ⟨v2, rfl, ho2, hb2⟩; have HO2 := Hid.mk' ho2; have HE2 := Hid.mk' hb2; clear ho2 hb2))
      go_ret
      refine ⟨_, rfl, ?_, HE2.out⟩
      have h := HO2.out
      unfold complexL markOf
      simpa [hx0] using h
    · skip
      go_enter Try.func138, Try.ntmps138
      go_wp2_with (first
        | (go_at_call 61; refine (vbits_any _ _ _).mono ?_; rintro e w0 ⟨rfl, rfl⟩)
        | (at_builtin; refine wpList_append_own _ rfl _ _ 80 rfl W.heap.size 5 i0 _ 1 1 Try.underlying80 hi hz0 hz1 hz2 rfl (by decide) _ _ _ rfl (HO0.out.alloc _) ⟨_, 0, none⟩ 1 1 (bs [3]) rfl rfl ?c1d ?c2d ?c3d ?c4d ?c5d ?_))
      case c1d => exact cells_one _ _
      case c2d => exact bs_one _
      case c3d => unfold maxLen; omega
      case c4d => omega
      case c5d => have := HE0.out.size; simp; omega
      intro v1 w1 hown hgrow _
      have hE1 := OB.grown (HE0.out.alloc _) (HO0.out.alloc _) hgrow
      have HO1 := Hid.mk' (OB.push hown (by simp))
      have HE1 := Hid.mk' hE1
      clear hown hgrow hE1
      go_wp2_with (first
        | (go_at_call_of 137 (Value.int IntKind.u64 (x : Int)); refine (putFloat_any W v1 (l ++ [3]) x 2 _ HE1.out HO1.out HX.out.1 (by simp; omega)).mono ?_; rintro e w2 ⟨v2, rfl, ho2, hb2⟩; have HO2 := Hid.mk' ho2; have HE2 := Hid.mk' hb2; clear ho2 hb2)
        | (go_at_call_of 137 (Value.int IntKind.u64 (y : Int)); refine (putFloat_any W v2 ((l ++ [3]) ++ floatL x 2) y 2 _ HE2.out HO2.out HX.out.2 (by have := HFX.out 2; simp; omega)).mono ?_; rintro e w3 ⟨v3, rfl, ho3, hb3⟩; have HO3 := Hid.mk' ho3; have HE3 := Hid.mk' hb3; clear ho3 hb3))
      go_ret
      refine ⟨_, rfl, ?_, HE3.out⟩
      have h := HO3.out
      unfold complexL markOf
      simpa [hx0, hy0] using h
  · go_enter Try.func138, Try.ntmps138
    go_wp2_with (first
      | (go_at_call 61; refine (vbits_any _ _ _).mono ?_; rintro e w0 ⟨rfl, rfl⟩)
      | (go_at_call_of 137 (Value.int IntKind.u64 (x : Int)); refine (putFloat_any W v l x ver _ HE0.out HO0.out HX.out.1 (by omega)).mono ?_; rintro e w2 ⟨v2, rfl, ho2, hb2⟩; have HO2 := Hid.mk' ho2; have HE2 := Hid.mk' hb2; clear ho2 hb2)
      | (go_at_call_of 137 (Value.int IntKind.u64 (y : Int)); refine (putFloat_any W v2 (l ++ floatL x ver) y ver _ HE2.out HO2.out HX.out.2 (by have := HFX.out ver; simp; omega)).mono ?_; rintro e w3 ⟨v3, rfl, ho3, hb3⟩; have HO3 := Hid.mk' ho3; have HE3 := Hid.mk' hb3; clear ho3 hb3))
    go_ret
    refine ⟨_, rfl, ?_, HE3.out⟩
    have h := HO3.out
    unfold complexL
    rw [if_neg h2, ← List.append_assoc]; exact h

end Go.Proofs.Ytdbepkfblfhlhaa
