/-
bits.ReverseBytes64.
-/
import Derived.Test.YtmpnopjkpamhaaaBase
namespace Go.Proofs.Ytmpnopjkpamhaaa
open Go.RowKit

theorem and_split (k a b c d : Nat) (hb : b < 2 ^ k) (hd : d < 2 ^ k) : (2 ^ k * a + b) &&& (2 ^ k * c + d) = 2 ^ k * (a &&& c) + (b &&& d) := by
  apply Nat.eq_of_testBit_eq
  intro j
  have h : b &&& d < 2 ^ k := Nat.and_lt_two_pow _ hd
  rw [Nat.testBit_and, Nat.testBit_two_pow_mul_add _ hb, Nat.testBit_two_pow_mul_add _ hd, Nat.testBit_two_pow_mul_add _ h]
  split <;> rw [Nat.testBit_and]
theorem or_split (k a b c d : Nat) (hb : b < 2 ^ k) (hd : d < 2 ^ k) : (2 ^ k * a + b) ||| (2 ^ k * c + d) = 2 ^ k * (a ||| c) + (b ||| d) := by
  apply Nat.eq_of_testBit_eq
  intro j
  have h : b ||| d < 2 ^ k := Nat.or_lt_two_pow hb hd
  rw [Nat.testBit_or, Nat.testBit_two_pow_mul_add _ hb, Nat.testBit_two_pow_mul_add _ hd, Nat.testBit_two_pow_mul_add _ h]
  split <;> rw [Nat.testBit_or]
theorem or_apart (k a b : Nat) (hb : b < 2 ^ k) : b ||| 2 ^ k * a = 2 ^ k * a + b := by
  rw [Nat.or_comm, ← Nat.two_pow_add_eq_or_of_lt hb]

def step8 (X : Int) : Int := bits BinOp.or IntKind.u64 (bits BinOp.and IntKind.u64 (X / 256) 71777214294589695) (IntKind.u64.wrap (bits BinOp.and IntKind.u64 X 71777214294589695 * 256))
def step16 (X : Int) : Int := bits BinOp.or IntKind.u64 (bits BinOp.and IntKind.u64 (X / 65536) 281470681808895) (IntKind.u64.wrap (bits BinOp.and IntKind.u64 X 281470681808895 * 65536))
def step32 (X : Int) : Int := bits BinOp.or IntKind.u64 (X / 4294967296) (IntKind.u64.wrap (X * 4294967296))

theorem u64_wrap' (n : Int) : IntKind.u64.wrap n = n % 18446744073709551616 := by
  simp [IntKind.wrap, IntKind.signed, IntKind.bits]

theorem mask8 (q0 q1 q2 q3 : Nat) (h0 : q0 < 65536) (h1 : q1 < 65536) (h2 : q2 < 65536) :
    (q0 + 65536 * q1 + 4294967296 * q2 + 281474976710656 * q3) &&& 71777214294589695 = q0 % 256 + 65536 * (q1 % 256) + 4294967296 * (q2 % 256) + 281474976710656 * (q3 % 256) := by
  have e : q0 + 65536 * q1 + 4294967296 * q2 + 281474976710656 * q3 = 2 ^ 16 * (2 ^ 16 * (2 ^ 16 * q3 + q2) + q1) + q0 := by omega
  have m : (71777214294589695 : Nat) = 2 ^ 16 * (2 ^ 16 * (2 ^ 16 * 255 + 255) + 255) + 255 := by decide
  have a : ∀ q, q &&& 255 = q % 256 := fun q => Nat.and_two_pow_sub_one_eq_mod q 8
  rw [e, m, and_split 16 _ _ _ _ h0 (by decide), and_split 16 _ _ _ _ h1 (by decide), and_split 16 _ _ _ _ h2 (by decide), a, a, a, a]
  omega
theorem mask16 (r0 r1 : Nat) (h0 : r0 < 4294967296) :
    (r0 + 4294967296 * r1) &&& 281470681808895 = r0 % 65536 + 4294967296 * (r1 % 65536) := by
  have e : r0 + 4294967296 * r1 = 2 ^ 32 * r1 + r0 := by omega
  have m : (281470681808895 : Nat) = 2 ^ 32 * 65535 + 65535 := by decide
  have a : ∀ q, q &&& 65535 = q % 65536 := fun q => Nat.and_two_pow_sub_one_eq_mod q 16
  rw [e, m, and_split 32 _ _ _ _ h0 (by decide), a, a]
  omega
theorem join8 (a0 a1 a2 a3 b0 b1 b2 b3 : Nat) (h0 : a0 < 256) (h1 : a1 < 256) (h2 : a2 < 256) (h3 : a3 < 256) (k0 : b0 < 256) (k1 : b1 < 256) (k2 : b2 < 256) :
    (a0 + 65536 * a1 + 4294967296 * a2 + 281474976710656 * a3) ||| (256 * (b0 + 65536 * b1 + 4294967296 * b2 + 281474976710656 * b3)) =
    (a0 + 256 * b0) + 65536 * (a1 + 256 * b1) + 4294967296 * (a2 + 256 * b2) + 281474976710656 * (a3 + 256 * b3) := by
  have e : a0 + 65536 * a1 + 4294967296 * a2 + 281474976710656 * a3 = 2 ^ 16 * (2 ^ 16 * (2 ^ 16 * a3 + a2) + a1) + a0 := by omega
  have m : 256 * (b0 + 65536 * b1 + 4294967296 * b2 + 281474976710656 * b3) = 2 ^ 16 * (2 ^ 16 * (2 ^ 16 * (2 ^ 8 * b3) + 2 ^ 8 * b2) + 2 ^ 8 * b1) + 2 ^ 8 * b0 := by omega
  rw [e, m, or_split 16 _ _ _ _ (by omega) (by omega), or_split 16 _ _ _ _ (by omega) (by omega), or_split 16 _ _ _ _ (by omega) (by omega), or_apart 8 _ _ h0, or_apart 8 _ _ h1, or_apart 8 _ _ h2, or_apart 8 _ _ h3]
  omega
theorem join16 (a0 a1 b0 b1 : Nat) (h0 : a0 < 65536) (h1 : a1 < 65536) (k0 : b0 < 65536) :
    (a0 + 4294967296 * a1) ||| (65536 * (b0 + 4294967296 * b1)) = (a0 + 65536 * b0) + 4294967296 * (a1 + 65536 * b1) := by
  have e : a0 + 4294967296 * a1 = 2 ^ 32 * a1 + a0 := by omega
  have m : 65536 * (b0 + 4294967296 * b1) = 2 ^ 32 * (2 ^ 16 * b1) + 2 ^ 16 * b0 := by omega
  rw [e, m, or_split 32 _ _ _ _ (by omega) (by omega), or_apart 16 _ _ h0, or_apart 16 _ _ h1]
  omega

theorem step8_eq (q0 q1 q2 q3 : Nat) (h0 : q0 < 65536) (h1 : q1 < 65536) (h2 : q2 < 65536) (h3 : q3 < 65536) :
    step8 ((q0 + 65536 * q1 + 4294967296 * q2 + 281474976710656 * q3 : Nat) : Int) = (((q0 / 256 + 256 * (q0 % 256)) + 65536 * (q1 / 256 + 256 * (q1 % 256)) + 4294967296 * (q2 / 256 + 256 * (q2 % 256)) + 281474976710656 * (q3 / 256 + 256 * (q3 % 256)) : Nat) : Int) := by
  unfold step8
  have d : (((q0 + 65536 * q1 + 4294967296 * q2 + 281474976710656 * q3 : Nat) : Int) / 256) = (((q0 / 256 + 256 * (q1 % 256)) + 65536 * (q1 / 256 + 256 * (q2 % 256)) + 4294967296 * (q2 / 256 + 256 * (q3 % 256)) + 281474976710656 * (q3 / 256) : Nat) : Int) := by omega
  have m := bits_and_u64_nat (q0 + 65536 * q1 + 4294967296 * q2 + 281474976710656 * q3) 71777214294589695 (by omega) (by decide)
  have m2 := bits_and_u64_nat ((q0 / 256 + 256 * (q1 % 256)) + 65536 * (q1 / 256 + 256 * (q2 % 256)) + 4294967296 * (q2 / 256 + 256 * (q3 % 256)) + 281474976710656 * (q3 / 256)) 71777214294589695 (by omega) (by decide)
  rw [mask8 _ _ _ _ h0 h1 h2] at m
  rw [mask8 _ _ _ _ (by omega) (by omega) (by omega)] at m2
  rw [d]
  have c : (71777214294589695 : Int) = ((71777214294589695 : Nat) : Int) := rfl
  rw [c, m, m2, u64_wrap']
  have e1 : (((q0 % 256 + 65536 * (q1 % 256) + 4294967296 * (q2 % 256) + 281474976710656 * (q3 % 256) : Nat) : Int) * 256 % 18446744073709551616) = ((256 * (q0 % 256 + 65536 * (q1 % 256) + 4294967296 * (q2 % 256) + 281474976710656 * (q3 % 256)) : Nat) : Int) := by omega
  have e2 : ((q0 / 256 + 256 * (q1 % 256)) % 256 + 65536 * ((q1 / 256 + 256 * (q2 % 256)) % 256) + 4294967296 * ((q2 / 256 + 256 * (q3 % 256)) % 256) + 281474976710656 * (q3 / 256 % 256)) = (q0 / 256) + 65536 * (q1 / 256) + 4294967296 * (q2 / 256) + 281474976710656 * (q3 / 256) := by omega
  rw [e1, e2, bits_or_u64_nat _ _ (by omega) (by omega), join8 _ _ _ _ _ _ _ _ (by omega) (by omega) (by omega) (by omega) (by omega) (by omega) (by omega)]

theorem step16_eq (q0 q1 q2 q3 : Nat) (h0 : q0 < 65536) (h1 : q1 < 65536) (h2 : q2 < 65536) (h3 : q3 < 65536) :
    step16 ((q0 + 65536 * q1 + 4294967296 * q2 + 281474976710656 * q3 : Nat) : Int) = ((q1 + 65536 * q0 + 4294967296 * (q3 + 65536 * q2) : Nat) : Int) := by
  unfold step16
  have d : (((q0 + 65536 * q1 + 4294967296 * q2 + 281474976710656 * q3 : Nat) : Int) / 65536) = (((q1 + 65536 * q2) + 4294967296 * q3 : Nat) : Int) := by omega
  have d0 : (q0 + 65536 * q1 + 4294967296 * q2 + 281474976710656 * q3 : Nat) = (q0 + 65536 * q1) + 4294967296 * (q2 + 65536 * q3) := by omega
  have m := bits_and_u64_nat ((q0 + 65536 * q1) + 4294967296 * (q2 + 65536 * q3)) 281470681808895 (by omega) (by decide)
  have m2 := bits_and_u64_nat ((q1 + 65536 * q2) + 4294967296 * q3) 281470681808895 (by omega) (by decide)
  rw [mask16 _ _ (by omega)] at m
  rw [mask16 _ _ (by omega)] at m2
  rw [d, d0]
  have c : (281470681808895 : Int) = ((281470681808895 : Nat) : Int) := rfl
  rw [c, m, m2, u64_wrap']
  have e1 : ((((q0 + 65536 * q1) % 65536 + 4294967296 * ((q2 + 65536 * q3) % 65536) : Nat) : Int) * 65536 % 18446744073709551616) = ((65536 * (q0 + 4294967296 * q2) : Nat) : Int) := by omega
  have e2 : ((q1 + 65536 * q2) % 65536 + 4294967296 * (q3 % 65536)) = q1 + 4294967296 * q3 := by omega
  rw [e1, e2, bits_or_u64_nat _ _ (by omega) (by omega), join16 _ _ _ _ h1 h3 h0]

theorem step32_eq (r0 r1 : Nat) (h0 : r0 < 4294967296) (h1 : r1 < 4294967296) : step32 ((r0 + 4294967296 * r1 : Nat) : Int) = ((r1 + 4294967296 * r0 : Nat) : Int) := by
  unfold step32
  have d : (((r0 + 4294967296 * r1 : Nat) : Int) / 4294967296) = ((r1 : Nat) : Int) := by omega
  have e1 : (((r0 + 4294967296 * r1 : Nat) : Int) * 4294967296 % 18446744073709551616) = ((4294967296 * r0 : Nat) : Int) := by omega
  rw [d, u64_wrap', e1, bits_or_u64_nat _ _ (by omega) (by omega)]
  have := or_apart 32 r0 r1 (by omega)
  rw [show (4294967296 : Nat) = 2 ^ 32 from rfl, this]; congr 1; omega

/-- A number with its eight bytes turned round. -/
def rev (x : Nat) : Nat :=
  256 * (256 * (256 * (256 * (256 * (256 * (256 * (x % 256) + x / 256 % 256) + x / 65536 % 256) + x / 16777216 % 256) + x / 4294967296 % 256) + x / 1099511627776 % 256) + x / 281474976710656 % 256) + x / 72057594037927936 % 256

theorem rev_eq (x : Nat) (hx : x < 2 ^ 64) : step32 (step16 (step8 (x : Int))) = (rev x : Int) := by
  have e : x = x % 65536 + 65536 * (x / 65536 % 65536) + 4294967296 * (x / 4294967296 % 65536) + 281474976710656 * (x / 281474976710656) := by omega
  have h3 : x / 281474976710656 < 65536 := by omega
  have k := step8_eq (x % 65536) (x / 65536 % 65536) (x / 4294967296 % 65536) (x / 281474976710656) (by omega) (by omega) (by omega) h3
  rw [← e] at k
  rw [k, step16_eq _ _ _ _ (by omega) (by omega) (by omega) (by omega), step32_eq _ _ (by omega) (by omega)]
  have t0 : x % 65536 % 256 = x % 256 := by omega
  have hh : ∀ y : Nat, y % 65536 / 256 = y / 256 % 256 := fun y => Nat.mod_mul_right_div_self y 256 256
  have t1 : x % 65536 / 256 = x / 256 % 256 := hh x
  have t2 : x / 65536 % 65536 % 256 = x / 65536 % 256 := by omega
  have t3 : x / 65536 % 65536 / 256 = x / 16777216 % 256 := (hh _).trans (by rw [Nat.div_div_eq_div_mul])
  have t4 : x / 4294967296 % 65536 % 256 = x / 4294967296 % 256 := by omega
  have t5 : x / 4294967296 % 65536 / 256 = x / 1099511627776 % 256 := (hh _).trans (by rw [Nat.div_div_eq_div_mul])
  have t7 : x / 281474976710656 / 256 = x / 72057594037927936 % 256 := by
    rw [Nat.div_div_eq_div_mul]; exact (Nat.mod_eq_of_lt (by omega)).symm
  rw [t0, t1, t2, t3, t4, t5, t7]
  unfold rev
  generalize x % 256 = b0
  generalize x / 256 % 256 = b1
  generalize x / 65536 % 256 = b2
  generalize x / 16777216 % 256 = b3
  generalize x / 4294967296 % 256 = b4
  generalize x / 1099511627776 % 256 = b5
  generalize x / 281474976710656 % 256 = b6
  generalize x / 72057594037927936 % 256 = b7
  omega

set_option maxRecDepth 100000 in set_option maxHeartbeats 1600000 in
theorem rev_any (x : Nat) (w : World) (hx : x < 2 ^ 64) :
    Calls Try.prog 84 #[.int .u64 x] w fun e w' => e = .returned (.int .u64 (rev x)) ∧ w = w' := by
  have HR := Hid.mk' (rev_eq x hx)
  go_enter Try.func84, Try.ntmps84
  go_wp2
  go_ret
  exact ⟨ret_int HR.out, rfl⟩

theorem rev_lt {x : Nat} : rev x < 2 ^ 64 := by unfold rev; omega
theorem rev_bytes (b0 b1 b2 b3 b4 b5 b6 b7 : Nat) (h0 : b0 < 256) (h1 : b1 < 256) (h2 : b2 < 256) (h3 : b3 < 256) (h4 : b4 < 256) (h5 : b5 < 256) (h6 : b6 < 256) (h7 : b7 < 256) :
    rev (256 * (256 * (256 * (256 * (256 * (256 * (256 * b7 + b6) + b5) + b4) + b3) + b2) + b1) + b0) = 256 * (256 * (256 * (256 * (256 * (256 * (256 * b0 + b1) + b2) + b3) + b4) + b5) + b6) + b7 := by
  have d : ∀ Y b : Nat, b < 256 → (256 * Y + b) / 256 = Y := fun Y b h => by omega
  have m : ∀ Y b : Nat, b < 256 → (256 * Y + b) % 256 = b := fun Y b h => by omega
  have e2 : ∀ z : Nat, z / 65536 = z / 256 / 256 := fun z => by simp only [Nat.div_div_eq_div_mul]
  have e3 : ∀ z : Nat, z / 16777216 = z / 256 / 256 / 256 := fun z => by simp only [Nat.div_div_eq_div_mul]
  have e4 : ∀ z : Nat, z / 4294967296 = z / 256 / 256 / 256 / 256 := fun z => by simp only [Nat.div_div_eq_div_mul]
  have e5 : ∀ z : Nat, z / 1099511627776 = z / 256 / 256 / 256 / 256 / 256 := fun z => by simp only [Nat.div_div_eq_div_mul]
  have e6 : ∀ z : Nat, z / 281474976710656 = z / 256 / 256 / 256 / 256 / 256 / 256 := fun z => by simp only [Nat.div_div_eq_div_mul]
  have e7 : ∀ z : Nat, z / 72057594037927936 = z / 256 / 256 / 256 / 256 / 256 / 256 / 256 := fun z => by simp only [Nat.div_div_eq_div_mul]
  unfold rev
  rw [e2, e3, e4, e5, e6, e7]
  rw [d _ b0 h0, d _ b1 h1, d _ b2 h2, d _ b3 h3, d _ b4 h4, d _ b5 h5, d _ b6 h6, m _ b0 h0, m _ b1 h1, m _ b2 h2, m _ b3 h3, m _ b4 h4, m _ b5 h5, m _ b6 h6, Nat.mod_eq_of_lt h7]
theorem rev_rev {x : Nat} (hx : x < 2 ^ 64) : rev (rev x) = x := by
  have h : rev (rev x) = rev (256 * (256 * (256 * (256 * (256 * (256 * (256 * (x % 256) + x / 256 % 256) + x / 65536 % 256) + x / 16777216 % 256) + x / 4294967296 % 256) + x / 1099511627776 % 256) + x / 281474976710656 % 256) + x / 72057594037927936 % 256) := rfl
  rw [h, rev_bytes _ _ _ _ _ _ _ _ (by omega) (by omega) (by omega) (by omega) (by omega) (by omega) (by omega) (by omega)]
  omega
end Go.Proofs.Ytmpnopjkpamhaaa
