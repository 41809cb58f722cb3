/-
Faults' texts in plain words: numbers' texts, words joined.
-/
import Derived.Test.YthdjinicmnhgpaaDoorBase
import Derived.Lib.ItoaNum
import Derived.Lib.Join
namespace Go.Proofs.YthdjinicmnhgpaaDoor
open Go.RowKit

/-- A text of bytes. -/
def txt (l : List UInt8) : ByteArray := ⟨l.toArray⟩
theorem txt_app (a b : List UInt8) : txt a ++ txt b = txt (a ++ b) := by
  apply ByteArray.ext
  simp [txt]
theorem dec_lt {n : Nat} (h : n < 10) : Lib.decDigits n = [UInt8.ofNat (48 + n)] := by
  unfold Lib.decDigits; rw [dif_pos h]
theorem dec_ge {n : Nat} (h : ¬ n < 10) : Lib.decDigits n = Lib.decDigits (n / 10) ++ [UInt8.ofNat (48 + n % 10)] := by
  conv => lhs; unfold Lib.decDigits
  rw [dif_neg h]
theorem dec_len : ∀ (d n : Nat), n < 10 ^ d → (Lib.decDigits n).length ≤ d + 1 := by
  intro d
  induction d with
  | zero => intro n h; rw [dec_lt (by simpa using Nat.lt_of_lt_of_le h (by decide : 10 ^ 0 ≤ 10))]; simp
  | succ d ih =>
    intro n h
    by_cases h0 : n < 10
    · rw [dec_lt h0]; simp
    · rw [dec_ge h0, List.length_append]
      have h1 : n / 10 < 10 ^ d := by rw [Nat.pow_succ] at h; omega
      have := ih _ h1
      simp only [List.length_singleton]; omega
theorem dec_len64 {n : Nat} (h : n < 18446744073709551616) : (Lib.decDigits n).length ≤ 21 := by
  have e : (10 : Nat) ^ 20 = 100000000000000000000 := by decide
  exact dec_len 20 n (by omega)
theorem itoa_len {v : Int} (h0 : -9223372036854775808 ≤ v) (h1 : v ≤ 9223372036854775807) : (Lib.itoa v).length ≤ 22 := by
  have e : (10 : Nat) ^ 20 = 100000000000000000000 := by decide
  unfold Lib.itoa
  split
  · have := dec_len 20 v.natAbs (by omega)
    simp only [List.length_cons]; omega
  · have := dec_len 20 v.toNat (by omega)
    omega

/-- A fault's text. -/
def wTx : List UInt8 := [116, 114, 97, 110, 115, 97, 99, 116, 105, 111, 110]
def wEv : List UInt8 := [101, 118, 101, 110, 116]
def wEr : List UInt8 := [101, 114, 114, 111, 114]
def faultT (tx ev er : Int) : List UInt8 :=
  if er = 0 then [102, 105, 110, 101]
  else if ev = -1 then Lib.join [wTx, Lib.itoa tx, wEr, Lib.itoa er] [32]
  else Lib.join [wTx, Lib.itoa tx, wEv, Lib.itoa ev, wEr, Lib.itoa er] [32]
theorem join4 (a b c d : List UInt8) : Lib.join [a, b, c, d] [32] = a ++ [32] ++ b ++ [32] ++ c ++ [32] ++ d := by
  rw [Lib.join_cons]
  simp [Lib.joinTail]
theorem join6 (a b c d e f : List UInt8) : Lib.join [a, b, c, d, e, f] [32] = a ++ [32] ++ b ++ [32] ++ c ++ [32] ++ d ++ [32] ++ e ++ [32] ++ f := by
  rw [Lib.join_cons]
  simp [Lib.joinTail]

end Go.Proofs.YthdjinicmnhgpaaDoor
