/-
The reference's text of a number, of a fault.
-/
import Derived.Test.YthdjinicmnhgpaaDoorFitP
namespace Go.Proofs.YthdjinicmnhgpaaDoor
open Go.RowKit

theorem digit_slice : ∀ r, r < 10 → (⟨#[48, 49, 50, 51, 52, 53, 54, 55, 56, 57]⟩ : ByteArray).extract r (r + 1) = txt [UInt8.ofNat (48 + r)] := by
  intro r h
  match r, h with
  | 0, _ => rfl
  | 1, _ => rfl
  | 2, _ => rfl
  | 3, _ => rfl
  | 4, _ => rfl
  | 5, _ => rfl
  | 6, _ => rfl
  | 7, _ => rfl
  | 8, _ => rfl
  | 9, _ => rfl

theorem txt_size (l : List UInt8) : (txt l).size = l.length := by unfold txt; simp [ByteArray.size]

set_option maxRecDepth 100000 in set_option maxHeartbeats 1600000 in
theorem rnum_any (n : Nat) (w : World) (hn : n < 18446744073709551616) :
    Calls Tryd.prog 17 #[.int .u64 n] w fun e w' => e = .returned (.string (txt (Lib.decDigits n))) ∧ w = w' := by
  have HN : Hid ((Lib.decDigits n).length ≤ 21) := Hid.mk' (dec_len64 hn)
  go_enter Tryd.func17, Tryd.ntmps17
  go_wp2
  go_loop [0, 3] (fun a s => ∃ (m : Nat) (l : List UInt8), a = .int .u64 m ∧ s = .string (txt l) ∧ m < 18446744073709551616 ∧ Hid (Lib.decDigits n = Lib.decDigits m ++ l)) (fun a _ => (intOf a).toNat)
  case atStart => exact ⟨n, [], rfl, rfl, hn, Hid.mk' (by rw [List.append_nil])⟩
  case round =>
    obtain ⟨m, l, rfl, rfl, hm, hd⟩ := hrel
    have hsz : (txt l).size ≤ 21 := by
      have h := HN.out
      rw [hd.out, List.length_append] at h
      rw [txt_size]; omega
    by_cases h9 : m ≤ 9
    · have HR := Hid.mk' (show (⟨#[48, 49, 50, 51, 52, 53, 54, 55, 56, 57]⟩ : ByteArray).extract m (m + 1) ++ txt l = txt (Lib.decDigits n) by rw [digit_slice m (by omega), txt_app, hd.out, dec_lt (by omega)])
      go_wp2
      go_ret
      exact ⟨by rw [← HR.out]; rfl, rfl⟩
    · have HR := Hid.mk' (show (⟨#[48, 49, 50, 51, 52, 53, 54, 55, 56, 57]⟩ : ByteArray).extract (m % 10) (m % 10 + 1) ++ txt l = txt ([UInt8.ofNat (48 + m % 10)] ++ l) by rw [digit_slice (m % 10) (by omega), txt_app])
      have HL := Hid.mk' (dec_ge (n := m) (by omega))
      go_wp2
      go_round
      case rel => exact ⟨m / 10, [UInt8.ofNat (48 + m % 10)] ++ l, by rw [show ((m / 10 : Nat) : Int) = (m : Int) / 10 by omega], by rw [HR.out], by omega, Hid.mk' (by rw [hd.out, HL.out, List.append_assoc])⟩
      case measure => simp [intOf]; omega

set_option maxRecDepth 100000 in set_option maxHeartbeats 1600000 in
theorem rsigned_any (v : Int) (w : World) (h0 : -9223372036854775808 ≤ v) (h1 : v ≤ 9223372036854775807) :
    Calls Tryd.prog 9 #[.int .i64 v] w fun e w' => e = .returned (.string (txt (Lib.itoa v))) ∧ w = w' := by
  by_cases hv : v < 0
  · have HL := Hid.mk' (show txt [45] ++ txt (Lib.decDigits v.natAbs) = txt (Lib.itoa v) by unfold Lib.itoa; rw [if_pos hv, txt_app]; rfl)
    have HZ : Hid ((txt (Lib.decDigits v.natAbs)).size ≤ 21) := Hid.mk' (by rw [txt_size]; exact dec_len64 (by omega))
    have HC := Hid.mk' (fun W => rnum_any v.natAbs W (by omega))
    have HE : Hid ((v.natAbs : Int) = -(v + 1) + 1) := Hid.mk' (by omega)
    rw [HE.out] at HC
    obtain ⟨D, hD⟩ : ∃ D, D = txt (Lib.decDigits v.natAbs) := ⟨_, rfl⟩
    rw [← hD] at HL HC HZ
    clear hD
    have hz := HZ.out
    go_enter Tryd.func9, Tryd.ntmps9
    go_wp2_with (go_at_call 17; refine (HC.out _).mono ?_; rintro e w1 ⟨rfl, rfl⟩)
    go_ret
    exact ⟨by rw [← HL.out]; rfl, rfl⟩
  · have HL := Hid.mk' (show txt (Lib.decDigits v.toNat) = txt (Lib.itoa v) by unfold Lib.itoa; rw [if_neg hv])
    have HC := Hid.mk' (fun W => rnum_any v.toNat W (by omega))
    have HE : Hid ((v.toNat : Int) = v) := Hid.mk' (by omega)
    rw [HE.out] at HC
    go_enter Tryd.func9, Tryd.ntmps9
    go_wp2_with (go_at_call 17; refine (HC.out _).mono ?_; rintro e w1 ⟨rfl, rfl⟩)
    go_ret
    exact ⟨by rw [← HL.out]; rfl, rfl⟩

theorem txt_faultE4 (tx er : Int) (h : er ≠ 0) : txt [116, 114, 97, 110, 115, 97, 99, 116, 105, 111, 110, 32] ++ txt (Lib.itoa tx) ++ txt [32, 101, 114, 114, 111, 114, 32] ++ txt (Lib.itoa er) = txt (faultT tx (-1) er) := by
  unfold faultT
  rw [if_neg h, if_pos rfl, join4, txt_app, txt_app, txt_app]
  simp [wTx, wEr]
theorem txt_faultE6 (tx ev er : Int) (h : er ≠ 0) (h2 : ev ≠ -1) : txt [116, 114, 97, 110, 115, 97, 99, 116, 105, 111, 110, 32] ++ txt (Lib.itoa tx) ++ txt [32, 101, 118, 101, 110, 116, 32] ++ txt (Lib.itoa ev) ++ txt [32, 101, 114, 114, 111, 114, 32] ++ txt (Lib.itoa er) = txt (faultT tx ev er) := by
  unfold faultT
  rw [if_neg h, if_neg h2, join6, txt_app, txt_app, txt_app, txt_app, txt_app]
  simp [wTx, wEv, wEr]
theorem ba_size (a b : ByteArray) : (a ++ b).size = a.size + b.size := by simp

set_option maxRecDepth 100000 in set_option maxHeartbeats 1600000 in
theorem rfault_any (tx ev er : Int) (w : World) (a0 : -9223372036854775808 ≤ tx) (a1 : tx ≤ 9223372036854775807) (b0 : -9223372036854775808 ≤ ev) (b1 : ev ≤ 9223372036854775807) (c0 : -9223372036854775808 ≤ er) (c1 : er ≤ 9223372036854775807) :
    Calls Tryd.prog 5 #[.int .i64 tx, .int .i64 ev, .int .i64 er] w fun e w' => e = .returned (.string (txt (faultT tx ev er))) ∧ w = w' := by
  have HC := Hid.mk' (fun v (h0 : -9223372036854775808 ≤ v) (h1 : v ≤ 9223372036854775807) W => rsigned_any v W h0 h1)
  have s1 : (txt (Lib.itoa tx)).size ≤ 22 := by rw [txt_size]; exact itoa_len a0 a1
  have s2 : (txt (Lib.itoa ev)).size ≤ 22 := by rw [txt_size]; exact itoa_len b0 b1
  have s3 : (txt (Lib.itoa er)).size ≤ 22 := by rw [txt_size]; exact itoa_len c0 c1
  by_cases h0 : er = 0
  · have HR := Hid.mk' (show faultT tx ev er = [102, 105, 110, 101] from if_pos h0)
    subst h0
    go_enter Tryd.func5, Tryd.ntmps5
    go_wp2
    go_ret
    exact ⟨by rw [HR.out]; rfl, rfl⟩
  have h0' : (er == 0) = false := by simpa using h0
  by_cases h1 : ev = -1
  · have HR := Hid.mk' (txt_faultE4 tx er h0)
    subst h1
    clear h0
    obtain ⟨T1, hT1⟩ : ∃ T, T = txt (Lib.itoa tx) := ⟨_, rfl⟩
    obtain ⟨T3, hT3⟩ : ∃ T, T = txt (Lib.itoa er) := ⟨_, rfl⟩
    have HC1 := Hid.mk' (HC.out tx a0 a1)
    have HC3 := Hid.mk' (HC.out er c0 c1)
    rw [← hT1] at HC1 s1 HR
    rw [← hT3] at HC3 s3 HR
    clear hT1 hT3 HC
    go_enter Tryd.func5, Tryd.ntmps5
    go_wp2_with (first
      | (go_at_call_of 9 (Value.int .i64 tx); refine (HC1.out _).mono ?_; rintro e w1 ⟨rfl, rfl⟩)
      | (go_at_call_of 9 (Value.int .i64 er); refine (HC3.out _).mono ?_; rintro e w1 ⟨rfl, rfl⟩))
    go_ret
    exact ⟨by rw [← HR.out]; rfl, rfl⟩
  · have HR := Hid.mk' (txt_faultE6 tx ev er h0 h1)
    have h1' : (ev != -1) = true := by simpa using h1
    clear h0 h1
    obtain ⟨T1, hT1⟩ : ∃ T, T = txt (Lib.itoa tx) := ⟨_, rfl⟩
    obtain ⟨T2, hT2⟩ : ∃ T, T = txt (Lib.itoa ev) := ⟨_, rfl⟩
    obtain ⟨T3, hT3⟩ : ∃ T, T = txt (Lib.itoa er) := ⟨_, rfl⟩
    have HC1 := Hid.mk' (HC.out tx a0 a1)
    have HC2 := Hid.mk' (HC.out ev b0 b1)
    have HC3 := Hid.mk' (HC.out er c0 c1)
    rw [← hT1] at HC1 s1 HR
    rw [← hT2] at HC2 s2 HR
    rw [← hT3] at HC3 s3 HR
    clear hT1 hT2 hT3 HC
    go_enter Tryd.func5, Tryd.ntmps5
    go_wp2_with (first
      | (go_at_call_of 9 (Value.int .i64 tx); refine (HC1.out _).mono ?_; rintro e w1 ⟨rfl, rfl⟩)
      | (go_at_call_of 9 (Value.int .i64 ev); refine (HC2.out _).mono ?_; rintro e w1 ⟨rfl, rfl⟩)
      | (go_at_call_of 9 (Value.int .i64 er); refine (HC3.out _).mono ?_; rintro e w1 ⟨rfl, rfl⟩))
    go_ret
    exact ⟨by rw [← HR.out]; rfl, rfl⟩

end Go.Proofs.YthdjinicmnhgpaaDoor
