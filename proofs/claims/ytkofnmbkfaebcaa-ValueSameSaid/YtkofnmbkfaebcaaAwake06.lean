/-
The awake of the laws of values.
-/
import Derived.Test.YtkofnmbkfaebcaaConv
namespace Go.Proofs.Ytkofnmbkfaebcaa
open Go.RowKit

theorem put_a : putL 2 (-1) 0 0 ByteArray.empty 2 = [1] := by
  have h : zig (-1) = 1 := rfl
  simp [putL, h]; rw [sevens_lt (by decide)]; rfl
theorem put_b : putL 4 0 0 4611686018427387904 ByteArray.empty 2 = [2, 64] := by
  have h : rev 4611686018427387904 = 64 := by decide
  simp [putL, complexL, markOf, floatL, h]; rw [sevens_lt (by decide)]; rfl
theorem put_c : putL 4 0 0 4611686018427387904 ByteArray.empty 1 = [0, 0, 0, 0, 0, 0, 0, 0, 0, 0, 0, 0, 0, 0, 0, 64] := by
  simp [putL, complexL, floatL]; decide
theorem err_a : errV 2 (-1) ((0 : Nat) : Int) ((0 : Nat) : Int) ByteArray.empty 2 = 0 := by decide
theorem err_b : errV 4 0 ((0 : Nat) : Int) ((4611686018427387904 : Nat) : Int) ByteArray.empty 2 = 0 := by decide
theorem err_c : errV 4 0 ((0 : Nat) : Int) ((4611686018427387904 : Nat) : Int) ByteArray.empty 1 = 0 := by decide

set_option maxRecDepth 100000 in set_option maxHeartbeats 1600000 in
theorem awake06_any (w : World) : Calls Try.prog 35 #[] w fun e w' => e = .returned (.bool true) ∧ Ext w w' := by
  have PA := Hid.mk' (fun (w : World) => vput_any (.slice none 0 0) [] 2 (-1) 0 0 ByteArray.empty 2 w (nilSl w) (Nat.zero_le _) (by omega) (by omega) (by omega) empty_small)
  have PB := Hid.mk' (fun (w : World) => vput_any (.slice none 0 0) [] 4 0 0 4611686018427387904 ByteArray.empty 2 w (nilSl w) (Nat.zero_le _) (by omega) (by omega) (by omega) empty_small)
  have PC := Hid.mk' (fun (w : World) => vput_any (.slice none 0 0) [] 4 0 0 4611686018427387904 ByteArray.empty 1 w (nilSl w) (Nat.zero_le _) (by omega) (by omega) (by omega) empty_small)
  go_enter Try.func35, Try.ntmps35
  go_upto_region 2 with (go_at_call 36; refine (PA.out _).mono ?_; unfold PutPost; rw [err_a]; rintro e w1 ⟨v1, rfl, ho1, -, hb1⟩; have O1 := ho1 rfl; rw [put_a] at O1; have HO1 := Hid.mk' O1; have HE1 := Hid.mk' hb1; clear ho1 hb1 O1)
  go_upto_region 3 with (go_at_call 36; refine (PB.out _).mono ?_; go_must (unfold PutPost; rw [err_b]; rintro e w2 ⟨v2, rfl, ho2, -, hb2⟩; have O2 := ho2 rfl; rw [put_b] at O2; have HO2 := Hid.mk' O2; have HE2 := Hid.mk' hb2; clear ho2 hb2 O2))
  go_upto_region 4 with (go_at_call 36; refine (PC.out _).mono ?_; unfold PutPost; rw [err_c]; rintro e w3 ⟨v3, rfl, ho3, -, hb3⟩; have O3 := ho3 rfl; rw [put_c] at O3; have HO3 := Hid.mk' O3; have HE3 := Hid.mk' hb3; clear ho3 hb3 O3)
  have c1 := conv_Sl ((HO1.out.sl).ext (HE2.out.trans HE3.out))
  have c2 := conv_Sl ((HO2.out.sl).ext HE3.out)
  have c3 : (convert 72 9 v3).run Try.prog (w3.alloc (.cells #[.int .u8 2, .int .u8 64] 5)) = .ok (.string (strOfNums [0, 0, 0, 0, 0, 0, 0, 0, 0, 0, 0, 0, 0, 0, 0, 64])) (w3.alloc (.cells #[.int .u8 2, .int .u8 64] 5)) := conv_Sl ((HO3.out.sl).ext ((Ext.refl w3).alloc _))
  have c4 : (convert 72 9 (.slice (some ⟨w3.heap.size, 0, none⟩) 2 2)).run Try.prog (w3.alloc (.cells #[.int .u8 2, .int .u8 64] 5)) = .ok (.string (strOfNums [2, 64])) (w3.alloc (.cells #[.int .u8 2, .int .u8 64] 5)) := conv_Sl (fresh_bytes w3 [2, 64] 2 rfl)
  have c5 : (convert 72 9 (.slice (some ⟨w3.heap.size + 1, 0, none⟩) 16 16)).run Try.prog ((w3.alloc (.cells #[.int .u8 2, .int .u8 64] 5)).alloc (.cells #[.int .u8 0, .int .u8 0, .int .u8 0, .int .u8 0, .int .u8 0, .int .u8 0, .int .u8 0, .int .u8 0, .int .u8 0, .int .u8 0, .int .u8 0, .int .u8 0, .int .u8 0, .int .u8 0, .int .u8 0, .int .u8 64] 5)) = .ok (.string (strOfNums [0, 0, 0, 0, 0, 0, 0, 0, 0, 0, 0, 0, 0, 0, 0, 64])) ((w3.alloc (.cells #[.int .u8 2, .int .u8 64] 5)).alloc (.cells #[.int .u8 0, .int .u8 0, .int .u8 0, .int .u8 0, .int .u8 0, .int .u8 0, .int .u8 0, .int .u8 0, .int .u8 0, .int .u8 0, .int .u8 0, .int .u8 0, .int .u8 0, .int .u8 0, .int .u8 0, .int .u8 64] 5)) := by
    have h := conv_Sl (fresh_bytes (w3.alloc (.cells #[.int .u8 2, .int .u8 64] 5)) [0, 0, 0, 0, 0, 0, 0, 0, 0, 0, 0, 0, 0, 0, 0, 64] 16 rfl)
    have e : (w3.alloc (.cells #[.int .u8 2, .int .u8 64] 5)).heap.size = w3.heap.size + 1 := by simp
    rw [e] at h; exact h
  have t1 : (strOfNums [1]).toList = [1] := by rw [ByteArray.toList_eq]; rfl
  clear PA PB PC
  go_wp2
  have hE1 := HE1.out
  have hE2 := HE2.out
  have hE3 := HE3.out
  go_ret
  exact ⟨rfl, by (repeat (with_reducible (first | exact Ext.refl _ | assumption | exact held_left (by assumption) | apply Ext.drewN | apply Ext.drew | apply Ext.alloc | (refine Ext.setCell ?_ (by first | (simp; done) | (simp; omega) | omega) _) | (refine Ext.trans ?_ (by assumption)) | (refine Ext.trans ?_ (held_left (by assumption))))))⟩

end Go.Proofs.Ytkofnmbkfaebcaa
