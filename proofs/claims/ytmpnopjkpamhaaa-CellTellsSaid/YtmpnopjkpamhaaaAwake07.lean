/-
The awake of the laws of cells.
-/
import Derived.Test.YtmpnopjkpamhaaaCellPut
import Derived.Test.YtmpnopjkpamhaaaConv
import Derived.Test.YtmpnopjkpamhaaaRepeat
namespace Go.Proofs.Ytmpnopjkpamhaaa
open Go.RowKit

def sAb : ByteArray := ⟨#[97, 98]⟩
def sA300 : ByteArray := ⟨(Go.Lib.repeatL [97] 300).toArray⟩
theorem a300_size : sA300.size = 300 := by kernel_rfl
theorem a300_plain : plainB sA300 = true := by kernel_rfl
theorem ab_err (ver : Int) (h : ver = 1 ∨ ver = 2) : errC 2 5 0 ((0 : Nat) : Int) ((0 : Nat) : Int) sAb 5 ver = 0 :=
  err_mk h (right_mk (right_text_mk (.inl rfl) (by decide) (fun _ => by decide)) rfl) ne_two
theorem a300_err : errC 2 5 0 ((0 : Nat) : Int) ((0 : Nat) : Int) sA300 5 2 = 0 :=
  err_mk (.inr rfl) (right_mk (right_text_mk (.inl rfl) (by rw [a300_size]; decide) (fun _ => a300_plain)) rfl) ne_two
theorem ab_1 : putC 2 5 0 0 0 sAb 5 1 = [1, 2, 97, 98] := by
  have hs : sAb.size = 2 := rfl
  rw [putC_small (small_mk fun _ => by rw [hs]; decide), if_neg (by decide)]
  unfold putL
  rw [if_neg (by decide), if_neg (by decide), if_neg (by decide), if_neg (by decide), hs, sevens_lt (by decide)]; rfl
theorem ab_2 : putC 2 5 0 0 0 sAb 5 2 = [4, 97, 98] := by
  have hs : sAb.size = 2 := rfl
  rw [putC_small (small_mk fun _ => by rw [hs]; decide), if_pos rfl, if_pos (.inl rfl), hs, sevens_lt (by decide)]; rfl
theorem a300_2 : putC 2 5 0 0 0 sA300 5 2 = [1, 172, 2] := by
  rw [putC_large (large_mk (.inl rfl) (by rw [a300_size]; decide)), a300_size, sevens_ge (by decide), sevens_lt (by decide)]; rfl

set_option maxRecDepth 100000 in set_option maxHeartbeats 1600000 in
theorem awake07_any (w : World) : Calls Try.prog 11 #[] w fun e w' => e = .returned (.bool true) ∧ Ext w w' := by
  have PA := Hid.mk' (fun (w : World) => cput_ok (.slice none 0 0) [] 2 5 0 0 0 sAb 5 1 w (ab_err 1 (.inl rfl)) (nilSl w) (Nat.zero_le _) (by decide) (by omega) (by omega) (by omega) (by decide))
  have PB := Hid.mk' (fun (w : World) => cput_ok (.slice none 0 0) [] 2 5 0 0 0 sAb 5 2 w (ab_err 2 (.inr rfl)) (nilSl w) (Nat.zero_le _) (by decide) (by omega) (by omega) (by omega) (by decide))
  have PC := Hid.mk' (fun (w : World) => cput_ok (.slice none 0 0) [] 2 5 0 0 0 sA300 5 2 w a300_err (nilSl w) (Nat.zero_le _) (by decide) (by omega) (by omega) (by omega) (by rw [a300_size]; decide))
  rw [ab_1] at PA
  rw [ab_2] at PB
  rw [a300_2] at PC
  have HO := Hid.mk' (fun w => cof_any 5 0 0 0 sAb w)
  have HOA := Hid.mk' (fun w => cof_any 5 0 0 0 sA300 w)
  have hrep : ∀ w : World, Calls Try.prog 35 #[.string ⟨#[97]⟩, .int .i64 300] w fun e w' => e = .returned (.string sA300) ∧ Ext w w' := fun w => Try.strings_Repeat ⟨#[97]⟩ 300 w (by decide) (by decide)
  have HRep := Hid.mk' hrep
  obtain ⟨A, hA⟩ : ∃ A, A = sA300 := ⟨_, rfl⟩
  rw [← hA] at HRep PC HOA
  unfold sAb at *
  clear hrep hA
  go_enter Try.func11, Try.ntmps11
  go_upto_region 2 with (go_at_call 18; refine (HO.out _).mono ?_; rintro e w0 ⟨rfl, hb0⟩; have HE0 := Hid.mk' hb0; clear hb0)
  go_upto_region 3 with (go_at_call 8; refine (PA.out _).mono ?_; rintro e w1 ⟨v1, rfl, ho1, hb1⟩; obtain ⟨hc1, hf1⟩ := hb1.cells; have hz1 := hb1.size; have HO1 := Hid.mk' ho1; have HE1 := Hid.mk' (HE0.out.trans (((Ext.refl w0).alloc _).trans hb1)); clear ho1 hb1)
  go_upto_region 4 with (go_at_call 8; refine (PB.out _).mono ?_; rintro e w2 ⟨v2, rfl, ho2, hb2⟩; have HO2 := Hid.mk' ho2; have HE2 := Hid.mk' hb2; clear ho2 hb2 hc1 hf1)
  go_upto_region 5 with (first
    | (go_at_call 35; refine (HRep.out _).mono ?_; rintro e w3 ⟨rfl, hb3⟩; have HE3 := Hid.mk' hb3; clear hb3)
    | (go_at_call 18; refine (HOA.out _).mono ?_; rintro e w4 ⟨rfl, hb4⟩; have HE4 := Hid.mk' hb4; clear hb4)
    | (go_at_call 8; refine (PC.out _).mono ?_; rintro e w5 ⟨v5, rfl, ho5, hb5⟩; have HO5 := Hid.mk' ho5; have HE5 := Hid.mk' hb5; clear ho5 hb5))
  have hE25 : Ext w2 w5 := (HE3.out.trans HE4.out).trans HE5.out
  have c1 := conv_Sl ((HO1.out.sl).ext (HE2.out.trans hE25))
  have c2 := conv_Sl ((HO2.out.sl).ext hE25)
  have c3 := conv_Sl (HO5.out.sl)
  have c4 := conv_Sl ((HO5.out.sl).ext ((Ext.refl w5).alloc (.cells #[.int .u8 1, .int .u8 172, .int .u8 2] 5)))
  have c5 : (convert 29 9 (.slice (some ⟨w5.heap.size, 0, none⟩) 3 3)).run Try.prog (w5.alloc (.cells #[.int .u8 1, .int .u8 172, .int .u8 2] 5)) = .ok (.string (strOfNums [1, 172, 2])) (w5.alloc (.cells #[.int .u8 1, .int .u8 172, .int .u8 2] 5)) := conv_Sl (fresh_bytes w5 [1, 172, 2] 3 rfl)
  have t1 : (strOfNums [1, 2, 97, 98]).toList = [1, 2, 97, 98] := by rw [ByteArray.toList_eq]; rfl
  have t2 : (strOfNums [4, 97, 98]).toList = [4, 97, 98] := by rw [ByteArray.toList_eq]; rfl
  have HE25 := Hid.mk' hE25
  clear hE25 PA PB PC
  go_wp2
  go_ret
  have hE1 := HE1.out
  have hE2 := HE2.out
  have hE3 := HE25.out
  exact ⟨rfl, by (repeat (with_reducible (first | exact Ext.refl _ | assumption | exact held_left (by assumption) | apply Ext.drewN | apply Ext.drew | apply Ext.alloc | (refine Ext.setCell ?_ (by first | (simp; done) | (simp; omega) | omega) _) | (refine Ext.trans ?_ (by assumption)) | (refine Ext.trans ?_ (held_left (by assumption))))))⟩

end Go.Proofs.Ytmpnopjkpamhaaa
