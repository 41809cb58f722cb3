import Derived.Shelf.Strings.Repeat
import Derived.Test.YtmpnopjkpamhaaaRefRight
import Derived.Test.YtmpnopjkpamhaaaCellPut
import Derived.Test.YtmpnopjkpamhaaaPutB
/-
What strings.Repeat returns, laid at this program's numbers (by the kit's tools lay-shelf and lay-plain).
-/
namespace Go.Proofs.Ytmpnopjkpamhaaa
open Go.Shelf Go.RowKit
def Try.lays105_ren : Go.Shelf.Ren := ⟨fun | 105 => 35 | 212 => 58 | 99 => 59 | 165 => 60 | 166 => 61 | 170 => 62 | 169 => 63 | 263 => 87 | 264 => 88 | 206 => 89 | 240 => 90 | 241 => 91 | 276 => 98 | 277 => 99 | n => n, fun | 9 => 9 | 3 => 3 | 4 => 4 | 20 => 20 | 0 => 0 | 46 => 83 | 109 => 94 | 5 => 5 | 72 => 99 | 76 => 103 | 51 => 122 | 146 => 123 | 53 => 22 | 148 => 84 | 70 => 97 | 37 => 29 | 75 => 102 | 127 => 126 | 164 => 133 | 80 => 105 | n => n, fun | n => n⟩
theorem Try.lays105 : Go.Proofs.Lays.n105 Try.prog Try.lays105_ren := {
  mixed := by kernel_rfl
  f99 := Try.func59.trans (congrArg some (by kernel_rfl))
  f105 := Try.func35.trans (congrArg some (by kernel_rfl))
  f165 := Try.func60.trans (congrArg some (by kernel_rfl))
  f166 := Try.func61.trans (congrArg some (by kernel_rfl))
  f169 := Try.func63.trans (congrArg some (by kernel_rfl))
  f170 := Try.func62.trans (congrArg some (by kernel_rfl))
  f206 := Try.func89.trans (congrArg some (by kernel_rfl))
  f212 := Try.func58.trans (congrArg some (by kernel_rfl))
  f240 := Try.func90.trans (congrArg some (by kernel_rfl))
  f241 := Try.func91.trans (congrArg some (by kernel_rfl))
  f263 := Try.func87.trans (congrArg some (by kernel_rfl))
  f264 := Try.func88.trans (congrArg some (by kernel_rfl))
  f276 := Try.func98.trans (congrArg some (by kernel_rfl))
  f277 := Try.func99.trans (congrArg some (by kernel_rfl))
  t0 := Try.underlying0
  a0 := Try.isAgg0
  z0 := Try.sizeOf0
  v0 := Try.zeroValue0
  t3 := Try.underlying3
  a3 := Try.isAgg3
  z3 := Try.sizeOf3
  v3 := Try.zeroValue3
  t4 := Try.underlying4
  a4 := Try.isAgg4
  z4 := Try.sizeOf4
  v4 := Try.zeroValue4
  t5 := Try.underlying5
  a5 := Try.isAgg5
  z5 := Try.sizeOf5
  v5 := Try.zeroValue5
  t9 := Try.underlying9
  a9 := Try.isAgg9
  z9 := Try.sizeOf9
  v9 := Try.zeroValue9
  t20 := Try.underlying20
  a20 := Try.isAgg20
  z20 := Try.sizeOf20
  v20 := Try.zeroValue20
  t37 := Try.underlying29
  a37 := Try.isAgg29
  z37 := Try.sizeOf29
  v37 := Try.zeroValue29
  t46 := Try.underlying83
  a46 := Try.isAgg83
  z46 := Try.sizeOf83
  v46 := Try.zeroValue83
  t51 := Try.underlying122
  a51 := Try.isAgg122
  z51 := Try.sizeOf122
  v51 := Try.zeroValue122
  t53 := Try.underlying22
  a53 := Try.isAgg22
  z53 := Try.sizeOf22
  v53 := Try.zeroValue22
  t70 := Try.underlying97
  a70 := Try.isAgg97
  z70 := Try.sizeOf97
  v70 := Try.zeroValue97
  t72 := Try.underlying99
  a72 := Try.isAgg99
  z72 := Try.sizeOf99
  v72 := Try.zeroValue99
  t75 := Try.underlying102
  a75 := Try.isAgg102
  z75 := Try.sizeOf102
  v75 := Try.zeroValue102
  t76 := Try.underlying103
  a76 := Try.isAgg103
  z76 := Try.sizeOf103
  v76 := Try.zeroValue103
  t109 := Try.underlying94
  a109 := Try.isAgg94
  z109 := Try.sizeOf94
  v109 := Try.zeroValue94
  t127 := Try.underlying126
  a127 := Try.isAgg126
  z127 := Try.sizeOf126
  v127 := Try.zeroValue126
  t146 := Try.underlying123
  a146 := Try.isAgg123
  z146 := Try.sizeOf123
  v146 := Try.zeroValue123
  t148 := Try.underlying84
  a148 := Try.isAgg84
  z148 := Try.sizeOf84
  v148 := Try.zeroValue84
  t164 := Try.underlying133
  a164 := Try.isAgg133
  z164 := Try.sizeOf133
  v164 := Try.zeroValue133 }
theorem Try.Builder_Extra_105 : Builder.Extra Try.prog Try.lays105_ren := {
  sizeBuilder := by kernel_rfl
  liesBuilder := by kernel_rfl
  t5 := Try.underlying5
  a5 := Try.isAgg5
  z5 := Try.sizeOf5
  v5 := Try.zeroValue5
  infoByte := by kernel_rfl
  cellsByte := by kernel_rfl
  sizeByte := by kernel_rfl
  neB5 := by decide }
theorem Try.strings_Repeat (s : ByteArray) (c : Nat) (w : World) (hc : c ≤ 9223372036854775807) (hlen : s.size * c ≤ 140737488355328) :
    Calls Try.prog 35 #[.string s, .int .i64 c] w fun e w' => e = .returned (.string ⟨(Lib.repeatL s.data.toList c).toArray⟩) ∧ Below w.heap.size w w' := Any.strings_Repeat Try.lays105 Try.Builder_Extra_105 s c w hc hlen

end Go.Proofs.Ytmpnopjkpamhaaa

/-
The awake of the laws of cells.
-/
namespace Go.Proofs.Ytmpnopjkpamhaaa
open Go.RowKit

def sAb : ByteArray := ⟨#[97, 98]⟩
def sA300 : ByteArray := ⟨(Go.Lib.repeatL [97] 300).toArray⟩
theorem a300_size : sA300.size = 300 := by kernel_rfl
theorem a300_plain : plainB sA300 = true := by kernel_rfl
theorem ab_err (ver : Int) (h : ver = 1 ∨ ver = 2) : errC 2 5 0 ((0 : Nat) : Int) ((0 : Nat) : Int) sAb 5 ver = 0 :=
  err_mk h (right_mk (right_text_mk (.inl rfl) (by decide) (fun _ => by decide)) rfl) ne_two
theorem a300_err : errC 2 5 0 ((0 : Nat) : Int) ((0 : Nat) : Int) sA300 5 2 = 0 :=
  err_mk (.inr rfl) (right_mk (right_text_mk (.inl rfl) (by rw [a300_size]; decide) (fun _ => a300_plain)) rfl) ne_two
theorem ab_1 : putC 2 5 0 0 0 sAb 5 1 = [1, 2, 97, 98] := by
  have hs : sAb.size = 2 := rfl
  rw [putC_small (small_mk fun _ => by rw [hs]; decide), if_neg (by decide)]
  unfold putL
  rw [if_neg (by decide), if_neg (by decide), if_neg (by decide), if_neg (by decide), hs, sevens_lt (by decide)]; rfl
theorem ab_2 : putC 2 5 0 0 0 sAb 5 2 = [4, 97, 98] := by
  have hs : sAb.size = 2 := rfl
  rw [putC_small (small_mk fun _ => by rw [hs]; decide), if_pos rfl, if_pos (.inl rfl), hs, sevens_lt (by decide)]; rfl
theorem a300_2 : putC 2 5 0 0 0 sA300 5 2 = [1, 172, 2] := by
  rw [putC_large (large_mk (.inl rfl) (by rw [a300_size]; decide)), a300_size, sevens_ge (by decide), sevens_lt (by decide)]; rfl

set_option maxRecDepth 100000 in set_option maxHeartbeats 1600000 in
theorem awake07_any (w : World) : Calls Try.prog 11 #[] w fun e w' => e = .returned (.bool true) ∧ Ext w w' := by
  have PA := Hid.mk' (fun (w : World) => cput_ok (.slice none 0 0) [] 2 5 0 0 0 sAb 5 1 w (ab_err 1 (.inl rfl)) (nilSl w) (Nat.zero_le _) (by decide) (by omega) (by omega) (by omega) (by decide))
  have PB := Hid.mk' (fun (w : World) => cput_ok (.slice none 0 0) [] 2 5 0 0 0 sAb 5 2 w (ab_err 2 (.inr rfl)) (nilSl w) (Nat.zero_le _) (by decide) (by omega) (by omega) (by omega) (by decide))
  have PC := Hid.mk' (fun (w : World) => cput_ok (.slice none 0 0) [] 2 5 0 0 0 sA300 5 2 w a300_err (nilSl w) (Nat.zero_le _) (by decide) (by omega) (by omega) (by omega) (by rw [a300_size]; decide))
  rw [ab_1] at PA
  rw [ab_2] at PB
  rw [a300_2] at PC
  have HO := Hid.mk' (fun w => cof_any 5 0 0 0 sAb w)
  have HOA := Hid.mk' (fun w => cof_any 5 0 0 0 sA300 w)
  have hrep : ∀ w : World, Calls Try.prog 35 #[.string ⟨#[97]⟩, .int .i64 300] w fun e w' => e = .returned (.string sA300) ∧ Ext w w' := fun w => Try.strings_Repeat ⟨#[97]⟩ 300 w (by decide) (by decide)
  have HRep := Hid.mk' hrep
  obtain ⟨A, hA⟩ : ∃ A, A = sA300 := ⟨_, rfl⟩
  rw [← hA] at HRep PC HOA
  unfold sAb at *
  clear hrep hA
  go_enter Try.func11, Try.ntmps11
  go_upto_region 2 with (go_at_call 18; refine (HO.out _).mono ?_; rintro e w0 ⟨rfl, hb0⟩; have HE0 := Hid.mk' hb0; clear hb0)
  go_upto_region 3 with (go_at_call 8; refine (PA.out _).mono ?_; rintro e w1 ⟨v1, rfl, ho1, hb1⟩; obtain ⟨hc1, hf1⟩ := hb1.cells; have hz1 := hb1.size; have HO1 := Hid.mk' ho1; have HE1 := Hid.mk' (HE0.out.trans (((Ext.refl w0).alloc _).trans hb1)); clear ho1 hb1)
  go_upto_region 4 with (go_at_call 8; refine (PB.out _).mono ?_; rintro e w2 ⟨v2, rfl, ho2, hb2⟩; have HO2 := Hid.mk' ho2; have HE2 := Hid.mk' hb2; clear ho2 hb2 hc1 hf1)
  go_upto_region 5 with (first
    | (go_at_call 35; refine (HRep.out _).mono ?_; rintro e w3 ⟨rfl, hb3⟩; have HE3 := Hid.mk' hb3; clear hb3)
    | (go_at_call 18; refine (HOA.out _).mono ?_; rintro e w4 ⟨rfl, hb4⟩; have HE4 := Hid.mk' hb4; clear hb4)
    | (go_at_call 8; refine (PC.out _).mono ?_; rintro e w5 ⟨v5, rfl, ho5, hb5⟩; have HO5 := Hid.mk' ho5; have HE5 := Hid.mk' hb5; clear ho5 hb5))
  have hE25 : Ext w2 w5 := (HE3.out.trans HE4.out).trans HE5.out
  have c1 := conv_Sl ((HO1.out.sl).ext (HE2.out.trans hE25))
  have c2 := conv_Sl ((HO2.out.sl).ext hE25)
  have c3 := conv_Sl (HO5.out.sl)
  have c4 := conv_Sl ((HO5.out.sl).ext ((Ext.refl w5).alloc (.cells #[.int .u8 1, .int .u8 172, .int .u8 2] 5)))
  have c5 : (convert 29 9 (.slice (some ⟨w5.heap.size, 0, none⟩) 3 3)).run Try.prog (w5.alloc (.cells #[.int .u8 1, .int .u8 172, .int .u8 2] 5)) = .ok (.string (strOfNums [1, 172, 2])) (w5.alloc (.cells #[.int .u8 1, .int .u8 172, .int .u8 2] 5)) := conv_Sl (fresh_bytes w5 [1, 172, 2] 3 rfl)
  have t1 : (strOfNums [1, 2, 97, 98]).toList = [1, 2, 97, 98] := by rw [ByteArray.toList_eq]; rfl
  have t2 : (strOfNums [4, 97, 98]).toList = [4, 97, 98] := by rw [ByteArray.toList_eq]; rfl
  have HE25 := Hid.mk' hE25
  clear hE25 PA PB PC
  go_wp2
  go_ret
  have hE1 := HE1.out
  have hE2 := HE2.out
  have hE3 := HE25.out
  exact ⟨rfl, by (repeat (with_reducible (first | exact Ext.refl _ | assumption | exact held_left (by assumption) | apply Ext.drewN | apply Ext.drew | apply Ext.alloc | (refine Ext.setCell ?_ (by first | (simp; done) | (simp; omega) | omega) _) | (refine Ext.trans ?_ (by assumption)) | (refine Ext.trans ?_ (held_left (by assumption))))))⟩

end Go.Proofs.Ytmpnopjkpamhaaa
