/-
The awake of the laws of values.
-/
import Derived.Test.YtkofnmbkfaebcaaPut
namespace Go.Proofs.Ytkofnmbkfaebcaa
open Go.RowKit

/-- A row of bytes as a string. -/
theorem conv_Sl {w : World} {v : Value} {l : List Int} (h : Sl w v 1 (l.map bcell)) : (convert 72 9 v).run Try.prog w = .ok (.string (strOfNums l)) w := by
  have h0 := h
  obtain ⟨a, cap, rfl, hs⟩ := h
  rcases hs with hn | ⟨b, o, rfl, hb, hc⟩
  · have hl : l = [] := by simpa using hn
    subst hl
    cases a with
    | none => exact run_convert_bytes_nil w _ _ Try.underlying72 Try.underlying5 _ _ _ Try.underlying9
    | some ad =>
      rw [run_convert_bytes_string w _ _ _ _ _ _ Try.underlying72 Try.underlying5 Try.underlying9]
      have hl : (loadCells ad 0).run Try.prog w = .ok (([] : List Int).map (Value.int .u8)).toArray w := by
        have := run_loadCells_list (P := Try.prog) w ad [] (fun j v hj => by simp at hj)
        simpa using this
      exact run_bytesToString w ad 0 cap [] hl
  · simp only [List.length_map] at *
    refine run_convert_bytes_arg w _ _ Try.underlying72 Try.underlying5 b o _ cap l rfl (fun i hi => ?_) _ Try.underlying9
    exact (Sl.bytes h0 (by omega)).2.2 i hi

theorem fresh_bytes (w : World) (l : List Int) (n : Nat) (hn : n = l.length) : Sl (w.alloc (.cells (bs l).toArray 5)) (.slice (some ⟨w.heap.size, 0, none⟩) n n) 1 (l.map bcell) := by
  subst hn
  have := Sl.new w (bs l).toArray 5 1 l.length l.length (l.map bcell) (by rw [bs_flat]) (by intro xs hxs; simp at hxs; obtain ⟨x, _, rfl⟩ := hxs; rfl) (by simp)
  exact this

theorem put_a : putL 2 (-1) 0 0 ByteArray.empty 2 = [1] := by
  have h : zig (-1) = 1 := rfl
  simp [putL, h]; rw [sevens_lt (by decide)]; rfl
theorem put_b : putL 4 0 0 4611686018427387904 ByteArray.empty 2 = [2, 64] := by
  have h : rev 4611686018427387904 = 64 := by decide
  simp [putL, complexL, markOf, floatL, h]; rw [sevens_lt (by decide)]; rfl
theorem put_c : putL 4 0 0 4611686018427387904 ByteArray.empty 1 = [0, 0, 0, 0, 0, 0, 0, 0, 0, 0, 0, 0, 0, 0, 0, 64] := by
  simp [putL, complexL, floatL]; decide
theorem err_a : errV 2 (-1) ((0 : Nat) : Int) ((0 : Nat) : Int) ByteArray.empty 2 = 0 := by decide
theorem err_b : errV 4 0 ((0 : Nat) : Int) ((4611686018427387904 : Nat) : Int) ByteArray.empty 2 = 0 := by decide
theorem err_c : errV 4 0 ((0 : Nat) : Int) ((4611686018427387904 : Nat) : Int) ByteArray.empty 1 = 0 := by decide

theorem nilSl (w : World) : Sl w (.slice none 0 0) 1 (([] : List Int).map bcell) := ⟨none, 0, rfl, .inl rfl⟩
theorem empty_small : ByteArray.empty.size ≤ 9223372036854775807 := Nat.zero_le _
set_option maxRecDepth 100000 in set_option maxHeartbeats 1600000 in
theorem awake06_any (w : World) : Calls Try.prog 35 #[] w fun e w' => e = .returned (.bool true) ∧ Ext w w' := by
  have PA := Hid.mk' (fun (w : World) => vput_any (.slice none 0 0) [] 2 (-1) 0 0 ByteArray.empty 2 w (nilSl w) (Nat.zero_le _) (by omega) (by omega) (by omega) empty_small)
  have PB := Hid.mk' (fun (w : World) => vput_any (.slice none 0 0) [] 4 0 0 4611686018427387904 ByteArray.empty 2 w (nilSl w) (Nat.zero_le _) (by omega) (by omega) (by omega) empty_small)
  have PC := Hid.mk' (fun (w : World) => vput_any (.slice none 0 0) [] 4 0 0 4611686018427387904 ByteArray.empty 1 w (nilSl w) (Nat.zero_le _) (by omega) (by omega) (by omega) empty_small)
  go_enter Try.func35, Try.ntmps35
  go_upto_region 2 with (go_at_call 36; refine (PA.out _).mono ?_; unfold PutPost; rw [err_a]; rintro e w1 ⟨v1, rfl, ho1, -, hb1⟩; have O1 := ho1 rfl; rw [put_a] at O1; have HO1 := Hid.mk' O1; have HE1 := Hid.mk' hb1; clear ho1 hb1 O1)
  go_upto_region 3 with (go_at_call 36; refine (PB.out _).mono ?_; go_must (unfold PutPost; rw [err_b]; rintro e w2 ⟨v2, rfl, ho2, -, hb2⟩; have O2 := ho2 rfl; rw [put_b] at O2; have HO2 := Hid.mk' O2; have HE2 := Hid.mk' hb2; clear ho2 hb2 O2))
  go_upto_region 4 with (go_at_call 36; refine (PC.out _).mono ?_; unfold PutPost; rw [err_c]; rintro e w3 ⟨v3, rfl, ho3, -, hb3⟩; have O3 := ho3 rfl; rw [put_c] at O3; have HO3 := Hid.mk' O3; have HE3 := Hid.mk' hb3; clear ho3 hb3 O3)
  have c1 := conv_Sl ((HO1.out.sl).ext (HE2.out.trans HE3.out))
  have c2 := conv_Sl ((HO2.out.sl).ext HE3.out)
  have c3 : (convert 72 9 v3).run Try.prog (w3.alloc (.cells #[.int .u8 2, .int .u8 64] 5)) = .ok (.string (strOfNums [0, 0, 0, 0, 0, 0, 0, 0, 0, 0, 0, 0, 0, 0, 0, 64])) (w3.alloc (.cells #[.int .u8 2, .int .u8 64] 5)) := conv_Sl ((HO3.out.sl).ext ((Ext.refl w3).alloc _))
  have c4 : (convert 72 9 (.slice (some ⟨w3.heap.size, 0, none⟩) 2 2)).run Try.prog (w3.alloc (.cells #[.int .u8 2, .int .u8 64] 5)) = .ok (.string (strOfNums [2, 64])) (w3.alloc (.cells #[.int .u8 2, .int .u8 64] 5)) := conv_Sl (fresh_bytes w3 [2, 64] 2 rfl)
  have c5 : (convert 72 9 (.slice (some ⟨w3.heap.size + 1, 0, none⟩) 16 16)).run Try.prog ((w3.alloc (.cells #[.int .u8 2, .int .u8 64] 5)).alloc (.cells #[.int .u8 0, .int .u8 0, .int .u8 0, .int .u8 0, .int .u8 0, .int .u8 0, .int .u8 0, .int .u8 0, .int .u8 0, .int .u8 0, .int .u8 0, .int .u8 0, .int .u8 0, .int .u8 0, .int .u8 0, .int .u8 64] 5)) = .ok (.string (strOfNums [0, 0, 0, 0, 0, 0, 0, 0, 0, 0, 0, 0, 0, 0, 0, 64])) ((w3.alloc (.cells #[.int .u8 2, .int .u8 64] 5)).alloc (.cells #[.int .u8 0, .int .u8 0, .int .u8 0, .int .u8 0, .int .u8 0, .int .u8 0, .int .u8 0, .int .u8 0, .int .u8 0, .int .u8 0, .int .u8 0, .int .u8 0, .int .u8 0, .int .u8 0, .int .u8 0, .int .u8 64] 5)) := by
    have h := conv_Sl (fresh_bytes (w3.alloc (.cells #[.int .u8 2, .int .u8 64] 5)) [0, 0, 0, 0, 0, 0, 0, 0, 0, 0, 0, 0, 0, 0, 0, 64] 16 rfl)
    have e : (w3.alloc (.cells #[.int .u8 2, .int .u8 64] 5)).heap.size = w3.heap.size + 1 := by simp
    rw [e] at h; exact h
  have t1 : (strOfNums [1]).toList = [1] := by rw [ByteArray.toList_eq]; rfl
  clear PA PB PC
  go_wp2
  have hE1 := HE1.out
  have hE2 := HE2.out
  have hE3 := HE3.out
  go_ret
  exact ⟨rfl, by (repeat (with_reducible (first | exact Ext.refl _ | assumption | exact held_left (by assumption) | apply Ext.drewN | apply Ext.drew | apply Ext.alloc | (refine Ext.setCell ?_ (by first | (simp; done) | (simp; omega) | omega) _) | (refine Ext.trans ?_ (by assumption)) | (refine Ext.trans ?_ (held_left (by assumption))))))⟩

end Go.Proofs.Ytkofnmbkfaebcaa
