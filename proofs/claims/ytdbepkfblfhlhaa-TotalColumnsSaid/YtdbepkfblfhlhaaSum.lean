/-
Walks: total.within, total.Whole, cell.Of, total.one, (total.Sum).Join, Add, Sub.
-/
import Derived.Test.YtdbepkfblfhlhaaP16
import Derived.Test.YtdbepkfblfhlhaaWhole
namespace Go.Proofs.Ytdbepkfblfhlhaa
open Go.RowKit

theorem bd20 : Bd 4697254411347427328 1048576 := ⟨by decide, by decide, by decide +kernel⟩
theorem bd10 : Bd 4652218415073722368 1024 := ⟨by decide, by decide, by decide +kernel⟩
theorem bd40 : Bd 4787326403894837248 1099511627776 := ⟨by decide, by decide, by decide +kernel⟩

set_option maxRecDepth 20000 in
set_option maxHeartbeats 400000 in
theorem within_any (x y bw : Nat) (B : Int) (w : World) (hx : Hid (x < 2 ^ 64)) (hy : Hid (y < 2 ^ 64)) (hB : Bd bw B) :
    Calls Try.prog 103 #[.complex .f64 x y, .float .f64 bw] w fun e w' => e = .returned (.bool (whB x B && whB y B)) ∧ Ext w w' := by
  cases h1 : whB x B
  all_goals
    go_enter Try.func103, Try.ntmps103
    go_wp2_with (first
      | (go_at_call_of 131 (Value.float FloatKind.f64 x); refine (within1_any x bw B _ _ hx hB (by simp [go_sem])).mono ?_; rw [h1]; rintro e w' ⟨rfl, nd, rfl⟩)
      | (go_at_call_of 131 (Value.float FloatKind.f64 y); refine (within1_any y bw B _ _ hy hB (by simp [go_sem])).mono ?_; rintro e w' ⟨rfl, nd, rfl⟩))
    go_ret
    exact ⟨by simp, by (repeat (with_reducible (first | exact Ext.refl _ | assumption | exact held_left (by assumption) | apply Ext.drewN | apply Ext.drew | apply Ext.alloc | (refine Ext.setCell ?_ (by first | (simp; done) | (simp; omega) | omega) _) | (refine Ext.trans ?_ (by assumption)) | (refine Ext.trans ?_ (held_left (by assumption))))))⟩

set_option maxRecDepth 20000 in set_option maxHeartbeats 400000 in
theorem whole_any (x y : Nat) (w : World) (hx : Hid (x < 2 ^ 64)) (hy : Hid (y < 2 ^ 64)) :
    Calls Try.prog 130 #[.complex .f64 x y] w fun e w' => e = .returned (.bool (whB x 1048576 && whB y 1048576)) ∧ Ext w w' := by
  go_enter Try.func130, Try.ntmps130
  go_wp2_with (go_at_call 103; refine (within_any x y _ _ _ hx hy bd20).mono ?_; rintro e w' ⟨rfl, hb⟩)
  go_ret
  exact ⟨rfl, by (repeat (with_reducible (first | exact Ext.refl _ | assumption | exact held_left (by assumption) | apply Ext.drewN | apply Ext.drew | apply Ext.alloc | (refine Ext.setCell ?_ (by first | (simp; done) | (simp; omega) | omega) _) | (refine Ext.trans ?_ (by assumption)) | (refine Ext.trans ?_ (held_left (by assumption))))))⟩

set_option maxRecDepth 20000 in set_option maxHeartbeats 400000 in
theorem cellOf_any (ty n : Int) (x y : Nat) (s : ByteArray) (w : World) :
    Calls Try.prog 64 #[.agg #[.int .u8 ty, .int .i64 n, .complex .f64 x y, .string s]] w fun e w' =>
      e = .returned (.agg #[.int .u8 2, .int .u8 ty, .int .i64 n, .complex .f64 x y, .string s]) ∧ Ext w w' := by
  go_enter Try.func64, Try.ntmps64
  go_wp2
  simp [bodyPost, results, Try.results64, go_sem]
  (repeat (with_reducible (first | exact Ext.refl _ | assumption | exact held_left (by assumption) | apply Ext.drewN | apply Ext.drew | apply Ext.alloc | (refine Ext.setCell ?_ (by first | (simp; done) | (simp; omega) | omega) _) | (refine Ext.trans ?_ (by assumption)) | (refine Ext.trans ?_ (held_left (by assumption))))))

set_option maxRecDepth 20000 in set_option maxHeartbeats 400000 in
theorem join_any (a1 a2 a3 a4 a5 b1 b2 b3 b4 b5 : Int) (ar ai br bi cr ci : Nat) (w : World)
   (hc : cSumBits .add .f64 ar ai br bi = some (cr, ci)) :
    Calls Try.prog 97 #[.agg #[.int .i64 a1, .int .i64 a2, .int .i64 a3, .int .i64 a4, .int .i64 a5, .complex .f64 ar ai], .agg #[.int .i64 b1, .int .i64 b2, .int .i64 b3, .int .i64 b4, .int .i64 b5, .complex .f64 br bi]] w fun e w' =>
      e = .returned (.agg #[.int .i64 (wrap64 (a1 + b1)), .int .i64 (wrap64 (a2 + b2)), .int .i64 (wrap64 (a3 + b3)), .int .i64 (wrap64 (a4 + b4)), .int .i64 (wrap64 (a5 + b5)), .complex .f64 cr ci]) ∧ Ext w w' := by
  have hadd := fun w => run_complex_sum (P := Try.prog) w .add (.inl rfl) 48 .f64 ar ai br bi cr ci hc
  clear hc
  go_enter Try.func97, Try.ntmps97
  go_wp2
  simp [bodyPost, results, Try.results97, go_sem]
  (repeat (with_reducible (first | exact Ext.refl _ | assumption | exact held_left (by assumption) | apply Ext.drewN | apply Ext.drew | apply Ext.alloc | (refine Ext.setCell ?_ (by first | (simp; done) | (simp; omega) | omega) _) | (refine Ext.trans ?_ (by assumption)) | (refine Ext.trans ?_ (held_left (by assumption))))))

/-- What a cell comes to. -/
def oneV (k ty n : Int) (re im : Nat) (s : ByteArray) (wh : Bool) : Value :=
  if k == 0 then .agg #[.int .i64 0, .int .i64 1, .int .i64 0, .int .i64 0, .int .i64 0, .complex .f64 0 0]
  else if k == 1 then .agg #[.int .i64 0, .int .i64 0, .int .i64 0, .int .i64 0, .int .i64 0, .complex .f64 0 0]
  else if ty != 3 && ty != 4 then .agg #[.int .i64 1, .int .i64 0, .int .i64 0, .int .i64 s.size, .int .i64 n, .complex .f64 0 0]
  else if wh then .agg #[.int .i64 1, .int .i64 0, .int .i64 0, .int .i64 0, .int .i64 0, .complex .f64 re im]
  else .agg #[.int .i64 1, .int .i64 0, .int .i64 1, .int .i64 0, .int .i64 0, .complex .f64 0 0]

set_option maxRecDepth 20000 in set_option maxHeartbeats 400000 in
theorem one_any (k ty n : Int) (re im : Nat) (s : ByteArray) (w : World) (hx : Hid (re < 2 ^ 64)) (hy : Hid (im < 2 ^ 64)) :
    Calls Try.prog 98 #[.agg #[.int .u8 k, .int .u8 ty, .int .i64 n, .complex .f64 re im, .string s]] w fun e w' =>
      e = .returned (oneV k ty n re im s (whB re 1048576 && whB im 1048576)) ∧ Ext w w' := by
  have HW := fun w => whole_any re im w hx hy
  generalize (whB re 1048576 && whB im 1048576) = wh at *
  have HT := Hid.mk' HW
  clear HW
  go_enter Try.func98, Try.ntmps98
  go_wp2_with (go_at_call 130; refine (HT.out _).mono ?_; rintro e w' ⟨rfl, hb⟩; obtain ⟨hc, hf⟩ := hb.cells; have hz := hb.size)
  all_goals
    simp [bodyPost, results, Try.results98, go_sem, *]
    refine ⟨?_, by (repeat (with_reducible (first | exact Ext.refl _ | assumption | exact held_left (by assumption) | apply Ext.drewN | apply Ext.drew | apply Ext.alloc | (refine Ext.setCell ?_ (by first | (simp; done) | (simp; omega) | omega) _) | (refine Ext.trans ?_ (by assumption)) | (refine Ext.trans ?_ (held_left (by assumption))))))⟩
    try clear hc hf hz hb
    clear HT
    unfold oneV
    simp_all

end Go.Proofs.Ytdbepkfblfhlhaa
