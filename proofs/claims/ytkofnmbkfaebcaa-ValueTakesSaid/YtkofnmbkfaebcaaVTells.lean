/-
The walk of ValueTells.
-/
import Derived.Test.YtkofnmbkfaebcaaAwake06
namespace Go.Proofs.Ytkofnmbkfaebcaa
open Go.RowKit

theorem toList_inj' {s t : ByteArray} (h : s.toList = t.toList) : s = t := by
  have := str_beq s t
  rw [h, beq_self_eq_true] at this
  exact of_decide_eq_true this.symm
set_option maxRecDepth 20000 in
theorem eq_val (ty n : Int) (x y : Nat) (s : ByteArray) (ty' n' : Int) (x' y' : Nat) (s' : ByteArray) (w : World) :
    (binOp .eql 42 (.agg #[.int .u8 ty, .int .i64 n, .int .u64 x, .int .u64 y, .string s]) (.agg #[.int .u8 ty', .int .i64 n', .int .u64 x', .int .u64 y', .string s'])).run Try.prog w = .ok (.bool (sameB ty n x y s ty' n' x' y' s')) w := by
  by_cases h1 : ty = ty' <;> by_cases h2 : n = n' <;> by_cases h3 : x = x' <;> by_cases h4 : y = y' <;> by_cases h5 : s = s' <;> simp [go_sem, sameB, h1, h2, h3, h4, h5]
  all_goals first
    | (intro h; exact absurd (toList_inj' h) h5)
    | omega
    | (intros; omega)
    | (intros; intro h; exact absurd (toList_inj' h) h5)

set_option maxRecDepth 100000 in set_option maxHeartbeats 1600000 in
theorem vtells_any (ty n : Int) (x y : Nat) (s : ByteArray) (ty' n' : Int) (x' y' : Nat) (s' : ByteArray) (w : World) (hs : s.size ≤ 9223372036854775807) :
    Calls Try.prog 7 #[.agg #[.int .u8 ty, .int .i64 n, .int .u64 x, .int .u64 y, .string s], .agg #[.int .u8 ty', .int .i64 n', .int .u64 x', .int .u64 y', .string s']] w fun e w' => e = .returned (.bool true) ∧ Ext w w' := by
  have HO := Hid.mk' (fun w => vown_any ty n x y s w)
  have HO' := Hid.mk' (fun w => vown_any ty' n' x' y' s' w)
  simp only [Int.toNat_natCast] at HO HO'
  have HR := Hid.mk' (fun w => vright_any ty n x y s w hs)
  have HRR := Hid.mk' (fun w => rright_any ty n x y s w hs)
  obtain ⟨R, hR⟩ : ∃ R, R = rightV ty n x y s := ⟨_, rfl⟩
  rw [← hR] at HR HRR
  obtain ⟨S, hS⟩ : ∃ S, S = sameB ty n x y s ty' n' x' y' s' := ⟨_, rfl⟩
  have HSa := Hid.mk' (fun w => vsame_any ty n x y s ty' n' x' y' s' w)
  rw [← hS] at HSa
  have hEq := fun w => eq_val ty n x y s ty' n' x' y' s' w
  rw [← hS] at hEq
  clear hS hR
  go_enter Try.func7, Try.ntmps7
  go_upto_region 4 with (first
    | (go_at_call 19; refine (vof_any x y _).mono ?_; rintro e w1 ⟨rfl, rfl⟩; simp only [Int.toNat_natCast])
    | (go_at_call 30; refine (vbits_any x y _).mono ?_; rintro e w1 ⟨rfl, rfl⟩))
  all_goals try (go_ret; exact ⟨rfl, by (repeat (with_reducible (first | exact Ext.refl _ | assumption | exact held_left (by assumption) | apply Ext.drewN | apply Ext.drew | apply Ext.alloc | (refine Ext.setCell ?_ (by first | (simp; done) | (simp; omega) | omega) _) | (refine Ext.trans ?_ (by assumption)) | (refine Ext.trans ?_ (held_left (by assumption))))))⟩)
  go_region_held3 (fun w' => Ext ((w.alloc (.cells #[.int .u8 ty, .int .i64 n, .int .u64 x, .int .u64 y, .string s] 42)).alloc (.cells #[.int .u8 ty', .int .i64 n', .int .u64 x', .int .u64 y', .string s'] 42)) w' ∧ (∀ b o, b < ((w.alloc (.cells #[.int .u8 ty, .int .i64 n, .int .u64 x, .int .u64 y, .string s] 42)).alloc (.cells #[.int .u8 ty', .int .i64 n', .int .u64 x', .int .u64 y', .string s'] 42)).heap.size → w'.cell? ⟨b, o, none⟩ = ((w.alloc (.cells #[.int .u8 ty, .int .i64 n, .int .u64 x, .int .u64 y, .string s] 42)).alloc (.cells #[.int .u8 ty', .int .i64 n', .int .u64 x', .int .u64 y', .string s'] 42)).cell? ⟨b, o, none⟩) ∧ (∀ b o, b < ((w.alloc (.cells #[.int .u8 ty, .int .i64 n, .int .u64 x, .int .u64 y, .string s] 42)).alloc (.cells #[.int .u8 ty', .int .i64 n', .int .u64 x', .int .u64 y', .string s'] 42)).heap.size → w'.frozen? ⟨b, o, none⟩ = ((w.alloc (.cells #[.int .u8 ty, .int .i64 n, .int .u64 x, .int .u64 y, .string s] 42)).alloc (.cells #[.int .u8 ty', .int .i64 n', .int .u64 x', .int .u64 y', .string s'] 42)).frozen? ⟨b, o, none⟩)) ((exact held_of (by (repeat (with_reducible (first | exact Ext.refl _ | assumption | exact held_left (by assumption) | apply Ext.drewN | apply Ext.drew | apply Ext.alloc | (refine Ext.setCell ?_ (by first | (simp; done) | (simp; omega) | omega) _) | (refine Ext.trans ?_ (by assumption)) | (refine Ext.trans ?_ (held_left (by assumption)))))))))
    (first
      | (go_at_call_of 32 (Value.agg #[.int .u8 ty, .int .i64 n, .int .u64 x, .int .u64 y, .string s]); refine (HO.out _).mono ?_; rintro e w2 ⟨rfl, hb2⟩)
      | (go_at_call_of 32 (Value.agg #[.int .u8 ty', .int .i64 n', .int .u64 x', .int .u64 y', .string s']); refine (HO'.out _).mono ?_; rintro e w3 ⟨rfl, hb3⟩)
      | (go_at_call 31; refine (HR.out _).mono ?_; rintro e w4 ⟨rfl, hb4⟩)
      | (go_at_call 33; refine (HRR.out _).mono ?_; rintro e w5 ⟨rfl, hb5⟩)
      | (go_at_call 34; refine (HSa.out _).mono ?_; rintro e w6 ⟨rfl, hb6⟩)
      | (go_at_call 35; refine (awake06_any _).mono ?_; rintro e w7 ⟨rfl, hb7⟩))
  go_wp2
  go_ret
  exact ⟨rfl, by (repeat (with_reducible (first | exact Ext.refl _ | assumption | exact held_left (by assumption) | apply Ext.drewN | apply Ext.drew | apply Ext.alloc | (refine Ext.setCell ?_ (by first | (simp; done) | (simp; omega) | omega) _) | (refine Ext.trans ?_ (by assumption)) | (refine Ext.trans ?_ (held_left (by assumption))))))⟩

end Go.Proofs.Ytkofnmbkfaebcaa
