/-
The walk of CellTells.
-/
import Derived.Test.YtmpnopjkpamhaaaCBackP
import Derived.Test.YtmpnopjkpamhaaaRefCell
import Derived.Test.YtmpnopjkpamhaaaFive
import Derived.Test.YtmpnopjkpamhaaaAwake07
namespace Go.Proofs.Ytmpnopjkpamhaaa
open Go.RowKit

theorem eq_cell_same (k ty n : Int) (x y : Nat) (s : ByteArray) (w : World) :
    (binOp .eql 26 (.agg #[.int .u8 k, .int .u8 ty, .int .i64 n, .int .u64 x, .int .u64 y, .string s]) (.agg #[.int .u8 k, .int .u8 ty, .int .i64 n, .int .u64 x, .int .u64 y, .string s])).run Try.prog w = .ok (.bool true) w := by
  simp [go_sem]

set_option maxRecDepth 100000 in set_option maxHeartbeats 20000000 in
theorem ctells_any (k ty n : Int) (x y : Nat) (s : ByteArray) (k' ty' n' : Int) (x' y' : Nat) (s' : ByteArray) (kind : Int) (w : World) (hk0 : 0 ≤ k)
    (hs : s.size ≤ 9223372036854775807) (hs' : s'.size ≤ 9223372036854775807) :
    Calls Try.prog 5 #[.agg #[.int .u8 k, .int .u8 ty, .int .i64 n, .int .u64 x, .int .u64 y, .string s], .agg #[.int .u8 k', .int .u8 ty', .int .i64 n', .int .u64 x', .int .u64 y', .string s'], .int .u8 kind] w fun e w' => e = .returned (.bool true) ∧ Ext w w' := by
  have HO := Hid.mk' (fun w => cown_any k ty n x y s w)
  have HO' := Hid.mk' (fun w => cown_any k' ty' n' x' y' s' w)
  simp only [Int.toNat_natCast] at HO HO'
  go_enter Try.func5, Try.ntmps5
  go_upto_region 3 with (fail)
  all_goals try (go_ret; exact ⟨rfl, by (repeat (with_reducible (first | exact Ext.refl _ | assumption | exact held_left (by assumption) | apply Ext.drewN | apply Ext.drew | apply Ext.alloc | (refine Ext.setCell ?_ (by first | (simp; done) | (simp; omega) | omega) _) | (refine Ext.trans ?_ (by assumption)) | (refine Ext.trans ?_ (held_left (by assumption))))))⟩)
  go_cut [7, 8] (fun p q wx => ∃ g h, p = .pointer (some ⟨g, 0, none⟩) ∧ q = .pointer (some ⟨h, 0, none⟩) ∧ Hid (Blk wx g #[.int .u8 k, .int .u8 ty, .int .i64 n, .complex .f64 x y, .string s] 37) ∧ Hid (Blk wx h #[.int .u8 k', .int .u8 ty', .int .i64 n', .complex .f64 x' y', .string s'] 37) ∧ Hid (Ext ((w.alloc (.cells #[.int .u8 k, .int .u8 ty, .int .i64 n, .int .u64 x, .int .u64 y, .string s] 26)).alloc (.cells #[.int .u8 k', .int .u8 ty', .int .i64 n', .int .u64 x', .int .u64 y', .string s'] 26)) wx))
  case first =>
    skip
    · skip
      have HS0 : Hid (∀ w', Ext ((w.alloc (.cells #[.int .u8 k, .int .u8 ty, .int .i64 n, .int .u64 x, .int .u64 y, .string s] 26)).alloc (.cells #[.int .u8 k', .int .u8 ty', .int .i64 n', .int .u64 x', .int .u64 y', .string s'] 26)) w' → Ext ((w.alloc (.cells #[.int .u8 k, .int .u8 ty, .int .i64 n, .int .u64 x, .int .u64 y, .string s] 26)).alloc (.cells #[.int .u8 k', .int .u8 ty', .int .i64 n', .int .u64 x', .int .u64 y', .string s'] 26)) w' ∧ (∀ o, w'.cell? ⟨w.heap.size, o, none⟩ = (#[.int .u8 k, .int .u8 ty, .int .i64 n, .int .u64 x, .int .u64 y, .string s] : Array Value)[o]?) ∧ (∀ o, w'.cell? ⟨w.heap.size + 1, o, none⟩ = (#[.int .u8 k', .int .u8 ty', .int .i64 n', .int .u64 x', .int .u64 y', .string s'] : Array Value)[o]?)) := Hid.mk' (fun w' h => ⟨h, (((Blk.new w _ _).alloc _).ext h).cell, ((Blk.new' _ _ (by simp)).ext h).cell⟩)
      go_region_held3 (fun w' => Ext ((w.alloc (.cells #[.int .u8 k, .int .u8 ty, .int .i64 n, .int .u64 x, .int .u64 y, .string s] 26)).alloc (.cells #[.int .u8 k', .int .u8 ty', .int .i64 n', .int .u64 x', .int .u64 y', .string s'] 26)) w' ∧ (∀ o, w'.cell? ⟨w.heap.size, o, none⟩ = (#[.int .u8 k, .int .u8 ty, .int .i64 n, .int .u64 x, .int .u64 y, .string s] : Array Value)[o]?) ∧ (∀ o, w'.cell? ⟨w.heap.size + 1, o, none⟩ = (#[.int .u8 k', .int .u8 ty', .int .i64 n', .int .u64 x', .int .u64 y', .string s'] : Array Value)[o]?)) (exact HS0.out _ (by (repeat (with_reducible (first | exact Ext.refl _ | assumption | exact held_left (by assumption) | apply Ext.drewN | apply Ext.drew | apply Ext.alloc | (refine Ext.setCell ?_ (by first | (simp; done) | (simp; omega) | omega) _) | (refine Ext.trans ?_ (by assumption)) | (refine Ext.trans ?_ (held_left (by assumption))))))))
        (first
          | (go_at_call_of 9 (Value.agg #[.int .u8 k, .int .u8 ty, .int .i64 n, .int .u64 x, .int .u64 y, .string s]); refine (HO.out _).mono ?_; rintro e w1 ⟨rfl, hb1⟩; obtain ⟨hc1, hf1⟩ := hb1.cells; have hz1 := hb1.size; (try simp at hz1); (try have q10 : w.heap.size < w1.heap.size := (by omega)); (try have q11 : w.heap.size + 1 < w1.heap.size := (by omega)); (try have q12 : w.heap.size + 1 + 1 < w1.heap.size := (by omega)); (try have q13 : w.heap.size + 1 + 1 + 1 < w1.heap.size := (by omega)))
          | (go_at_call_of 9 (Value.agg #[.int .u8 k', .int .u8 ty', .int .i64 n', .int .u64 x', .int .u64 y', .string s']); refine (HO'.out _).mono ?_; rintro e w2 ⟨rfl, hb2⟩; obtain ⟨hc2, hf2⟩ := hb2.cells; have hz2 := hb2.size; (try simp at hz2); (try have q20 : w.heap.size < w2.heap.size := (by omega)); (try have q21 : w.heap.size + 1 < w2.heap.size := (by omega)); (try have q22 : w.heap.size + 1 + 1 < w2.heap.size := (by omega)); (try have q23 : w.heap.size + 1 + 1 + 1 < w2.heap.size := (by omega)); (try have q24 : w1.heap.size < w2.heap.size := (by omega)); (try have q25 : w1.heap.size + 1 < w2.heap.size := (by omega))))
      all_goals
        go_wp2
        go_meet
        case rel =>
          refine ⟨_, _, rfl, rfl, Hid.mk' ?_, Hid.mk' ?_, Hid.mk' ?_⟩
          · repeat (with_reducible (first | exact Blk.new _ _ _ | (refine Blk.new' _ _ ?_; (simp; done)) | refine Blk.other ?_ _ _ (by first | (simp; done) | (simp; omega) | omega) | apply Blk.five | refine Blk.alloc ?_ _ | refine Blk.drew ?_ | refine Blk.ext ?_ hb2 | refine Blk.ext ?_ hb1))
          · repeat (with_reducible (first | exact Blk.new _ _ _ | (refine Blk.new' _ _ ?_; (simp; done)) | refine Blk.other ?_ _ _ (by first | (simp; done) | (simp; omega) | omega) | apply Blk.five | refine Blk.alloc ?_ _ | refine Blk.drew ?_ | refine Blk.ext ?_ hb2 | refine Blk.ext ?_ hb1))
          · (repeat (with_reducible (first | exact Ext.refl _ | assumption | exact held_left (by assumption) | apply Ext.drewN | apply Ext.drew | apply Ext.alloc | (refine Ext.setCell ?_ (by first | (simp; done) | (simp; omega) | omega) _) | (refine Ext.trans ?_ (by assumption)) | (refine Ext.trans ?_ (held_left (by assumption))))))
  case rest =>
    as_aux_lemma =>
      obtain ⟨g, h, rfl, rfl, Hg, Hh, HE0⟩ := hcut
      have HR := Hid.mk' (fun w => cright_any k ty n x y s kind w hk0 hs)
      have HRR := Hid.mk' (fun w => rcright_any k ty n x y s kind w hk0 hs)
      have HL := Hid.mk' (fun w => clarge_any k ty n x y s w)
      have HLR := Hid.mk' (fun w => rclarge_any k ty n x y s w)
      have HA := Hid.mk' (fun w => calike_any k ty n x y s k' ty' n' x' y' s' w)
      have hEq := fun w => eq_cell k ty n x y s k' ty' n' x' y' s' w
      have HOF := Hid.mk' (fun w => cof_any ty n x y s w)
      have HBK := Hid.mk' (fun w => cback_any 2 ty n x y s w)
      have hEq2 := fun w => eq_cell_same 2 ty n x y s w
      generalize rightC k ty n x y s kind = R at HR HRR
      generalize largeB k ty s = Lb at HL HLR
      generalize alikeB k ty n x y s k' ty' n' x' y' s' = Ab at HA hEq
      go_wp2_with fail
      have HS : Hid (∀ w', Ext wc w' → Ext wc w' ∧ (∀ o, w'.cell? ⟨g, o, none⟩ = (#[.int .u8 k, .int .u8 ty, .int .i64 n, .complex .f64 x y, .string s] : Array Value)[o]?) ∧ (∀ o, w'.cell? ⟨h, o, none⟩ = (#[.int .u8 k', .int .u8 ty', .int .i64 n', .complex .f64 x' y', .string s'] : Array Value)[o]?) ∧ (∀ o, w'.cell? ⟨w.heap.size, o, none⟩ = (#[.int .u8 k, .int .u8 ty, .int .i64 n, .int .u64 x, .int .u64 y, .string s] : Array Value)[o]?) ∧ (∀ o, w'.cell? ⟨w.heap.size + 1, o, none⟩ = (#[.int .u8 k', .int .u8 ty', .int .i64 n', .int .u64 x', .int .u64 y', .string s'] : Array Value)[o]?)) := Hid.mk' (fun w' he => ⟨he, (Hg.out.ext he).cell, (Hh.out.ext he).cell, (((Blk.new w _ _).alloc _).ext (HE0.out.trans he)).cell, ((Blk.new' _ _ (by simp)).ext (HE0.out.trans he)).cell⟩)
      go_region_held3 (fun w' => Ext wc w' ∧ (∀ o, w'.cell? ⟨g, o, none⟩ = (#[.int .u8 k, .int .u8 ty, .int .i64 n, .complex .f64 x y, .string s] : Array Value)[o]?) ∧ (∀ o, w'.cell? ⟨h, o, none⟩ = (#[.int .u8 k', .int .u8 ty', .int .i64 n', .complex .f64 x' y', .string s'] : Array Value)[o]?) ∧ (∀ o, w'.cell? ⟨w.heap.size, o, none⟩ = (#[.int .u8 k, .int .u8 ty, .int .i64 n, .int .u64 x, .int .u64 y, .string s] : Array Value)[o]?) ∧ (∀ o, w'.cell? ⟨w.heap.size + 1, o, none⟩ = (#[.int .u8 k', .int .u8 ty', .int .i64 n', .int .u64 x', .int .u64 y', .string s'] : Array Value)[o]?)) (exact HS.out _ (by (repeat (with_reducible (first | exact Ext.refl _ | assumption | exact held_left (by assumption) | apply Ext.drewN | apply Ext.drew | apply Ext.alloc | (refine Ext.setCell ?_ (by first | (simp; done) | (simp; omega) | omega) _) | (refine Ext.trans ?_ (by assumption)) | (refine Ext.trans ?_ (held_left (by assumption))))))))
        (first
          | (go_at_call 13; refine (HR.out _).mono ?_; rintro e w3 ⟨rfl, hb3⟩)
          | (go_at_call 12; refine (HRR.out _).mono ?_; rintro e w4 ⟨rfl, hb4⟩)
          | (go_at_call 14; refine (HL.out _).mono ?_; rintro e w5 ⟨rfl, hb5⟩)
          | (go_at_call 15; refine (HLR.out _).mono ?_; rintro e w6 ⟨rfl, hb6⟩)
          | (go_at_call 16; refine (HA.out _).mono ?_; rintro e w7 ⟨rfl, hb7⟩)
          | (go_at_call 18; refine (HOF.out _).mono ?_; rintro e w8 ⟨rfl, hb8⟩)
          | (go_at_call 17; refine (HBK.out _).mono ?_; rintro e w9 ⟨rfl, hb9⟩)
          | (go_at_call 11; refine (awake07_any _).mono ?_; rintro e w10 ⟨rfl, hb10⟩))
      all_goals
        go_wp2
        go_ret
        exact ⟨rfl, ((((Ext.refl w).alloc _).alloc _).trans HE0.out).trans (by (repeat (with_reducible (first | exact Ext.refl _ | assumption | exact held_left (by assumption) | apply Ext.drewN | apply Ext.drew | apply Ext.alloc | (refine Ext.setCell ?_ (by first | (simp; done) | (simp; omega) | omega) _) | (refine Ext.trans ?_ (by assumption)) | (refine Ext.trans ?_ (held_left (by assumption)))))))⟩

end Go.Proofs.Ytmpnopjkpamhaaa
