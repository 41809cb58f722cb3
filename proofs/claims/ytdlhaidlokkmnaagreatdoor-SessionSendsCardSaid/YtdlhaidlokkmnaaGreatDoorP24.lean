/-
The program's own of a message: one kind.
-/
import Derived.Test.YtdlhaidlokkmnaaGreatDoorP23
set_option maxRecDepth 100000
set_option maxHeartbeats 16000000
namespace Go.Proofs.YtdlhaidlokkmnaaGreatDoor
open Go.RowKit
theorem mown_B (xd st n oid ver : Int) (nm : ByteArray) (id : Int) (cols : List Col) (ca : Option Addr) (cc : Nat) (kd ao av old : Int) (lb la : List K) (rs : List Rf) (ba aa ra : Option Addr) (bc ac rc : Nat) (fl : Int) (w : World) :
    Calls Tryz.prog 67 #[.agg #[.int .u8 66, .int .u32 xd, .int .u64 st, .int .u32 n, .int .u32 oid, .int .u32 ver, .string nm, .int .u8 id, .slice ca cols.length cc, .int .u8 kd, .int .u32 ao, .int .u32 av, .int .u8 old, .slice ba lb.length bc, .slice aa la.length ac, .slice ra rs.length rc, .int .u8 fl]] w fun e w' => e = .returned (.agg #[.int .u8 66, .int .u32 xd, .int .u64 st, .int .u32 0, .int .u32 0, .int .u32 0, .string ⟨#[]⟩, .int .u8 0, .slice none 0 0, .int .u8 0, .int .u32 0, .int .u32 0, .int .u8 0, .slice none 0 0, .slice none 0 0, .slice none 0 0, .int .u8 0]) ∧ Ext w w' := by
  have HX := Hm (Blk.new w #[.int .u8 66, .int .u32 xd, .int .u64 st, .int .u32 n, .int .u32 oid, .int .u32 ver, .string nm, .int .u8 id, .slice ca cols.length cc, .int .u8 kd, .int .u32 ao, .int .u32 av, .int .u8 old, .slice ba lb.length bc, .slice aa la.length ac, .slice ra rs.length rc, .int .u8 fl] 76)
  have HZ := Hm (Blk.new' (w := w.alloc (.cells #[.int .u8 66, .int .u32 xd, .int .u64 st, .int .u32 n, .int .u32 oid, .int .u32 ver, .string nm, .int .u8 id, .slice ca cols.length cc, .int .u8 kd, .int .u32 ao, .int .u32 av, .int .u8 old, .slice ba lb.length bc, .slice aa la.length ac, .slice ra rs.length rc, .int .u8 fl] 76)) (b := w.heap.size + 1) #[.int .u8 0, .int .u32 0, .int .u64 0, .int .u32 0, .int .u32 0, .int .u32 0, .string ⟨#[]⟩, .int .u8 0, .slice none 0 0, .int .u8 0, .int .u32 0, .int .u32 0, .int .u8 0, .slice none 0 0, .slice none 0 0, .slice none 0 0, .int .u8 0] 76 (by simp))
  have HK := Hm (Blk.new' (w := (w.alloc (.cells #[.int .u8 66, .int .u32 xd, .int .u64 st, .int .u32 n, .int .u32 oid, .int .u32 ver, .string nm, .int .u8 id, .slice ca cols.length cc, .int .u8 kd, .int .u32 ao, .int .u32 av, .int .u8 old, .slice ba lb.length bc, .slice aa la.length ac, .slice ra rs.length rc, .int .u8 fl] 76)).alloc (.cells #[.int .u8 0, .int .u32 0, .int .u64 0, .int .u32 0, .int .u32 0, .int .u32 0, .string ⟨#[]⟩, .int .u8 0, .slice none 0 0, .int .u8 0, .int .u32 0, .int .u32 0, .int .u8 0, .slice none 0 0, .slice none 0 0, .slice none 0 0, .int .u8 0] 76)) (b := w.heap.size + 1 + 1) #[.int .u8 66, .int .u32 0, .int .u64 0, .int .u32 0, .int .u32 0, .int .u32 0, .string ⟨#[]⟩, .int .u8 0, .slice none 0 0, .int .u8 0, .int .u32 0, .int .u32 0, .int .u8 0, .slice none 0 0, .slice none 0 0, .slice none 0 0, .int .u8 0] 76 (by simp))
  have HXZ := Hm (HX.out.alloc (.cells #[.int .u8 0, .int .u32 0, .int .u64 0, .int .u32 0, .int .u32 0, .int .u32 0, .string ⟨#[]⟩, .int .u8 0, .slice none 0 0, .int .u8 0, .int .u32 0, .int .u32 0, .int .u8 0, .slice none 0 0, .slice none 0 0, .slice none 0 0, .int .u8 0] 76))
  obtain ⟨w3, hw3⟩ : ∃ W, W = ((w.alloc (.cells #[.int .u8 66, .int .u32 xd, .int .u64 st, .int .u32 n, .int .u32 oid, .int .u32 ver, .string nm, .int .u8 id, .slice ca cols.length cc, .int .u8 kd, .int .u32 ao, .int .u32 av, .int .u8 old, .slice ba lb.length bc, .slice aa la.length ac, .slice ra rs.length rc, .int .u8 fl] 76)).alloc (.cells #[.int .u8 0, .int .u32 0, .int .u64 0, .int .u32 0, .int .u32 0, .int .u32 0, .string ⟨#[]⟩, .int .u8 0, .slice none 0 0, .int .u8 0, .int .u32 0, .int .u32 0, .int .u8 0, .slice none 0 0, .slice none 0 0, .slice none 0 0, .int .u8 0] 76)).alloc (.cells #[.int .u8 66, .int .u32 0, .int .u64 0, .int .u32 0, .int .u32 0, .int .u32 0, .string ⟨#[]⟩, .int .u8 0, .slice none 0 0, .int .u8 0, .int .u32 0, .int .u32 0, .int .u8 0, .slice none 0 0, .slice none 0 0, .slice none 0 0, .int .u8 0] 76) := ⟨_, rfl⟩
  have HE3 := Hm (show Ext w w3 by rw [hw3]; exact (((Ext.refl w).alloc _).alloc _).alloc _)
  have HX3 := Hm (show Blk w3 w.heap.size #[.int .u8 66, .int .u32 xd, .int .u64 st, .int .u32 n, .int .u32 oid, .int .u32 ver, .string nm, .int .u8 id, .slice ca cols.length cc, .int .u8 kd, .int .u32 ao, .int .u32 av, .int .u8 old, .slice ba lb.length bc, .slice aa la.length ac, .slice ra rs.length rc, .int .u8 fl] 76 by rw [hw3]; exact HXZ.out.alloc _)
  have HZ3 := Hm (show Blk w3 (w.heap.size + 1) #[.int .u8 0, .int .u32 0, .int .u64 0, .int .u32 0, .int .u32 0, .int .u32 0, .string ⟨#[]⟩, .int .u8 0, .slice none 0 0, .int .u8 0, .int .u32 0, .int .u32 0, .int .u8 0, .slice none 0 0, .slice none 0 0, .slice none 0 0, .int .u8 0] 76 by rw [hw3]; exact HZ.out.alloc _)
  have HK3 := Hm (show Blk w3 (w.heap.size + 1 + 1) #[.int .u8 66, .int .u32 0, .int .u64 0, .int .u32 0, .int .u32 0, .int .u32 0, .string ⟨#[]⟩, .int .u8 0, .slice none 0 0, .int .u8 0, .int .u32 0, .int .u32 0, .int .u8 0, .slice none 0 0, .slice none 0 0, .slice none 0 0, .int .u8 0] 76 by rw [hw3]; exact HK.out)
  have HW3 := Hm hw3
  clear HX HZ HK HXZ hw3
  go_enter Tryz.func67, Tryz.ntmps67
  go_upto_region 5 with (fail)
  rw [← HW3.out]
  have hA0 : Hid ((fun w' => (∀ j, w'.cell? ⟨w.heap.size, j, none⟩ = (#[.int .u8 66, .int .u32 xd, .int .u64 st, .int .u32 n, .int .u32 oid, .int .u32 ver, .string nm, .int .u8 id, .slice ca cols.length cc, .int .u8 kd, .int .u32 ao, .int .u32 av, .int .u8 old, .slice ba lb.length bc, .slice aa la.length ac, .slice ra rs.length rc, .int .u8 fl] : Array Value)[j]?) ∧ w.heap.size < w'.heap.size) w3.drew) := Hm ⟨HX3.out.cell, HX3.out.lt⟩
  refine wp_region_head 6 (fun w' => (∀ j, w'.cell? ⟨w.heap.size, j, none⟩ = (#[.int .u8 66, .int .u32 xd, .int .u64 st, .int .u32 n, .int .u32 oid, .int .u32 ver, .string nm, .int .u8 id, .slice ca cols.length cc, .int .u8 kd, .int .u32 ao, .int .u32 av, .int .u8 old, .slice ba lb.length bc, .slice aa la.length ac, .slice ra rs.length rc, .int .u8 fl] : Array Value)[j]?) ∧ w.heap.size < w'.heap.size) (by kernel_rfl) (by decide) ?_
  (refine wpHd_take (i := 0) (v := ?_) rfl (by kernel_rfl) (by kernel_rfl) (by kernel_rfl) (fun _ _ _ h => h) (Or.inl ⟨by rfl, ?_⟩) hA0.out ?_; rotate_left 1; · (intro w' hS'; (try dsimp only at hS'); go_split_ands; go_simp; try with_reducible rfl))
  (refine wpHd_take (i := 1) (v := ?_) rfl (by kernel_rfl) (by kernel_rfl) (by kernel_rfl) (fun _ _ _ h => h) (Or.inl ⟨by rfl, ?_⟩) hA0.out ?_; rotate_left 1; · (intro w' hS'; (try dsimp only at hS'); go_split_ands; go_simp; try with_reducible rfl))
  (refine wpHd_take (i := 2) (v := ?_) rfl (by kernel_rfl) (by kernel_rfl) (by kernel_rfl) (fun _ _ _ h => h) (Or.inl ⟨by rfl, ?_⟩) hA0.out ?_; rotate_left 1; · (intro w' hS'; (try dsimp only at hS'); go_split_ands; go_simp; try with_reducible rfl))
  (refine wpHd_take (i := 3) (v := ?_) rfl (by kernel_rfl) (by kernel_rfl) (by kernel_rfl) (fun _ _ _ h => h) (Or.inl ⟨by rfl, ?_⟩) hA0.out ?_; rotate_left 1; · (intro w' hS'; (try dsimp only at hS'); go_split_ands; go_simp; try with_reducible rfl))
  (refine wpHd_take (i := 4) (v := ?_) rfl (by kernel_rfl) (by kernel_rfl) (by kernel_rfl) (fun _ _ _ h => h) (Or.inl ⟨by rfl, ?_⟩) hA0.out ?_; rotate_left 1; · (intro w' hS'; (try dsimp only at hS'); go_split_ands; go_simp; try with_reducible rfl))
  have gK := HK3.out.cell
  have gKf := HK3.out.frozen
  have zK := HK3.out.lt
  refine wpHd_one (i := 5) rfl rfl (by kernel_rfl) (fun KK hK => ?_)
  go_simp
  have HS := Hm (Kp.set (S := fun x => x = w.heap.size + 1 + 1) (w := w3) ⟨w.heap.size + 1 + 1, 1, none⟩ (.int .u32 xd) rfl)
  have HX4 := Hm (Blk.drew (HX3.out.kp HS.out (show ¬ w.heap.size = w.heap.size + 1 + 1 by omega)))
  have HK4 := Hm (Blk.drew (HK3.out.set 1 (.int .u32 xd)))
  simp only [List.setIfInBounds_toArray, List.set_cons_zero, List.set_cons_succ] at HK4
  refine hK.out _ _ ⟨HX4.out.cell, HX4.out.lt⟩ (fun hA => ?_)
  clear hK KK hA hA0 gK gKf zK
  have HZ4 := Hm (Blk.drew (HZ3.out.kp HS.out (show ¬ w.heap.size + 1 = w.heap.size + 1 + 1 by omega)))
  have HE4 := Hm (show Ext w ((w3.setCell ⟨w.heap.size + 1 + 1, 1, none⟩ (.int .u32 xd)).drew) by have := HE3.out; exact eX)
  obtain ⟨w4, hw4⟩ : ∃ W, W = (w3.setCell ⟨w.heap.size + 1 + 1, 1, none⟩ (.int .u32 xd)).drew := ⟨_, rfl⟩
  rw [← hw4] at HK4 HZ4 HE4 ⊢
  clear hw4 HX4 HX3 HW3 HE3 HS HZ3 HK3
  have gK := HK4.out.cell
  have gKf := HK4.out.frozen
  have zK := HK4.out.lt
  refine wpHd_tail (by kernel_rfl) ?_
  simp only [List.drop_succ_cons, List.drop_zero]
  go_upto_region 10 with (fail)
  have HK5 := Hm (HK4.out.set 2 (.int .u64 st))
  simp only [List.setIfInBounds_toArray, List.set_cons_zero, List.set_cons_succ] at HK5
  have HS5 := Hm (Kp.set (S := fun x => x = w.heap.size + 1 + 1) (w := w4) ⟨w.heap.size + 1 + 1, 2, none⟩ (.int .u64 st) rfl)
  have HZ5 := Hm (HZ4.out.kp HS5.out (show ¬ w.heap.size + 1 = w.heap.size + 1 + 1 by omega))
  have HE5 := Hm (show Ext w (w4.setCell ⟨w.heap.size + 1 + 1, 2, none⟩ (.int .u64 st)) from Ext.setCell HE4.out (by dsimp only; omega) _)
  clear gK gKf zK HK4 HZ4 HE4 HS5
  obtain ⟨w5, hw5⟩ : ∃ W, W = w4.setCell ⟨w.heap.size + 1 + 1, 2, none⟩ (.int .u64 st) := ⟨_, rfl⟩
  rw [← hw5] at HK5 HZ5 HE5 ⊢
  clear hw5
  have HS17 := Hm (show (Instr.storeAt 76 (.pointer (some ⟨w.heap.size + 1, 0, none⟩)) (.agg #[.int .u8 66, .int .u32 xd, .int .u64 st, .int .u32 0, .int .u32 0, .int .u32 0, .string ⟨#[]⟩, .int .u8 0, .slice none 0 0, .int .u8 0, .int .u32 0, .int .u32 0, .int .u8 0, .slice none 0 0, .slice none 0 0, .slice none 0 0, .int .u8 0])).run Tryz.prog w5 = .ok () _ from store17 HZ5.out)
  as_aux_lemma =>
    go_wp2_with (first
      | (refine wpList_load_to rfl 76 (.tmp 3) rfl _ _ ?e1 (load17 HK5.out) ?_; (case e1 => go_simp))
      | (refine wpList_store_to rfl 76 (.tmp 2) (.tmp 33) rfl _ _ ?e1 ?e2 HS17.out ?_; (case e1 => go_simp); (case e2 => go_simp)))
    as_aux_lemma =>
      refine bodyPost_ret (res_own (Blk.c17 HZ5.out) rfl) rfl ⟨rfl, Ext.c17 HE5.out (by omega)⟩
theorem mown_C (xd st n oid ver : Int) (nm : ByteArray) (id : Int) (cols : List Col) (ca : Option Addr) (cc : Nat) (kd ao av old : Int) (lb la : List K) (rs : List Rf) (ba aa ra : Option Addr) (bc ac rc : Nat) (fl : Int) (w : World) :
    Calls Tryz.prog 67 #[.agg #[.int .u8 67, .int .u32 xd, .int .u64 st, .int .u32 n, .int .u32 oid, .int .u32 ver, .string nm, .int .u8 id, .slice ca cols.length cc, .int .u8 kd, .int .u32 ao, .int .u32 av, .int .u8 old, .slice ba lb.length bc, .slice aa la.length ac, .slice ra rs.length rc, .int .u8 fl]] w fun e w' => e = .returned (.agg #[.int .u8 67, .int .u32 xd, .int .u64 0, .int .u32 n, .int .u32 0, .int .u32 0, .string ⟨#[]⟩, .int .u8 0, .slice none 0 0, .int .u8 0, .int .u32 0, .int .u32 0, .int .u8 0, .slice none 0 0, .slice none 0 0, .slice none 0 0, .int .u8 0]) ∧ Ext w w' := by
  have HX := Hm (Blk.new w #[.int .u8 67, .int .u32 xd, .int .u64 st, .int .u32 n, .int .u32 oid, .int .u32 ver, .string nm, .int .u8 id, .slice ca cols.length cc, .int .u8 kd, .int .u32 ao, .int .u32 av, .int .u8 old, .slice ba lb.length bc, .slice aa la.length ac, .slice ra rs.length rc, .int .u8 fl] 76)
  have HZ := Hm (Blk.new' (w := w.alloc (.cells #[.int .u8 67, .int .u32 xd, .int .u64 st, .int .u32 n, .int .u32 oid, .int .u32 ver, .string nm, .int .u8 id, .slice ca cols.length cc, .int .u8 kd, .int .u32 ao, .int .u32 av, .int .u8 old, .slice ba lb.length bc, .slice aa la.length ac, .slice ra rs.length rc, .int .u8 fl] 76)) (b := w.heap.size + 1) #[.int .u8 0, .int .u32 0, .int .u64 0, .int .u32 0, .int .u32 0, .int .u32 0, .string ⟨#[]⟩, .int .u8 0, .slice none 0 0, .int .u8 0, .int .u32 0, .int .u32 0, .int .u8 0, .slice none 0 0, .slice none 0 0, .slice none 0 0, .int .u8 0] 76 (by simp))
  have HK := Hm (Blk.new' (w := (w.alloc (.cells #[.int .u8 67, .int .u32 xd, .int .u64 st, .int .u32 n, .int .u32 oid, .int .u32 ver, .string nm, .int .u8 id, .slice ca cols.length cc, .int .u8 kd, .int .u32 ao, .int .u32 av, .int .u8 old, .slice ba lb.length bc, .slice aa la.length ac, .slice ra rs.length rc, .int .u8 fl] 76)).alloc (.cells #[.int .u8 0, .int .u32 0, .int .u64 0, .int .u32 0, .int .u32 0, .int .u32 0, .string ⟨#[]⟩, .int .u8 0, .slice none 0 0, .int .u8 0, .int .u32 0, .int .u32 0, .int .u8 0, .slice none 0 0, .slice none 0 0, .slice none 0 0, .int .u8 0] 76)) (b := w.heap.size + 1 + 1) #[.int .u8 67, .int .u32 0, .int .u64 0, .int .u32 0, .int .u32 0, .int .u32 0, .string ⟨#[]⟩, .int .u8 0, .slice none 0 0, .int .u8 0, .int .u32 0, .int .u32 0, .int .u8 0, .slice none 0 0, .slice none 0 0, .slice none 0 0, .int .u8 0] 76 (by simp))
  have HXZ := Hm (HX.out.alloc (.cells #[.int .u8 0, .int .u32 0, .int .u64 0, .int .u32 0, .int .u32 0, .int .u32 0, .string ⟨#[]⟩, .int .u8 0, .slice none 0 0, .int .u8 0, .int .u32 0, .int .u32 0, .int .u8 0, .slice none 0 0, .slice none 0 0, .slice none 0 0, .int .u8 0] 76))
  obtain ⟨w3, hw3⟩ : ∃ W, W = ((w.alloc (.cells #[.int .u8 67, .int .u32 xd, .int .u64 st, .int .u32 n, .int .u32 oid, .int .u32 ver, .string nm, .int .u8 id, .slice ca cols.length cc, .int .u8 kd, .int .u32 ao, .int .u32 av, .int .u8 old, .slice ba lb.length bc, .slice aa la.length ac, .slice ra rs.length rc, .int .u8 fl] 76)).alloc (.cells #[.int .u8 0, .int .u32 0, .int .u64 0, .int .u32 0, .int .u32 0, .int .u32 0, .string ⟨#[]⟩, .int .u8 0, .slice none 0 0, .int .u8 0, .int .u32 0, .int .u32 0, .int .u8 0, .slice none 0 0, .slice none 0 0, .slice none 0 0, .int .u8 0] 76)).alloc (.cells #[.int .u8 67, .int .u32 0, .int .u64 0, .int .u32 0, .int .u32 0, .int .u32 0, .string ⟨#[]⟩, .int .u8 0, .slice none 0 0, .int .u8 0, .int .u32 0, .int .u32 0, .int .u8 0, .slice none 0 0, .slice none 0 0, .slice none 0 0, .int .u8 0] 76) := ⟨_, rfl⟩
  have HE3 := Hm (show Ext w w3 by rw [hw3]; exact (((Ext.refl w).alloc _).alloc _).alloc _)
  have HX3 := Hm (show Blk w3 w.heap.size #[.int .u8 67, .int .u32 xd, .int .u64 st, .int .u32 n, .int .u32 oid, .int .u32 ver, .string nm, .int .u8 id, .slice ca cols.length cc, .int .u8 kd, .int .u32 ao, .int .u32 av, .int .u8 old, .slice ba lb.length bc, .slice aa la.length ac, .slice ra rs.length rc, .int .u8 fl] 76 by rw [hw3]; exact HXZ.out.alloc _)
  have HZ3 := Hm (show Blk w3 (w.heap.size + 1) #[.int .u8 0, .int .u32 0, .int .u64 0, .int .u32 0, .int .u32 0, .int .u32 0, .string ⟨#[]⟩, .int .u8 0, .slice none 0 0, .int .u8 0, .int .u32 0, .int .u32 0, .int .u8 0, .slice none 0 0, .slice none 0 0, .slice none 0 0, .int .u8 0] 76 by rw [hw3]; exact HZ.out.alloc _)
  have HK3 := Hm (show Blk w3 (w.heap.size + 1 + 1) #[.int .u8 67, .int .u32 0, .int .u64 0, .int .u32 0, .int .u32 0, .int .u32 0, .string ⟨#[]⟩, .int .u8 0, .slice none 0 0, .int .u8 0, .int .u32 0, .int .u32 0, .int .u8 0, .slice none 0 0, .slice none 0 0, .slice none 0 0, .int .u8 0] 76 by rw [hw3]; exact HK.out)
  have HW3 := Hm hw3
  clear HX HZ HK HXZ hw3
  go_enter Tryz.func67, Tryz.ntmps67
  go_upto_region 7 with (fail)
  rw [← HW3.out]
  have hA0 : Hid ((fun w' => (∀ j, w'.cell? ⟨w.heap.size, j, none⟩ = (#[.int .u8 67, .int .u32 xd, .int .u64 st, .int .u32 n, .int .u32 oid, .int .u32 ver, .string nm, .int .u8 id, .slice ca cols.length cc, .int .u8 kd, .int .u32 ao, .int .u32 av, .int .u8 old, .slice ba lb.length bc, .slice aa la.length ac, .slice ra rs.length rc, .int .u8 fl] : Array Value)[j]?) ∧ w.heap.size < w'.heap.size) w3.drew) := Hm ⟨HX3.out.cell, HX3.out.lt⟩
  refine wp_region_head 6 (fun w' => (∀ j, w'.cell? ⟨w.heap.size, j, none⟩ = (#[.int .u8 67, .int .u32 xd, .int .u64 st, .int .u32 n, .int .u32 oid, .int .u32 ver, .string nm, .int .u8 id, .slice ca cols.length cc, .int .u8 kd, .int .u32 ao, .int .u32 av, .int .u8 old, .slice ba lb.length bc, .slice aa la.length ac, .slice ra rs.length rc, .int .u8 fl] : Array Value)[j]?) ∧ w.heap.size < w'.heap.size) (by kernel_rfl) (by decide) ?_
  (refine wpHd_take (i := 0) (v := ?_) rfl (by kernel_rfl) (by kernel_rfl) (by kernel_rfl) (fun _ _ _ h => h) (Or.inl ⟨by rfl, ?_⟩) hA0.out ?_; rotate_left 1; · (intro w' hS'; (try dsimp only at hS'); go_split_ands; go_simp; try with_reducible rfl))
  (refine wpHd_take (i := 1) (v := ?_) rfl (by kernel_rfl) (by kernel_rfl) (by kernel_rfl) (fun _ _ _ h => h) (Or.inl ⟨by rfl, ?_⟩) hA0.out ?_; rotate_left 1; · (intro w' hS'; (try dsimp only at hS'); go_split_ands; go_simp; try with_reducible rfl))
  (refine wpHd_take (i := 2) (v := ?_) rfl (by kernel_rfl) (by kernel_rfl) (by kernel_rfl) (fun _ _ _ h => h) (Or.inl ⟨by rfl, ?_⟩) hA0.out ?_; rotate_left 1; · (intro w' hS'; (try dsimp only at hS'); go_split_ands; go_simp; try with_reducible rfl))
  (refine wpHd_take (i := 3) (v := ?_) rfl (by kernel_rfl) (by kernel_rfl) (by kernel_rfl) (fun _ _ _ h => h) (Or.inl ⟨by rfl, ?_⟩) hA0.out ?_; rotate_left 1; · (intro w' hS'; (try dsimp only at hS'); go_split_ands; go_simp; try with_reducible rfl))
  (refine wpHd_take (i := 4) (v := ?_) rfl (by kernel_rfl) (by kernel_rfl) (by kernel_rfl) (fun _ _ _ h => h) (Or.inl ⟨by rfl, ?_⟩) hA0.out ?_; rotate_left 1; · (intro w' hS'; (try dsimp only at hS'); go_split_ands; go_simp; try with_reducible rfl))
  have gK := HK3.out.cell
  have gKf := HK3.out.frozen
  have zK := HK3.out.lt
  refine wpHd_one (i := 5) rfl rfl (by kernel_rfl) (fun KK hK => ?_)
  go_simp
  have HS := Hm (Kp.set (S := fun x => x = w.heap.size + 1 + 1) (w := w3) ⟨w.heap.size + 1 + 1, 1, none⟩ (.int .u32 xd) rfl)
  have HX4 := Hm (Blk.drew (HX3.out.kp HS.out (show ¬ w.heap.size = w.heap.size + 1 + 1 by omega)))
  have HK4 := Hm (Blk.drew (HK3.out.set 1 (.int .u32 xd)))
  simp only [List.setIfInBounds_toArray, List.set_cons_zero, List.set_cons_succ] at HK4
  refine hK.out _ _ ⟨HX4.out.cell, HX4.out.lt⟩ (fun hA => ?_)
  clear hK KK hA hA0 gK gKf zK
  have HZ4 := Hm (Blk.drew (HZ3.out.kp HS.out (show ¬ w.heap.size + 1 = w.heap.size + 1 + 1 by omega)))
  have HE4 := Hm (show Ext w ((w3.setCell ⟨w.heap.size + 1 + 1, 1, none⟩ (.int .u32 xd)).drew) by have := HE3.out; exact eX)
  obtain ⟨w4, hw4⟩ : ∃ W, W = (w3.setCell ⟨w.heap.size + 1 + 1, 1, none⟩ (.int .u32 xd)).drew := ⟨_, rfl⟩
  rw [← hw4] at HK4 HZ4 HE4 ⊢
  clear hw4 HX4 HX3 HW3 HE3 HS HZ3 HK3
  have gK := HK4.out.cell
  have gKf := HK4.out.frozen
  have zK := HK4.out.lt
  refine wpHd_tail (by kernel_rfl) ?_
  simp only [List.drop_succ_cons, List.drop_zero]
  go_upto_region 10 with (fail)
  have HK5 := Hm (HK4.out.set 3 (.int .u32 n))
  simp only [List.setIfInBounds_toArray, List.set_cons_zero, List.set_cons_succ] at HK5
  have HS5 := Hm (Kp.set (S := fun x => x = w.heap.size + 1 + 1) (w := w4) ⟨w.heap.size + 1 + 1, 3, none⟩ (.int .u32 n) rfl)
  have HZ5 := Hm (HZ4.out.kp HS5.out (show ¬ w.heap.size + 1 = w.heap.size + 1 + 1 by omega))
  have HE5 := Hm (show Ext w (w4.setCell ⟨w.heap.size + 1 + 1, 3, none⟩ (.int .u32 n)) from Ext.setCell HE4.out (by dsimp only; omega) _)
  clear gK gKf zK HK4 HZ4 HE4 HS5
  obtain ⟨w5, hw5⟩ : ∃ W, W = w4.setCell ⟨w.heap.size + 1 + 1, 3, none⟩ (.int .u32 n) := ⟨_, rfl⟩
  rw [← hw5] at HK5 HZ5 HE5 ⊢
  clear hw5
  have HS17 := Hm (show (Instr.storeAt 76 (.pointer (some ⟨w.heap.size + 1, 0, none⟩)) (.agg #[.int .u8 67, .int .u32 xd, .int .u64 0, .int .u32 n, .int .u32 0, .int .u32 0, .string ⟨#[]⟩, .int .u8 0, .slice none 0 0, .int .u8 0, .int .u32 0, .int .u32 0, .int .u8 0, .slice none 0 0, .slice none 0 0, .slice none 0 0, .int .u8 0])).run Tryz.prog w5 = .ok () _ from store17 HZ5.out)
  as_aux_lemma =>
    go_wp2_with (first
      | (refine wpList_load_to rfl 76 (.tmp 3) rfl _ _ ?e1 (load17 HK5.out) ?_; (case e1 => go_simp))
      | (refine wpList_store_to rfl 76 (.tmp 2) (.tmp 33) rfl _ _ ?e1 ?e2 HS17.out ?_; (case e1 => go_simp); (case e2 => go_simp)))
    as_aux_lemma =>
      refine bodyPost_ret (res_own (Blk.c17 HZ5.out) rfl) rfl ⟨rfl, Ext.c17 HE5.out (by omega)⟩
theorem mown_R (xd st n oid ver : Int) (nm : ByteArray) (id : Int) (cols : List Col) (ca : Option Addr) (cc : Nat) (kd ao av old : Int) (lb la : List K) (rs : List Rf) (ba aa ra : Option Addr) (bc ac rc : Nat) (fl : Int) (w : World) :
    Calls Tryz.prog 67 #[.agg #[.int .u8 82, .int .u32 xd, .int .u64 st, .int .u32 n, .int .u32 oid, .int .u32 ver, .string nm, .int .u8 id, .slice ca cols.length cc, .int .u8 kd, .int .u32 ao, .int .u32 av, .int .u8 old, .slice ba lb.length bc, .slice aa la.length ac, .slice ra rs.length rc, .int .u8 fl]] w fun e w' => e = .returned (.agg #[.int .u8 82, .int .u32 0, .int .u64 0, .int .u32 0, .int .u32 oid, .int .u32 ver, .string nm, .int .u8 id, .slice ca cols.length cc, .int .u8 0, .int .u32 0, .int .u32 0, .int .u8 0, .slice none 0 0, .slice none 0 0, .slice none 0 0, .int .u8 0]) ∧ Ext w w' := by
  have HX := Hm (Blk.new w #[.int .u8 82, .int .u32 xd, .int .u64 st, .int .u32 n, .int .u32 oid, .int .u32 ver, .string nm, .int .u8 id, .slice ca cols.length cc, .int .u8 kd, .int .u32 ao, .int .u32 av, .int .u8 old, .slice ba lb.length bc, .slice aa la.length ac, .slice ra rs.length rc, .int .u8 fl] 76)
  have HZ := Hm (Blk.new' (w := w.alloc (.cells #[.int .u8 82, .int .u32 xd, .int .u64 st, .int .u32 n, .int .u32 oid, .int .u32 ver, .string nm, .int .u8 id, .slice ca cols.length cc, .int .u8 kd, .int .u32 ao, .int .u32 av, .int .u8 old, .slice ba lb.length bc, .slice aa la.length ac, .slice ra rs.length rc, .int .u8 fl] 76)) (b := w.heap.size + 1) #[.int .u8 0, .int .u32 0, .int .u64 0, .int .u32 0, .int .u32 0, .int .u32 0, .string ⟨#[]⟩, .int .u8 0, .slice none 0 0, .int .u8 0, .int .u32 0, .int .u32 0, .int .u8 0, .slice none 0 0, .slice none 0 0, .slice none 0 0, .int .u8 0] 76 (by simp))
  have HK := Hm (Blk.new' (w := (w.alloc (.cells #[.int .u8 82, .int .u32 xd, .int .u64 st, .int .u32 n, .int .u32 oid, .int .u32 ver, .string nm, .int .u8 id, .slice ca cols.length cc, .int .u8 kd, .int .u32 ao, .int .u32 av, .int .u8 old, .slice ba lb.length bc, .slice aa la.length ac, .slice ra rs.length rc, .int .u8 fl] 76)).alloc (.cells #[.int .u8 0, .int .u32 0, .int .u64 0, .int .u32 0, .int .u32 0, .int .u32 0, .string ⟨#[]⟩, .int .u8 0, .slice none 0 0, .int .u8 0, .int .u32 0, .int .u32 0, .int .u8 0, .slice none 0 0, .slice none 0 0, .slice none 0 0, .int .u8 0] 76)) (b := w.heap.size + 1 + 1) #[.int .u8 82, .int .u32 0, .int .u64 0, .int .u32 0, .int .u32 0, .int .u32 0, .string ⟨#[]⟩, .int .u8 0, .slice none 0 0, .int .u8 0, .int .u32 0, .int .u32 0, .int .u8 0, .slice none 0 0, .slice none 0 0, .slice none 0 0, .int .u8 0] 76 (by simp))
  have HXZ := Hm (HX.out.alloc (.cells #[.int .u8 0, .int .u32 0, .int .u64 0, .int .u32 0, .int .u32 0, .int .u32 0, .string ⟨#[]⟩, .int .u8 0, .slice none 0 0, .int .u8 0, .int .u32 0, .int .u32 0, .int .u8 0, .slice none 0 0, .slice none 0 0, .slice none 0 0, .int .u8 0] 76))
  obtain ⟨w3, hw3⟩ : ∃ W, W = ((w.alloc (.cells #[.int .u8 82, .int .u32 xd, .int .u64 st, .int .u32 n, .int .u32 oid, .int .u32 ver, .string nm, .int .u8 id, .slice ca cols.length cc, .int .u8 kd, .int .u32 ao, .int .u32 av, .int .u8 old, .slice ba lb.length bc, .slice aa la.length ac, .slice ra rs.length rc, .int .u8 fl] 76)).alloc (.cells #[.int .u8 0, .int .u32 0, .int .u64 0, .int .u32 0, .int .u32 0, .int .u32 0, .string ⟨#[]⟩, .int .u8 0, .slice none 0 0, .int .u8 0, .int .u32 0, .int .u32 0, .int .u8 0, .slice none 0 0, .slice none 0 0, .slice none 0 0, .int .u8 0] 76)).alloc (.cells #[.int .u8 82, .int .u32 0, .int .u64 0, .int .u32 0, .int .u32 0, .int .u32 0, .string ⟨#[]⟩, .int .u8 0, .slice none 0 0, .int .u8 0, .int .u32 0, .int .u32 0, .int .u8 0, .slice none 0 0, .slice none 0 0, .slice none 0 0, .int .u8 0] 76) := ⟨_, rfl⟩
  have HE3 := Hm (show Ext w w3 by rw [hw3]; exact (((Ext.refl w).alloc _).alloc _).alloc _)
  have HX3 := Hm (show Blk w3 w.heap.size #[.int .u8 82, .int .u32 xd, .int .u64 st, .int .u32 n, .int .u32 oid, .int .u32 ver, .string nm, .int .u8 id, .slice ca cols.length cc, .int .u8 kd, .int .u32 ao, .int .u32 av, .int .u8 old, .slice ba lb.length bc, .slice aa la.length ac, .slice ra rs.length rc, .int .u8 fl] 76 by rw [hw3]; exact HXZ.out.alloc _)
  have HZ3 := Hm (show Blk w3 (w.heap.size + 1) #[.int .u8 0, .int .u32 0, .int .u64 0, .int .u32 0, .int .u32 0, .int .u32 0, .string ⟨#[]⟩, .int .u8 0, .slice none 0 0, .int .u8 0, .int .u32 0, .int .u32 0, .int .u8 0, .slice none 0 0, .slice none 0 0, .slice none 0 0, .int .u8 0] 76 by rw [hw3]; exact HZ.out.alloc _)
  have HK3 := Hm (show Blk w3 (w.heap.size + 1 + 1) #[.int .u8 82, .int .u32 0, .int .u64 0, .int .u32 0, .int .u32 0, .int .u32 0, .string ⟨#[]⟩, .int .u8 0, .slice none 0 0, .int .u8 0, .int .u32 0, .int .u32 0, .int .u8 0, .slice none 0 0, .slice none 0 0, .slice none 0 0, .int .u8 0] 76 by rw [hw3]; exact HK.out)
  have HW3 := Hm hw3
  clear HX HZ HK HXZ hw3
  go_enter Tryz.func67, Tryz.ntmps67
  go_upto_region 9 with (fail)
  rw [← HW3.out]
  have gX := HX3.out.cell
  have zX := HX3.out.lt
  have gK := HK3.out.cell
  have gKf := HK3.out.frozen
  have zK := HK3.out.lt
  clear HW3
  go_upto_region 10 with (fail)
  clear gX zX gK gKf zK
  have HK5 := Hm (((((HK3.out.set 4 (.int .u32 oid)).set 5 (.int .u32 ver)).set 6 (.string nm)).set 7 (.int .u8 id)).set 8 (.slice ca cols.length cc))
  simp only [List.setIfInBounds_toArray, List.set_cons_zero, List.set_cons_succ] at HK5
  have HS5 : Hid (Kp (fun x => x = w.heap.size + 1 + 1) w3 (((((w3.setCell ⟨w.heap.size + 1 + 1, 4, none⟩ (.int .u32 oid)).setCell ⟨w.heap.size + 1 + 1, 5, none⟩ (.int .u32 ver)).setCell ⟨w.heap.size + 1 + 1, 6, none⟩ (.string nm)).setCell ⟨w.heap.size + 1 + 1, 7, none⟩ (.int .u8 id)).setCell ⟨w.heap.size + 1 + 1, 8, none⟩ (.slice ca cols.length cc))) := Hm (by
    iterate 5 refine Kp.trans ?_ (Kp.set (S := fun x => x = w.heap.size + 1 + 1) _ _ rfl) (fun _ hx _ => hx)
    exact Kp.refl)
  have HZ5 := Hm (HZ3.out.kp HS5.out (show ¬ w.heap.size + 1 = w.heap.size + 1 + 1 by omega))
  have HE5 := Hm (Kp.ext HE3.out (fun x hx _ => by have hx : x = w.heap.size + 1 + 1 := hx; omega) HS5.out)
  obtain ⟨w5, hw5⟩ : ∃ W, W = (((((w3.setCell ⟨w.heap.size + 1 + 1, 4, none⟩ (.int .u32 oid)).setCell ⟨w.heap.size + 1 + 1, 5, none⟩ (.int .u32 ver)).setCell ⟨w.heap.size + 1 + 1, 6, none⟩ (.string nm)).setCell ⟨w.heap.size + 1 + 1, 7, none⟩ (.int .u8 id)).setCell ⟨w.heap.size + 1 + 1, 8, none⟩ (.slice ca cols.length cc)) := ⟨_, rfl⟩
  rw [← hw5] at HK5 HZ5 HE5 ⊢
  clear hw5 HS5 HK3 HZ3 HX3 HE3
  have HS17 := Hm (show (Instr.storeAt 76 (.pointer (some ⟨w.heap.size + 1, 0, none⟩)) (.agg #[.int .u8 82, .int .u32 0, .int .u64 0, .int .u32 0, .int .u32 oid, .int .u32 ver, .string nm, .int .u8 id, .slice ca cols.length cc, .int .u8 0, .int .u32 0, .int .u32 0, .int .u8 0, .slice none 0 0, .slice none 0 0, .slice none 0 0, .int .u8 0])).run Tryz.prog w5 = .ok () _ from store17 HZ5.out)
  as_aux_lemma =>
    go_wp2_with (first
      | (refine wpList_load_to rfl 76 (.tmp 3) rfl _ _ ?e1 (load17 HK5.out) ?_; (case e1 => go_simp))
      | (refine wpList_store_to rfl 76 (.tmp 2) (.tmp 33) rfl _ _ ?e1 ?e2 HS17.out ?_; (case e1 => go_simp); (case e2 => go_simp)))
    as_aux_lemma =>
      refine bodyPost_ret (res_own (Blk.c17 HZ5.out) rfl) rfl ⟨rfl, Ext.c17 HE5.out (by omega)⟩
theorem mown_E (k xd st n oid ver : Int) (nm : ByteArray) (id : Int) (cols : List Col) (ca : Option Addr) (cc : Nat) (kd ao av old : Int) (lb la : List K) (rs : List Rf) (ba aa ra : Option Addr) (bc ac rc : Nat) (fl : Int) (w : World) (h1 : k ≠ 66) (h2 : k ≠ 67) (h3 : k ≠ 82) :
    Calls Tryz.prog 67 #[.agg #[.int .u8 k, .int .u32 xd, .int .u64 st, .int .u32 n, .int .u32 oid, .int .u32 ver, .string nm, .int .u8 id, .slice ca cols.length cc, .int .u8 kd, .int .u32 ao, .int .u32 av, .int .u8 old, .slice ba lb.length bc, .slice aa la.length ac, .slice ra rs.length rc, .int .u8 fl]] w fun e w' => e = .returned (.agg #[.int .u8 k, .int .u32 0, .int .u64 0, .int .u32 0, .int .u32 0, .int .u32 0, .string ⟨#[]⟩, .int .u8 0, .slice none 0 0, .int .u8 kd, .int .u32 ao, .int .u32 av, .int .u8 old, .slice ba lb.length bc, .slice aa la.length ac, .slice ra rs.length rc, .int .u8 fl]) ∧ Ext w w' := by
  have k1 : (k == 66) = false := by simpa using h1
  have k2 : (k == 67) = false := by simpa using h2
  have k3 : (k == 82) = false := by simpa using h3
  clear h1 h2 h3
  have HX := Hm (Blk.new w #[.int .u8 k, .int .u32 xd, .int .u64 st, .int .u32 n, .int .u32 oid, .int .u32 ver, .string nm, .int .u8 id, .slice ca cols.length cc, .int .u8 kd, .int .u32 ao, .int .u32 av, .int .u8 old, .slice ba lb.length bc, .slice aa la.length ac, .slice ra rs.length rc, .int .u8 fl] 76)
  have HZ := Hm (Blk.new' (w := w.alloc (.cells #[.int .u8 k, .int .u32 xd, .int .u64 st, .int .u32 n, .int .u32 oid, .int .u32 ver, .string nm, .int .u8 id, .slice ca cols.length cc, .int .u8 kd, .int .u32 ao, .int .u32 av, .int .u8 old, .slice ba lb.length bc, .slice aa la.length ac, .slice ra rs.length rc, .int .u8 fl] 76)) (b := w.heap.size + 1) #[.int .u8 0, .int .u32 0, .int .u64 0, .int .u32 0, .int .u32 0, .int .u32 0, .string ⟨#[]⟩, .int .u8 0, .slice none 0 0, .int .u8 0, .int .u32 0, .int .u32 0, .int .u8 0, .slice none 0 0, .slice none 0 0, .slice none 0 0, .int .u8 0] 76 (by simp))
  have HK := Hm (Blk.new' (w := (w.alloc (.cells #[.int .u8 k, .int .u32 xd, .int .u64 st, .int .u32 n, .int .u32 oid, .int .u32 ver, .string nm, .int .u8 id, .slice ca cols.length cc, .int .u8 kd, .int .u32 ao, .int .u32 av, .int .u8 old, .slice ba lb.length bc, .slice aa la.length ac, .slice ra rs.length rc, .int .u8 fl] 76)).alloc (.cells #[.int .u8 0, .int .u32 0, .int .u64 0, .int .u32 0, .int .u32 0, .int .u32 0, .string ⟨#[]⟩, .int .u8 0, .slice none 0 0, .int .u8 0, .int .u32 0, .int .u32 0, .int .u8 0, .slice none 0 0, .slice none 0 0, .slice none 0 0, .int .u8 0] 76)) (b := w.heap.size + 1 + 1) #[.int .u8 k, .int .u32 0, .int .u64 0, .int .u32 0, .int .u32 0, .int .u32 0, .string ⟨#[]⟩, .int .u8 0, .slice none 0 0, .int .u8 0, .int .u32 0, .int .u32 0, .int .u8 0, .slice none 0 0, .slice none 0 0, .slice none 0 0, .int .u8 0] 76 (by simp))
  have HXZ := Hm (HX.out.alloc (.cells #[.int .u8 0, .int .u32 0, .int .u64 0, .int .u32 0, .int .u32 0, .int .u32 0, .string ⟨#[]⟩, .int .u8 0, .slice none 0 0, .int .u8 0, .int .u32 0, .int .u32 0, .int .u8 0, .slice none 0 0, .slice none 0 0, .slice none 0 0, .int .u8 0] 76))
  obtain ⟨w3, hw3⟩ : ∃ W, W = ((w.alloc (.cells #[.int .u8 k, .int .u32 xd, .int .u64 st, .int .u32 n, .int .u32 oid, .int .u32 ver, .string nm, .int .u8 id, .slice ca cols.length cc, .int .u8 kd, .int .u32 ao, .int .u32 av, .int .u8 old, .slice ba lb.length bc, .slice aa la.length ac, .slice ra rs.length rc, .int .u8 fl] 76)).alloc (.cells #[.int .u8 0, .int .u32 0, .int .u64 0, .int .u32 0, .int .u32 0, .int .u32 0, .string ⟨#[]⟩, .int .u8 0, .slice none 0 0, .int .u8 0, .int .u32 0, .int .u32 0, .int .u8 0, .slice none 0 0, .slice none 0 0, .slice none 0 0, .int .u8 0] 76)).alloc (.cells #[.int .u8 k, .int .u32 0, .int .u64 0, .int .u32 0, .int .u32 0, .int .u32 0, .string ⟨#[]⟩, .int .u8 0, .slice none 0 0, .int .u8 0, .int .u32 0, .int .u32 0, .int .u8 0, .slice none 0 0, .slice none 0 0, .slice none 0 0, .int .u8 0] 76) := ⟨_, rfl⟩
  have HE3 := Hm (show Ext w w3 by rw [hw3]; exact (((Ext.refl w).alloc _).alloc _).alloc _)
  have HX3 := Hm (show Blk w3 w.heap.size #[.int .u8 k, .int .u32 xd, .int .u64 st, .int .u32 n, .int .u32 oid, .int .u32 ver, .string nm, .int .u8 id, .slice ca cols.length cc, .int .u8 kd, .int .u32 ao, .int .u32 av, .int .u8 old, .slice ba lb.length bc, .slice aa la.length ac, .slice ra rs.length rc, .int .u8 fl] 76 by rw [hw3]; exact HXZ.out.alloc _)
  have HZ3 := Hm (show Blk w3 (w.heap.size + 1) #[.int .u8 0, .int .u32 0, .int .u64 0, .int .u32 0, .int .u32 0, .int .u32 0, .string ⟨#[]⟩, .int .u8 0, .slice none 0 0, .int .u8 0, .int .u32 0, .int .u32 0, .int .u8 0, .slice none 0 0, .slice none 0 0, .slice none 0 0, .int .u8 0] 76 by rw [hw3]; exact HZ.out.alloc _)
  have HK3 := Hm (show Blk w3 (w.heap.size + 1 + 1) #[.int .u8 k, .int .u32 0, .int .u64 0, .int .u32 0, .int .u32 0, .int .u32 0, .string ⟨#[]⟩, .int .u8 0, .slice none 0 0, .int .u8 0, .int .u32 0, .int .u32 0, .int .u8 0, .slice none 0 0, .slice none 0 0, .slice none 0 0, .int .u8 0] 76 by rw [hw3]; exact HK.out)
  have HW3 := Hm hw3
  clear HX HZ HK HXZ hw3
  go_enter Tryz.func67, Tryz.ntmps67
  go_upto_region 3 with (fail)
  rw [← HW3.out]
  have gX := HX3.out.cell
  have zX := HX3.out.lt
  have gK := HK3.out.cell
  have gKf := HK3.out.frozen
  have zK := HK3.out.lt
  clear HW3
  go_upto_region 10 with (fail)
  clear gX zX gK gKf zK
  have HK5 := Hm ((((((((HK3.out.set 9 (.int .u8 kd)).set 10 (.int .u32 ao)).set 11 (.int .u32 av)).set 12 (.int .u8 old)).set 13 (.slice ba lb.length bc)).set 14 (.slice aa la.length ac)).set 15 (.slice ra rs.length rc)).set 16 (.int .u8 fl))
  simp only [List.setIfInBounds_toArray, List.set_cons_zero, List.set_cons_succ] at HK5
  have HS5 : Hid (Kp (fun x => x = w.heap.size + 1 + 1) w3 ((((((((w3.setCell ⟨w.heap.size + 1 + 1, 9, none⟩ (.int .u8 kd)).setCell ⟨w.heap.size + 1 + 1, 10, none⟩ (.int .u32 ao)).setCell ⟨w.heap.size + 1 + 1, 11, none⟩ (.int .u32 av)).setCell ⟨w.heap.size + 1 + 1, 12, none⟩ (.int .u8 old)).setCell ⟨w.heap.size + 1 + 1, 13, none⟩ (.slice ba lb.length bc)).setCell ⟨w.heap.size + 1 + 1, 14, none⟩ (.slice aa la.length ac)).setCell ⟨w.heap.size + 1 + 1, 15, none⟩ (.slice ra rs.length rc)).setCell ⟨w.heap.size + 1 + 1, 16, none⟩ (.int .u8 fl))) := Hm (by
    iterate 8 refine Kp.trans ?_ (Kp.set (S := fun x => x = w.heap.size + 1 + 1) _ _ rfl) (fun _ hx _ => hx)
    exact Kp.refl)
  have HZ5 := Hm (HZ3.out.kp HS5.out (show ¬ w.heap.size + 1 = w.heap.size + 1 + 1 by omega))
  have HE5 := Hm (Kp.ext HE3.out (fun x hx _ => by have hx : x = w.heap.size + 1 + 1 := hx; omega) HS5.out)
  obtain ⟨w5, hw5⟩ : ∃ W, W = ((((((((w3.setCell ⟨w.heap.size + 1 + 1, 9, none⟩ (.int .u8 kd)).setCell ⟨w.heap.size + 1 + 1, 10, none⟩ (.int .u32 ao)).setCell ⟨w.heap.size + 1 + 1, 11, none⟩ (.int .u32 av)).setCell ⟨w.heap.size + 1 + 1, 12, none⟩ (.int .u8 old)).setCell ⟨w.heap.size + 1 + 1, 13, none⟩ (.slice ba lb.length bc)).setCell ⟨w.heap.size + 1 + 1, 14, none⟩ (.slice aa la.length ac)).setCell ⟨w.heap.size + 1 + 1, 15, none⟩ (.slice ra rs.length rc)).setCell ⟨w.heap.size + 1 + 1, 16, none⟩ (.int .u8 fl)) := ⟨_, rfl⟩
  rw [← hw5] at HK5 HZ5 HE5 ⊢
  clear hw5 HS5 HK3 HZ3 HX3 HE3
  have HS17 := Hm (show (Instr.storeAt 76 (.pointer (some ⟨w.heap.size + 1, 0, none⟩)) (.agg #[.int .u8 k, .int .u32 0, .int .u64 0, .int .u32 0, .int .u32 0, .int .u32 0, .string ⟨#[]⟩, .int .u8 0, .slice none 0 0, .int .u8 kd, .int .u32 ao, .int .u32 av, .int .u8 old, .slice ba lb.length bc, .slice aa la.length ac, .slice ra rs.length rc, .int .u8 fl])).run Tryz.prog w5 = .ok () _ from store17 HZ5.out)
  as_aux_lemma =>
    go_wp2_with (first
      | (refine wpList_load_to rfl 76 (.tmp 3) rfl _ _ ?e1 (load17 HK5.out) ?_; (case e1 => go_simp))
      | (refine wpList_store_to rfl 76 (.tmp 2) (.tmp 33) rfl _ _ ?e1 ?e2 HS17.out ?_; (case e1 => go_simp); (case e2 => go_simp)))
    as_aux_lemma =>
      refine bodyPost_ret (res_own (Blk.c17 HZ5.out) rfl) rfl ⟨rfl, Ext.c17 HE5.out (by omega)⟩
end Go.Proofs.YtdlhaidlokkmnaaGreatDoor
