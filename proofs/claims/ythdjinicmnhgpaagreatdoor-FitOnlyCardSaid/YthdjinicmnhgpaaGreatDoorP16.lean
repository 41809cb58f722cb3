/-
Refs with one more at its place: the reference's put.
-/
import Derived.Shelf.SlSortCmp.NoneTotal
import Derived.Lib.SlicesCompact
import Derived.Test.YthdjinicmnhgpaaGreatDoorP15
namespace Go.Proofs.YthdjinicmnhgpaaGreatDoor
open Go.RowKit

theorem Tryz.infoRRfP : (Tryz.prog.info? 56).map (fun i => (i.zero, i.size, i.bytes)) = some (some (.agg #[.int .u32 0, .int .u32 0]), 2, 8) := by kernel_rfl

noncomputable def outsF (r : Rf) (b : Bool) (l : List Rf) : List Rf := if b = true then putF r l else l
theorem outsF_in {r x : Rf} {l : List Rf} (h : ∃ x ∈ l, ¬ x.lt r) : outsF r true (l ++ [x]) = outsF r true l ++ [x] := by
  unfold outsF; rw [if_pos rfl, if_pos rfl, putF_in h]
theorem outsF_eq {r : Rf} {l : List Rf} (h : ∀ x ∈ l, x.lt r) : outsF r true (l ++ [r]) = outsF r false l ++ [r] := by
  unfold outsF
  rw [if_pos rfl, if_neg (by simp), putF_all h]
  unfold putF
  rw [if_neg (Rf.irr r), if_pos rfl]
theorem outsF_new {r x : Rf} {l : List Rf} (h : ∀ x ∈ l, x.lt r) (hx : ¬ x.lt r) (hn : x ≠ r) : outsF r true (l ++ [x]) = outsF r false l ++ [r] ++ [x] := by
  unfold outsF
  rw [if_pos rfl, if_neg (by simp), putF_all h]
  unfold putF
  rw [if_neg hx, if_neg hn, List.append_assoc]; rfl
theorem outsF_end {r : Rf} {l : List Rf} (h : ∀ x ∈ l, x.lt r) : putF r l = outsF r false l ++ [r] := by
  have := putF_all (r := r) (xs := l) (ys := []) h
  rw [List.append_nil] at this
  rw [this]; rfl
theorem rf_snoc (q : List Rf) (x : Rf) : ((q ++ [x]).map Rf.cells).flatten = (q.map Rf.cells).flatten ++ x.cells := by simp

set_option maxRecDepth 100000 in set_option maxHeartbeats 4000000 in
theorem rputf_any (l : List Rf) (r : Rf) (a : Option Addr) (c : Nat) (w : World) (hl : Sl w (.slice a l.length c) 2 (l.map Rf.cells)) (hn : l.length ≤ 1000000000) :
    Calls Tryz.prog 64 #[.slice a l.length c, .agg #[.int .u32 r.o, .int .u32 r.v]] w fun e w' => ∃ a' n c', e = .returned (.slice a' n c') ∧ n = (putF r l).length ∧ w'.ownsRow w.heap.size 56 2 (.slice a' n c') n ((putF r l).map Rf.cells).flatten ∧ Ext w w' := by
  obtain ⟨i0, hi, hz0, hz1, hz2⟩ := info_parts Tryz.infoRRfP
  have HL := Hid.mk' hl
  clear hl
  go_enter Tryz.func64, Tryz.ntmps64
  go_wp2
  go_loopw [5, 6, 7] (fun v pb i wr => ∃ (k : Nat) (b : Bool) (q : List Rf), k ≤ l.length ∧ i = .int .i64 k ∧ pb = .bool b ∧ Hid (q = outsF r b (l.take k)) ∧ Hid (b = true → ∃ x ∈ l.take k, ¬ x.lt r) ∧ Hid (b = false → ∀ x ∈ l.take k, x.lt r) ∧ q.length ≤ k + b.toNat ∧ Hid (wr.ownsRow (w.heap.size + 1) 56 2 v q.length (q.map Rf.cells).flatten) ∧ Hid (Ext (w.alloc (.cells #[.int .u32 r.o, .int .u32 r.v] 56)) wr)) (fun _ _ i _ => l.length - (intOf i).toNat)
  case atStart => exact ⟨0, false, [], Nat.zero_le _, rfl, rfl, Hid.mk' rfl, Hid.mk' (fun h => by cases h), Hid.mk' (fun _ x hx => by simp at hx), Nat.le_refl _, Hid.mk' (World.ownsRow_nil _ _ _ _), Hid.mk' (Ext.refl _)⟩
  case round =>
    obtain ⟨k, b, q, hk, rfl, rfl, hq, hB1, hB0, hql, hown, hE⟩ := hrel
    have HEW := Hid.mk' (((Ext.refl w).alloc (.cells #[.int .u32 r.o, .int .u32 r.v] 56)).trans hE.out)
    have HBB := Hid.mk' ((Blk.new w #[.int .u32 r.o, .int .u32 r.v] 56).ext hE.out)
    have g0 := HBB.out.cell
    have z0 := HBB.out.lt
    have HE3 : Hid (Ext wr wr) := Hid.mk' (Ext.refl _)
    by_cases hlt : k < l.length
    · obtain ⟨b0, o, rfl, hb, hx⟩ := HL.out.at_ (i := k) (by simpa using hlt)
      have HF := Hid.mk' (fun W (h : Ext w W) => Rf.at_ hlt hx hb h)
      obtain ⟨f0, f1⟩ := HF.out _ HEW.out
      have hbw : b0 < wr.heap.size := Nat.lt_of_lt_of_le hb HEW.out.size
      have HTK : Hid (l.take (k + 1) = l.take k ++ [l[k]]) := Hid.mk' (List.take_succ_eq_append_getElem hlt)
      have HB := Hid.mk' hb
      obtain ⟨p, hp⟩ : ∃ p, p = l[k] := ⟨_, rfl⟩
      rw [← hp] at f0 f1 HF HTK
      clear hx hp hb
      have hpl : (Rf.cells p).length = 2 := rfl
      have hrl : (Rf.cells r).length = 2 := rfl
      have hq1 : b.toNat ≤ 1 := by cases b <;> decide
      cases b with
      | true =>
        have HO := Hid.mk' (show q ++ [p] = outsF r true (l.take (k + 1)) from by rw [HTK.out, outsF_in (hB1.out rfl), hq.out])
        have HBX := Hid.mk' (show ∃ x ∈ l.take (k + 1), ¬ x.lt r from by
          obtain ⟨x, h1, h2⟩ := hB1.out rfl
          exact ⟨x, by rw [HTK.out]; exact List.mem_append_left _ h1, h2⟩)
        have hO3 := hown
        have hX3 := hE
        clear hq hB1 hB0
        go_wp2
        refine wp_region_head 10 (fun w' => Ext (wr) w' ∧ (∀ b o, b < (wr).heap.size → w'.cell? ⟨b, o, none⟩ = (wr).cell? ⟨b, o, none⟩) ∧ (∀ b o, b < (wr).heap.size → w'.frozen? ⟨b, o, none⟩ = (wr).frozen? ⟨b, o, none⟩)) (by kernel_rfl) (by decide) ?_
        have hA0 : Hid ((fun w' => Ext (wr) w' ∧ (∀ b o, b < (wr).heap.size → w'.cell? ⟨b, o, none⟩ = (wr).cell? ⟨b, o, none⟩) ∧ (∀ b o, b < (wr).heap.size → w'.frozen? ⟨b, o, none⟩ = (wr).frozen? ⟨b, o, none⟩)) wr.drew) := held_of (by (repeat (with_reducible (first | exact Ext.refl _ | assumption | exact held_left (by assumption) | apply Ext.drewN | apply Ext.drew | apply Ext.alloc | (refine Ext.setCell ?_ (by first | (simp; done) | (simp; omega) | omega) _) | (refine Ext.trans ?_ (by assumption)) | (refine Ext.trans ?_ (held_left (by assumption)))))))
        (refine wpHd_takeD (i := 0) (d := some 14) (v := ?_) rfl rfl (by kernel_rfl) (by kernel_rfl) (by kernel_rfl) (fun _ _ _ h => h) (Or.inl ⟨by rfl, ?_⟩) hA0.out ?_; rotate_left 1; (· (intro w' hS'; (obtain ⟨hEs', hcs', hfs'⟩ := hS'); go_simp; try with_reducible rfl)))
        try simp only [Act.put, List.setIfInBounds_toArray, List.set_cons_zero, List.set_cons_succ]
        (refine wpHd_takeD (i := 1) (d := some 15) (v := ?_) rfl rfl (by kernel_rfl) (by kernel_rfl) (by kernel_rfl) (fun _ _ _ h => h) (Or.inl ⟨by rfl, ?_⟩) hA0.out ?_; rotate_left 1; (· (intro w' hS'; (obtain ⟨hEs', hcs', hfs'⟩ := hS'); go_simp; try with_reducible rfl)))
        try simp only [Act.put, List.setIfInBounds_toArray, List.set_cons_zero, List.set_cons_succ]
        (refine wpHd_takeD (i := 2) (d := some 16) (v := ?_) rfl rfl (by kernel_rfl) (by kernel_rfl) (by kernel_rfl) (fun _ _ _ h => h) (Or.inl ⟨by rfl, ?_⟩) hA0.out ?_; rotate_left 1; (· (intro w' hS'; (obtain ⟨hEs', hcs', hfs'⟩ := hS'); go_simp; try with_reducible rfl)))
        try simp only [Act.put, List.setIfInBounds_toArray, List.set_cons_zero, List.set_cons_succ]
        refine wpHd_takeD (i := 3) (d := some 17) (v := undef) rfl rfl (by kernel_rfl) (by kernel_rfl) (by kernel_rfl) (fun _ _ _ h => h) (Or.inr ⟨by rfl, rfl⟩) hA0.out ?_
        try simp only [Act.put, List.setIfInBounds_toArray, List.set_cons_zero, List.set_cons_succ]
        refine wpHd_takeD (i := 4) (d := some 18) (v := undef) rfl rfl (by kernel_rfl) (by kernel_rfl) (by kernel_rfl) (fun _ _ _ h => h) (Or.inr ⟨by rfl, rfl⟩) hA0.out ?_
        try simp only [Act.put, List.setIfInBounds_toArray, List.set_cons_zero, List.set_cons_succ]
        refine wpHd_takeD (i := 5) (d := some 19) (v := undef) rfl rfl (by kernel_rfl) (by kernel_rfl) (by kernel_rfl) (fun _ _ _ h => h) (Or.inr ⟨by rfl, rfl⟩) hA0.out ?_
        try simp only [Act.put, List.setIfInBounds_toArray, List.set_cons_zero, List.set_cons_succ]
        refine wpHd_takeD (i := 6) (d := some 20) (v := undef) rfl rfl (by kernel_rfl) (by kernel_rfl) (by kernel_rfl) (fun _ _ _ h => h) (Or.inr ⟨by rfl, rfl⟩) hA0.out ?_
        try simp only [Act.put, List.setIfInBounds_toArray, List.set_cons_zero, List.set_cons_succ]
        refine wpHd_takeD (i := 7) (d := some 21) (v := undef) rfl rfl (by kernel_rfl) (by kernel_rfl) (by kernel_rfl) (fun _ _ _ h => h) (Or.inr ⟨by rfl, rfl⟩) hA0.out ?_
        try simp only [Act.put, List.setIfInBounds_toArray, List.set_cons_zero, List.set_cons_succ]
        refine wpHd_takeD (i := 8) (d := some 22) (v := undef) rfl rfl (by kernel_rfl) (by kernel_rfl) (by kernel_rfl) (fun _ _ _ h => h) (Or.inr ⟨by rfl, rfl⟩) hA0.out ?_
        try simp only [Act.put, List.setIfInBounds_toArray, List.set_cons_zero, List.set_cons_succ]
        refine wpHd_takeD (i := 9) (d := some 23) (v := undef) rfl rfl (by kernel_rfl) (by kernel_rfl) (by kernel_rfl) (fun _ _ _ h => h) (Or.inr ⟨by rfl, rfl⟩) hA0.out ?_
        try simp only [Act.put, List.setIfInBounds_toArray, List.set_cons_zero, List.set_cons_succ]
        refine wpHd_tail (by kernel_rfl) ?_
        simp only [List.drop_succ_cons, List.drop_zero]
        clear hA0 g0
        go_wp2_with (at_builtin; refine wpList_append_own _ rfl _ _ 65 rfl (w.heap.size + 1) 56 i0 _ 2 8 Tryz.underlying65 hi hz0 hz1 hz2 rfl (by decide) _ _ _ rfl ((owns_ext hO3.out (by (repeat (with_reducible (first | exact Ext.refl _ | assumption | exact held_left (by assumption) | apply Ext.drewN | apply Ext.drew | apply Ext.alloc | (refine Ext.setCell ?_ (by first | (simp; done) | (simp; omega) | omega) _) | (refine Ext.trans ?_ (by assumption)) | (refine Ext.trans ?_ (held_left (by assumption))))))))) ⟨_, 0, none⟩ 1 1 p.cells rfl rfl (cells_new _ #[.int .u32 p.o, .int .u32 p.v] _) (by intro u hu; simp [Rf.cells] at hu; rcases hu with rfl | rfl <;> rfl) (by unfold maxLen; omega) (by omega) (by have := HEW.out.size; have := HE3.out.size; simp; omega) ?_)
        intro v' w4 hown' hgrow _
        have HX4 : Hid (Ext (w.alloc (.cells #[.int .u32 r.o, .int .u32 r.v] 56)) w4) := Hid.mk' (Below.grown ((hX3.out.drew).alloc (.cells #[.int .u32 p.o, .int .u32 p.v] 56)) hgrow (by have := hX3.out.size; simp at this ⊢; omega) (fun g hg => by have := (hO3.out.lt g hg).1; simp; omega))
        have HO4 := Hid.mk' hown'
        clear hown' hgrow
        go_wp2
        go_roundw
        case rel => exact ⟨k + 1, true, q ++ [p], by omega, by go_num, rfl, HO, Hid.mk' (fun _ => HBX.out), Hid.mk' (fun h => by cases h), by simp at hql ⊢; omega, Hid.mk' (by rw [rf_snoc, List.length_append]; exact HO4.out), HX4⟩
        case measure => simp [intOf]; omega
      | false =>
        have HAH := Hid.mk' (fun W => rahead_any p.o p.v r.o r.v W)
        have hNq := fun w => neq_rref p.o p.v r.o r.v w
        by_cases hlr : p.lt r
        · have hab : aheadB p.o p.v r.o r.v = true := decide_eq_true hlr
          rw [hab] at HAH
          have HO := Hid.mk' (show q ++ [p] = outsF r false (l.take (k + 1)) from by rw [HTK.out, hq.out]; rfl)
          have HBX := Hid.mk' (show ∀ x ∈ l.take (k + 1), x.lt r from by
            intro x hx
            rw [HTK.out] at hx
            rcases List.mem_append.1 hx with h | h
            · exact hB0.out rfl x h
            · obtain rfl := List.mem_singleton.1 h; exact hlr)
          clear hq hB1 hB0 hab hlr hNq
          go_wp2
          go_region_held3 (fun w' => Ext (wr) w' ∧ (∀ b o, b < (wr).heap.size → w'.cell? ⟨b, o, none⟩ = (wr).cell? ⟨b, o, none⟩) ∧ (∀ b o, b < (wr).heap.size → w'.frozen? ⟨b, o, none⟩ = (wr).frozen? ⟨b, o, none⟩)) ((exact held_of (by (repeat (with_reducible (first | exact Ext.refl _ | assumption | exact held_left (by assumption) | apply Ext.drewN | apply Ext.drew | apply Ext.alloc | (refine Ext.setCell ?_ (by first | (simp; done) | (simp; omega) | omega) _) | (refine Ext.trans ?_ (by assumption)) | (refine Ext.trans ?_ (held_left (by assumption))))))))) (first | (go_at_call 44; refine (HAH.out _).mono ?_; rintro e w3 ⟨rfl, hb3⟩; have HE3 := Hid.mk' (show Ext wr w3 by (repeat (with_reducible (first | exact Ext.refl _ | assumption | exact held_left (by assumption) | apply Ext.drewN | apply Ext.drew | apply Ext.alloc | (refine Ext.setCell ?_ (by first | (simp; done) | (simp; omega) | omega) _) | (refine Ext.trans ?_ (by assumption)) | (refine Ext.trans ?_ (held_left (by assumption)))))))))
          clear hb3 g0
          have hO3 := Hid.mk' (owns_ext hown.out HE3.out)
          have hX3 : Hid (Ext (w.alloc (.cells #[.int .u32 r.o, .int .u32 r.v] 56)) w3) := Hid.mk' (hE.out.trans HE3.out)
          go_wp2_with (at_builtin; refine wpList_append_own _ rfl _ _ 65 rfl (w.heap.size + 1) 56 i0 _ 2 8 Tryz.underlying65 hi hz0 hz1 hz2 rfl (by decide) _ _ _ rfl ((owns_ext hO3.out (by (repeat (with_reducible (first | exact Ext.refl _ | assumption | exact held_left (by assumption) | apply Ext.drewN | apply Ext.drew | apply Ext.alloc | (refine Ext.setCell ?_ (by first | (simp; done) | (simp; omega) | omega) _) | (refine Ext.trans ?_ (by assumption)) | (refine Ext.trans ?_ (held_left (by assumption))))))))) ⟨_, 0, none⟩ 1 1 p.cells rfl rfl (cells_new _ #[.int .u32 p.o, .int .u32 p.v] _) (by intro u hu; simp [Rf.cells] at hu; rcases hu with rfl | rfl <;> rfl) (by unfold maxLen; omega) (by omega) (by have := HEW.out.size; have := HE3.out.size; simp; omega) ?_)
          intro v' w4 hown' hgrow _
          have HX4 : Hid (Ext (w.alloc (.cells #[.int .u32 r.o, .int .u32 r.v] 56)) w4) := Hid.mk' (Below.grown ((hX3.out).alloc _) hgrow (by have := hX3.out.size; simp at this ⊢; omega) (fun g hg => by have := (hO3.out.lt g hg).1; simp; omega))
          have HO4 := Hid.mk' hown'
          clear hown' hgrow
          go_wp2
          go_roundw
          case rel => exact ⟨k + 1, false, q ++ [p], by omega, by go_num, rfl, HO, Hid.mk' (fun h => by cases h), Hid.mk' (fun _ => HBX.out), by simp at hql ⊢; omega, Hid.mk' (by rw [rf_snoc, List.length_append]; exact HO4.out), HX4⟩
          case measure => simp [intOf]; omega
        · have hab : aheadB p.o p.v r.o r.v = false := decide_eq_false hlr
          rw [hab] at HAH
          have HNL := Hid.mk' hlr
          have HBX := Hid.mk' (show ∃ x ∈ l.take (k + 1), ¬ x.lt r from ⟨p, by rw [HTK.out]; simp, hlr⟩)
          by_cases hpr : p = r
          · have HO := Hid.mk' (show q ++ [p] = outsF r true (l.take (k + 1)) from by rw [HTK.out, hpr, outsF_eq (hB0.out rfl), hq.out])
            have hrB : rfB ⟨p.o, p.v⟩ ⟨r.o, r.v⟩ = true := rfB_true.2 (by rw [hpr])
            rw [hrB] at hNq
            clear hq hB1 hB0 hab hlr hpr hrB
            go_wp2
            go_region_held3 (fun w' => Ext (wr) w' ∧ (∀ b o, b < (wr).heap.size → w'.cell? ⟨b, o, none⟩ = (wr).cell? ⟨b, o, none⟩) ∧ (∀ b o, b < (wr).heap.size → w'.frozen? ⟨b, o, none⟩ = (wr).frozen? ⟨b, o, none⟩)) ((exact held_of (by (repeat (with_reducible (first | exact Ext.refl _ | assumption | exact held_left (by assumption) | apply Ext.drewN | apply Ext.drew | apply Ext.alloc | (refine Ext.setCell ?_ (by first | (simp; done) | (simp; omega) | omega) _) | (refine Ext.trans ?_ (by assumption)) | (refine Ext.trans ?_ (held_left (by assumption))))))))) (first | (go_at_call 44; refine (HAH.out _).mono ?_; rintro e w3 ⟨rfl, hb3⟩; have HE3 := Hid.mk' (show Ext wr w3 by (repeat (with_reducible (first | exact Ext.refl _ | assumption | exact held_left (by assumption) | apply Ext.drewN | apply Ext.drew | apply Ext.alloc | (refine Ext.setCell ?_ (by first | (simp; done) | (simp; omega) | omega) _) | (refine Ext.trans ?_ (by assumption)) | (refine Ext.trans ?_ (held_left (by assumption)))))))))
            clear hb3
            have hO3 := Hid.mk' (owns_ext hown.out HE3.out)
            have hX3 : Hid (Ext (w.alloc (.cells #[.int .u32 r.o, .int .u32 r.v] 56)) w3) := Hid.mk' (hE.out.trans HE3.out)
            have hbw3 : b0 < w3.heap.size := Nat.lt_of_lt_of_le hbw HE3.out.size
            have z1 := (HBB.out.ext HE3.out).lt
            go_wp2
            go_region_held3 (fun w' => Ext (w3) w' ∧ (∀ b o, b < (w3).heap.size → w'.cell? ⟨b, o, none⟩ = (w3).cell? ⟨b, o, none⟩) ∧ (∀ b o, b < (w3).heap.size → w'.frozen? ⟨b, o, none⟩ = (w3).frozen? ⟨b, o, none⟩)) ((exact held_of (by (repeat (with_reducible (first | exact Ext.refl _ | assumption | exact held_left (by assumption) | apply Ext.drewN | apply Ext.drew | apply Ext.alloc | (refine Ext.setCell ?_ (by first | (simp; done) | (simp; omega) | omega) _) | (refine Ext.trans ?_ (by assumption)) | (refine Ext.trans ?_ (held_left (by assumption))))))))) (fail)
            go_wp2_with (at_builtin; refine wpList_append_own _ rfl _ _ 65 rfl (w.heap.size + 1) 56 i0 _ 2 8 Tryz.underlying65 hi hz0 hz1 hz2 rfl (by decide) _ _ _ rfl ((owns_ext hO3.out (by (repeat (with_reducible (first | exact Ext.refl _ | assumption | exact held_left (by assumption) | apply Ext.drewN | apply Ext.drew | apply Ext.alloc | (refine Ext.setCell ?_ (by first | (simp; done) | (simp; omega) | omega) _) | (refine Ext.trans ?_ (by assumption)) | (refine Ext.trans ?_ (held_left (by assumption))))))))) ⟨_, 0, none⟩ 1 1 p.cells rfl rfl (cells_new _ #[.int .u32 p.o, .int .u32 p.v] _) (by intro u hu; simp [Rf.cells] at hu; rcases hu with rfl | rfl <;> rfl) (by unfold maxLen; omega) (by omega) (by have := HEW.out.size; have := HE3.out.size; simp; omega) ?_)
            intro v' w4 hown' hgrow _
            have HX4 : Hid (Ext (w.alloc (.cells #[.int .u32 r.o, .int .u32 r.v] 56)) w4) := Hid.mk' (Below.grown ((hX3.out.drew).alloc (.cells #[.int .u32 p.o, .int .u32 p.v] 56)) hgrow (by have := hX3.out.size; simp at this ⊢; omega) (fun g hg => by have := (hO3.out.lt g hg).1; simp; omega))
            have HO4 := Hid.mk' hown'
            clear hown' hgrow
            go_wp2
            go_roundw
            case rel => exact ⟨k + 1, true, q ++ [p], by omega, by go_num, rfl, HO, Hid.mk' (fun _ => HBX.out), Hid.mk' (fun h => by cases h), by simp at hql ⊢; omega, Hid.mk' (by rw [rf_snoc, List.length_append]; exact HO4.out), HX4⟩
            case measure => simp [intOf]; omega
          · have HO := Hid.mk' (show q ++ [r] ++ [p] = outsF r true (l.take (k + 1)) from by rw [HTK.out, outsF_new (hB0.out rfl) hlr hpr, hq.out])
            have hrB : rfB ⟨p.o, p.v⟩ ⟨r.o, r.v⟩ = false := rfB_false.2 hpr
            rw [hrB] at hNq
            clear hq hB1 hB0 hab hlr hpr hrB
            go_wp2
            go_region_held3 (fun w' => Ext (wr) w' ∧ (∀ b o, b < (wr).heap.size → w'.cell? ⟨b, o, none⟩ = (wr).cell? ⟨b, o, none⟩) ∧ (∀ b o, b < (wr).heap.size → w'.frozen? ⟨b, o, none⟩ = (wr).frozen? ⟨b, o, none⟩)) ((exact held_of (by (repeat (with_reducible (first | exact Ext.refl _ | assumption | exact held_left (by assumption) | apply Ext.drewN | apply Ext.drew | apply Ext.alloc | (refine Ext.setCell ?_ (by first | (simp; done) | (simp; omega) | omega) _) | (refine Ext.trans ?_ (by assumption)) | (refine Ext.trans ?_ (held_left (by assumption))))))))) (first | (go_at_call 44; refine (HAH.out _).mono ?_; rintro e w3 ⟨rfl, hb3⟩; have HE3 := Hid.mk' (show Ext wr w3 by (repeat (with_reducible (first | exact Ext.refl _ | assumption | exact held_left (by assumption) | apply Ext.drewN | apply Ext.drew | apply Ext.alloc | (refine Ext.setCell ?_ (by first | (simp; done) | (simp; omega) | omega) _) | (refine Ext.trans ?_ (by assumption)) | (refine Ext.trans ?_ (held_left (by assumption)))))))))
            clear hb3
            have hO3 := Hid.mk' (owns_ext hown.out HE3.out)
            have hX3 : Hid (Ext (w.alloc (.cells #[.int .u32 r.o, .int .u32 r.v] 56)) w3) := Hid.mk' (hE.out.trans HE3.out)
            have hbw3 : b0 < w3.heap.size := Nat.lt_of_lt_of_le hbw HE3.out.size
            have z1 := (HBB.out.ext HE3.out).lt
            go_wp2
            go_region_held3 (fun w' => Ext (w3) w' ∧ (∀ b o, b < (w3).heap.size → w'.cell? ⟨b, o, none⟩ = (w3).cell? ⟨b, o, none⟩) ∧ (∀ b o, b < (w3).heap.size → w'.frozen? ⟨b, o, none⟩ = (w3).frozen? ⟨b, o, none⟩)) ((exact held_of (by (repeat (with_reducible (first | exact Ext.refl _ | assumption | exact held_left (by assumption) | apply Ext.drewN | apply Ext.drew | apply Ext.alloc | (refine Ext.setCell ?_ (by first | (simp; done) | (simp; omega) | omega) _) | (refine Ext.trans ?_ (by assumption)) | (refine Ext.trans ?_ (held_left (by assumption))))))))) (fail)
            go_wp2_with (at_builtin; refine wpList_append_own _ rfl _ _ 65 rfl (w.heap.size + 1) 56 i0 _ 2 8 Tryz.underlying65 hi hz0 hz1 hz2 rfl (by decide) _ _ _ rfl ((owns_ext hO3.out (by (repeat (with_reducible (first | exact Ext.refl _ | assumption | exact held_left (by assumption) | apply Ext.drewN | apply Ext.drew | apply Ext.alloc | (refine Ext.setCell ?_ (by first | (simp; done) | (simp; omega) | omega) _) | (refine Ext.trans ?_ (by assumption)) | (refine Ext.trans ?_ (held_left (by assumption))))))))) ⟨_, 0, none⟩ 1 1 r.cells rfl rfl (cells_new _ #[.int .u32 r.o, .int .u32 r.v] _) (by intro u hu; simp [Rf.cells] at hu; rcases hu with rfl | rfl <;> rfl) (by unfold maxLen; omega) (by omega) (by have := HEW.out.size; have := HE3.out.size; simp; omega) ?_)
            intro v' w4 hown' hgrow _
            have HX4 : Hid (Ext (w.alloc (.cells #[.int .u32 r.o, .int .u32 r.v] 56)) w4) := Hid.mk' (Below.grown ((hX3.out.drew).alloc (.cells #[.int .u32 r.o, .int .u32 r.v] 56)) hgrow (by have := hX3.out.size; simp at this ⊢; omega) (fun g hg => by have := (hO3.out.lt g hg).1; simp; omega))
            have HO4 := Hid.mk' hown'
            clear g0 z1 f0 f1
            obtain ⟨f0, f1⟩ := HF.out w4 (((Ext.refl w).alloc (.cells #[.int .u32 r.o, .int .u32 r.v] 56)).trans HX4.out)
            have hbw4 : b0 < w4.heap.size := Nat.lt_of_lt_of_le HB.out (((Ext.refl w).alloc (.cells #[.int .u32 r.o, .int .u32 r.v] 56)).trans HX4.out).size
            have hz4 : w.heap.size + 1 ≤ w4.heap.size := by have := HX4.out.size; simpa using this
            clear hown' hgrow
            go_wp2_with ((at_builtin; refine wpList_append_own _ rfl _ _ 65 rfl (w.heap.size + 1) 56 i0 _ 2 8 Tryz.underlying65 hi hz0 hz1 hz2 rfl (by decide) _ _ _ rfl ((owns_ext HO4.out (by (repeat (with_reducible (first | exact Ext.refl _ | assumption | exact held_left (by assumption) | apply Ext.drewN | apply Ext.drew | apply Ext.alloc | (refine Ext.setCell ?_ (by first | (simp; done) | (simp; omega) | omega) _) | (refine Ext.trans ?_ (by assumption)) | (refine Ext.trans ?_ (held_left (by assumption))))))))) ⟨_, 0, none⟩ 1 1 p.cells rfl rfl (cells_new _ #[.int .u32 p.o, .int .u32 p.v] _) (by intro u hu; simp [Rf.cells] at hu; rcases hu with rfl | rfl <;> rfl) (by unfold maxLen; omega) (by omega) (by simp; omega) ?_))
            intro v' w5 hown' hgrow _
            have HX5 : Hid (Ext (w.alloc (.cells #[.int .u32 r.o, .int .u32 r.v] 56)) w5) := Hid.mk' (Below.grown ((HX4.out).alloc (.cells #[.int .u32 p.o, .int .u32 p.v] 56)) hgrow (by have := HX4.out.size; simp at this ⊢; omega) (fun g hg => by have := (HO4.out.lt g hg).1; simp; omega))
            have HO5 := Hid.mk' hown'
            clear hown' hgrow
            go_wp2
            go_roundw
            case rel => exact ⟨k + 1, true, q ++ [r] ++ [p], by omega, by go_num, rfl, HO, Hid.mk' (fun _ => HBX.out), Hid.mk' (fun h => by cases h), by simp at hql ⊢; omega, Hid.mk' (by rw [List.length_append, List.length_append, rf_snoc, rf_snoc, List.append_assoc]; exact HO5.out), HX5⟩
            case measure => simp [intOf]; omega
    · have hkk : k = l.length := by omega
      subst hkk
      have hrl : (Rf.cells r).length = 2 := rfl
      rw [List.take_length] at hq hB1 hB0
      have hq1 : b.toNat ≤ 1 := by cases b <;> decide
      cases b with
      | true =>
        have HO : Hid (q = putF r l) := Hid.mk' (by rw [hq.out]; exact if_pos rfl)
        obtain ⟨a', c', rfl⟩ := owns_shape hown.out
        clear hq hB1 hB0
        go_wp2
        go_ret
        exact ⟨a', q.length, c', rfl, by rw [HO.out], by rw [← HO.out]; exact owns_base hown.out (by omega), HEW.out⟩
      | false =>
        have HO : Hid (q ++ [r] = putF r l) := Hid.mk' (by rw [outsF_end (hB0.out rfl), hq.out])
        have hX3 := hE
        clear hq hB1 hB0
        go_wp2_with (at_builtin; refine wpList_append_own _ rfl _ _ 65 rfl (w.heap.size + 1) 56 i0 _ 2 8 Tryz.underlying65 hi hz0 hz1 hz2 rfl (by decide) _ _ _ rfl ((owns_ext hown.out (by (repeat (with_reducible (first | exact Ext.refl _ | assumption | exact held_left (by assumption) | apply Ext.drewN | apply Ext.drew | apply Ext.alloc | (refine Ext.setCell ?_ (by first | (simp; done) | (simp; omega) | omega) _) | (refine Ext.trans ?_ (by assumption)) | (refine Ext.trans ?_ (held_left (by assumption))))))))) ⟨_, 0, none⟩ 1 1 r.cells rfl rfl (cells_new _ #[.int .u32 r.o, .int .u32 r.v] _) (by intro u hu; simp [Rf.cells] at hu; rcases hu with rfl | rfl <;> rfl) (by unfold maxLen; omega) (by omega) (by have := HEW.out.size; have := HE3.out.size; simp; omega) ?_)
        intro v' w4 hown' hgrow _
        have HX4 : Hid (Ext (w.alloc (.cells #[.int .u32 r.o, .int .u32 r.v] 56)) w4) := Hid.mk' (Below.grown ((hX3.out).alloc (.cells #[.int .u32 r.o, .int .u32 r.v] 56)) hgrow (by have := hX3.out.size; simp at this ⊢; omega) (fun g hg => by have := (hown.out.lt g hg).1; simp; omega))
        obtain ⟨a', c', rfl⟩ := owns_shape hown'
        have HO4 := Hid.mk' hown'
        have HEW4 := Hid.mk' (((Ext.refl w).alloc (.cells #[.int .u32 r.o, .int .u32 r.v] 56)).trans HX4.out)
        clear hown' hgrow
        go_wp2
        go_ret
        exact ⟨a', q.length + 1, c', rfl, by rw [← HO.out]; simp, by rw [← HO.out, rf_snoc]; exact owns_base HO4.out (by omega), HEW4.out⟩

end Go.Proofs.YthdjinicmnhgpaaGreatDoor


/-
slices.Clone of a row.
-/
namespace Go.Proofs.YthdjinicmnhgpaaGreatDoor
open Go.RowKit

theorem flatK_len (l : List K) : (l.map K.pc).flatten.length = l.length * 5 := by
  have := flat_length 5 (l.map K.pc) (fun xs hxs => by simp at hxs; obtain ⟨c, _, rfl⟩ := hxs; rfl)
  rwa [List.length_map] at this
theorem news_row {w : World} {b o : Nat} {l : List K} (h : ∀ i, i < l.length → ∀ j, j < 5 → w.cell? ⟨b, o + i * 5 + j, none⟩ = ((l.map K.pc).getD i [])[j]?) : ∀ j u, ((l.map K.pc).flatten)[j]? = some u → w.cell? ((⟨b, o, none⟩ : Addr).add j) = some u := by
  intro j u hj
  have hjl : j < l.length * 5 := by
    rcases Nat.lt_or_ge j (l.length * 5) with h | h
    · exact h
    · rw [List.getElem?_eq_none (by rw [flatK_len]; exact h)] at hj; cases hj
  have hplain : (⟨b, o, none⟩ : Addr).add j = ⟨b, o + j, none⟩ := by unfold Addr.add; split <;> simp_all
  have hi : j / 5 < l.length := by omega
  have hq := flat_get 5 (l.map K.pc) (fun xs hxs => by simp at hxs; obtain ⟨c, _, rfl⟩ := hxs; rfl) (j / 5) (by simpa using hi) (j % 5) (Nat.mod_lt _ (by decide))
  have hm : j / 5 * 5 + j % 5 = j := by omega
  rw [hm] at hq
  rw [hplain, ← hj, hq, ← h (j / 5) hi (j % 5) (Nat.mod_lt _ (by decide)), Nat.add_assoc, hm]

end Go.Proofs.YthdjinicmnhgpaaGreatDoor


/-
A copy of an event; the refs that an event uses, the program's answer and the reference's.
-/
namespace Go.Proofs.YthdjinicmnhgpaaGreatDoor
open Go.RowKit

/-- All that it has is the call's own, from N on. -/
structure EL.owned (N : Nat) (W : World) (y : EL) : Prop where
  b : W.ownsRow N 158 5 (.slice y.ba y.e.b.length y.bc) y.e.b.length ((y.e.b.map K.pc).flatten)
  a : W.ownsRow N 158 5 (.slice y.aa y.e.a.length y.ac) y.e.a.length ((y.e.a.map K.pc).flatten)
  r : W.ownsRow N 70 2 (.slice y.ra y.e.rs.length y.rc) y.e.rs.length ((y.e.rs.map Rf.cells).flatten)
def usesE (e : Ev) : List Rf := if rowedB e.kind = true then [⟨e.ao, e.av⟩] else if e.kind = 7 then e.rs else []

/-- The refs that an event uses, each in a block of the call's own. -/
theorem one_owns {W : World} {N : Nat} (o v : Int) (hN : N ≤ W.heap.size) : (W.alloc (.cells #[.int .u32 o, .int .u32 v] 70)).ownsRow N 70 2 (.slice (some ⟨W.heap.size, 0, none⟩) 1 1) 1 ((([⟨o, v⟩] : List Rf).map Rf.cells).flatten) :=
  ⟨rfl, .inr ⟨W.heap.size, 1, #[.int .u32 o, .int .u32 v], rfl, hN, Blk.new W _ _, Nat.le_refl _, by unfold maxLen; omega, rfl, rfl⟩⟩

set_option maxRecDepth 100000 in set_option maxHeartbeats 4000000 in
theorem euses_any (x : EL) (w : World) (hx : x.at 5 K.pc w) (hs : x.e.small) :
    Calls Tryz.prog 54 #[x.agg] w fun e w' => ∃ (a' : Option Addr) (n c' : Nat), e = .returned (.slice a' n c') ∧ n = (usesE x.e).length ∧ w'.ownsRow w.heap.size 70 2 (.slice a' n c') n ((usesE x.e).map Rf.cells).flatten ∧ Ext w w' := by
  have HRW := Hid.mk' (fun W => rowed_any x W)
  obtain ⟨⟨k1, ao1, av1, old1, b1, a1, r1, fl1⟩, ba1, bc1, aa1, ac1, ra1, rc1⟩ := x
  have HCR := Hid.mk' (fun W (h : Ext w W) => clonef_any r1 ra1 rc1 W (hx.r.ext h) hs.r)
  unfold EL.agg at HRW ⊢
  simp only at HRW ⊢
  clear hx hs
  cases hr : rowedB k1 with
  | true =>
    have HU := Hid.mk' (show usesE ⟨k1, ao1, av1, old1, b1, a1, r1, fl1⟩ = [⟨ao1, av1⟩] from if_pos hr)
    rw [hr] at HRW
    clear hr
    go_enter Tryz.func54, Tryz.ntmps54
    go_wp2_with (go_at_call 76; refine (HRW.out _).mono ?_; rintro e w1 ⟨rfl, hb1⟩; (have hE_w1 : Ext (w.alloc (.cells #[.int .u8 k1, .int .u32 ao1, .int .u32 av1, .int .u8 old1, .slice ba1 b1.length bc1, .slice aa1 a1.length ac1, .slice ra1 r1.length rc1, .int .u8 fl1] 83)) w1 := (by (repeat (with_reducible (first | exact Ext.refl _ | assumption | exact held_left (by assumption) | apply Ext.drewN | apply Ext.drew | apply Ext.alloc | (refine Ext.setCell ?_ (by first | (simp; done) | (simp; omega) | omega) _) | (refine Ext.trans ?_ (by assumption)) | (refine Ext.trans ?_ (held_left (by assumption))))))); obtain ⟨hc_w1, hf_w1⟩ := hE_w1.cells; have hz_w1 := hE_w1.size); have HB1 := Hid.mk' hb1)
    go_ret
    refine ⟨_, _, _, rfl, by rw [HU.out]; rfl, ?_, by (repeat (with_reducible (first | exact Ext.refl _ | assumption | exact held_left (by assumption) | apply Ext.drewN | apply Ext.drew | apply Ext.alloc | (refine Ext.setCell ?_ (by first | (simp; done) | (simp; omega) | omega) _) | (refine Ext.trans ?_ (by assumption)) | (refine Ext.trans ?_ (held_left (by assumption))))))⟩
    rw [HU.out]
    exact one_owns ao1 av1 (by have := HB1.out.size; simp at this; omega)
  | false =>
    rw [hr] at HRW
    by_cases h7 : k1 = 7
    · have HU := Hid.mk' (show usesE ⟨k1, ao1, av1, old1, b1, a1, r1, fl1⟩ = r1 from (if_neg (by rw [hr]; simp)).trans (if_pos h7))
      have h7' : (k1 == 7) = true := by simpa using h7
      clear hr h7
      go_enter Tryz.func54, Tryz.ntmps54
      go_wp2_with (first
        | (go_at_call 76; refine (HRW.out _).mono ?_; rintro e w1 ⟨rfl, hb1⟩; (have hE_w1 : Ext (w.alloc (.cells #[.int .u8 k1, .int .u32 ao1, .int .u32 av1, .int .u8 old1, .slice ba1 b1.length bc1, .slice aa1 a1.length ac1, .slice ra1 r1.length rc1, .int .u8 fl1] 83)) w1 := (by (repeat (with_reducible (first | exact Ext.refl _ | assumption | exact held_left (by assumption) | apply Ext.drewN | apply Ext.drew | apply Ext.alloc | (refine Ext.setCell ?_ (by first | (simp; done) | (simp; omega) | omega) _) | (refine Ext.trans ?_ (by assumption)) | (refine Ext.trans ?_ (held_left (by assumption))))))); obtain ⟨hc_w1, hf_w1⟩ := hE_w1.cells; have hz_w1 := hE_w1.size); have HB1 := Hid.mk' hb1)
        | (go_at_call 81; refine (HCR.out _ (by (repeat (with_reducible (first | exact Ext.refl _ | assumption | exact held_left (by assumption) | apply Ext.drewN | apply Ext.drew | apply Ext.alloc | (refine Ext.setCell ?_ (by first | (simp; done) | (simp; omega) | omega) _) | (refine Ext.trans ?_ (by assumption)) | (refine Ext.trans ?_ (held_left (by assumption)))))))).mono ?_; rintro e w2 ⟨a', c', rfl, ho2, hb2⟩; have HO2 := Hid.mk' ho2; clear ho2))
      go_ret
      refine ⟨_, _, _, rfl, by rw [HU.out], ?_, by (repeat (with_reducible (first | exact Ext.refl _ | assumption | exact held_left (by assumption) | apply Ext.drewN | apply Ext.drew | apply Ext.alloc | (refine Ext.setCell ?_ (by first | (simp; done) | (simp; omega) | omega) _) | (refine Ext.trans ?_ (by assumption)) | (refine Ext.trans ?_ (held_left (by assumption))))))⟩
      rw [HU.out]
      exact owns_base HO2.out (by have := HB1.out.size; simp at this; omega)
    · have HU := Hid.mk' (show usesE ⟨k1, ao1, av1, old1, b1, a1, r1, fl1⟩ = [] from (if_neg (by rw [hr]; simp)).trans (if_neg h7))
      have h7' : (k1 == 7) = false := by simpa using h7
      clear hr h7
      go_enter Tryz.func54, Tryz.ntmps54
      go_wp2_with (go_at_call 76; refine (HRW.out _).mono ?_; rintro e w1 ⟨rfl, hb1⟩; (have hE_w1 : Ext (w.alloc (.cells #[.int .u8 k1, .int .u32 ao1, .int .u32 av1, .int .u8 old1, .slice ba1 b1.length bc1, .slice aa1 a1.length ac1, .slice ra1 r1.length rc1, .int .u8 fl1] 83)) w1 := (by (repeat (with_reducible (first | exact Ext.refl _ | assumption | exact held_left (by assumption) | apply Ext.drewN | apply Ext.drew | apply Ext.alloc | (refine Ext.setCell ?_ (by first | (simp; done) | (simp; omega) | omega) _) | (refine Ext.trans ?_ (by assumption)) | (refine Ext.trans ?_ (held_left (by assumption))))))); obtain ⟨hc_w1, hf_w1⟩ := hE_w1.cells; have hz_w1 := hE_w1.size))
      go_ret
      refine ⟨_, _, _, rfl, by rw [HU.out]; rfl, ?_, by (repeat (with_reducible (first | exact Ext.refl _ | assumption | exact held_left (by assumption) | apply Ext.drewN | apply Ext.drew | apply Ext.alloc | (refine Ext.setCell ?_ (by first | (simp; done) | (simp; omega) | omega) _) | (refine Ext.trans ?_ (by assumption)) | (refine Ext.trans ?_ (held_left (by assumption))))))⟩
      rw [HU.out]
      exact World.ownsRow_nil _ _ _ _

theorem one_owns2 {W : World} {N : Nat} {T : TypeId} (o v : Int) (hN : N ≤ W.heap.size) : (W.alloc (.cells #[.int .u32 o, .int .u32 v] T)).ownsRow N T 2 (.slice (some ⟨W.heap.size, 0, none⟩) 1 1) 1 ((([⟨o, v⟩] : List Rf).map Rf.cells).flatten) :=
  ⟨rfl, .inr ⟨W.heap.size, 1, #[.int .u32 o, .int .u32 v], rfl, hN, Blk.new W _ _, Nat.le_refl _, by unfold maxLen; omega, rfl, rfl⟩⟩
set_option maxRecDepth 100000 in set_option maxHeartbeats 4000000 in
theorem reuses_any (x : EL) (w : World) (hx : x.at 6 K.rc w) :
    Calls Tryz.prog 63 #[x.agg] w fun e w' => ∃ (a' : Option Addr) (n c' : Nat), e = .returned (.slice a' n c') ∧ n = (usesE x.e).length ∧ Sl w' (.slice a' n c') 2 ((usesE x.e).map Rf.cells) ∧ Ext w w' := by
  obtain ⟨⟨k1, ao1, av1, old1, b1, a1, r1, fl1⟩, ba1, bc1, aa1, ac1, ra1, rc1⟩ := x
  have HL := Hid.mk' hx.r
  unfold EL.agg
  simp only at HL ⊢
  clear hx
  by_cases h4 : 4 ≤ k1
  · by_cases h6 : k1 ≤ 6
    · have HU := Hid.mk' (show usesE ⟨k1, ao1, av1, old1, b1, a1, r1, fl1⟩ = [⟨ao1, av1⟩] from if_pos (decide_eq_true ⟨h4, h6⟩))
      go_enter Tryz.func63, Tryz.ntmps63
      go_wp2
      go_ret
      refine ⟨_, _, _, rfl, by rw [HU.out]; rfl, ?_, by (repeat (with_reducible (first | exact Ext.refl _ | assumption | exact held_left (by assumption) | apply Ext.drewN | apply Ext.drew | apply Ext.alloc | (refine Ext.setCell ?_ (by first | (simp; done) | (simp; omega) | omega) _) | (refine Ext.trans ?_ (by assumption)) | (refine Ext.trans ?_ (held_left (by assumption))))))⟩
      rw [HU.out]
      exact Sl.of_owns (base := 0) (e := 56) (by have h := one_owns2 (W := w.alloc (.cells #[.int .u8 k1, .int .u32 ao1, .int .u32 av1, .int .u8 old1, .slice ba1 b1.length bc1, .slice aa1 a1.length ac1, .slice ra1 r1.length rc1, .int .u8 fl1] 67)) (T := 56) ao1 av1 (Nat.zero_le _); rw [World.size_alloc] at h; exact h) (by intro xs hxs; simp at hxs; subst hxs; rfl)
    · have hr : rowedB k1 = false := decide_eq_false (fun h => h6 h.2)
      by_cases h7 : k1 = 7
      · have HU := Hid.mk' (show usesE ⟨k1, ao1, av1, old1, b1, a1, r1, fl1⟩ = r1 from (if_neg (by rw [hr]; simp)).trans (if_pos h7))
        have h7' : (k1 == 7) = true := by simpa using h7
        clear hr h7
        go_enter Tryz.func63, Tryz.ntmps63
        go_wp2
        go_ret
        refine ⟨_, _, _, rfl, by rw [HU.out], ?_, by (repeat (with_reducible (first | exact Ext.refl _ | assumption | exact held_left (by assumption) | apply Ext.drewN | apply Ext.drew | apply Ext.alloc | (refine Ext.setCell ?_ (by first | (simp; done) | (simp; omega) | omega) _) | (refine Ext.trans ?_ (by assumption)) | (refine Ext.trans ?_ (held_left (by assumption))))))⟩
        rw [HU.out]
        exact HL.out.ext (by (repeat (with_reducible (first | exact Ext.refl _ | assumption | exact held_left (by assumption) | apply Ext.drewN | apply Ext.drew | apply Ext.alloc | (refine Ext.setCell ?_ (by first | (simp; done) | (simp; omega) | omega) _) | (refine Ext.trans ?_ (by assumption)) | (refine Ext.trans ?_ (held_left (by assumption)))))))
      · have HU := Hid.mk' (show usesE ⟨k1, ao1, av1, old1, b1, a1, r1, fl1⟩ = [] from (if_neg (by rw [hr]; simp)).trans (if_neg h7))
        have h7' : (k1 == 7) = false := by simpa using h7
        clear hr h7
        go_enter Tryz.func63, Tryz.ntmps63
        go_wp2
        go_ret
        refine ⟨_, _, _, rfl, by rw [HU.out]; rfl, ?_, by (repeat (with_reducible (first | exact Ext.refl _ | assumption | exact held_left (by assumption) | apply Ext.drewN | apply Ext.drew | apply Ext.alloc | (refine Ext.setCell ?_ (by first | (simp; done) | (simp; omega) | omega) _) | (refine Ext.trans ?_ (by assumption)) | (refine Ext.trans ?_ (held_left (by assumption))))))⟩
        rw [HU.out]
        exact nilRef _
  · have HU := Hid.mk' (show usesE ⟨k1, ao1, av1, old1, b1, a1, r1, fl1⟩ = [] from (if_neg (by rw [show rowedB k1 = false from decide_eq_false (fun h => h4 h.1)]; simp)).trans (if_neg (by simp only; omega)))
    have h7' : (k1 == 7) = false := by simp; omega
    go_enter Tryz.func63, Tryz.ntmps63
    go_wp2
    go_ret
    refine ⟨_, _, _, rfl, by rw [HU.out]; rfl, ?_, by (repeat (with_reducible (first | exact Ext.refl _ | assumption | exact held_left (by assumption) | apply Ext.drewN | apply Ext.drew | apply Ext.alloc | (refine Ext.setCell ?_ (by first | (simp; done) | (simp; omega) | omega) _) | (refine Ext.trans ?_ (by assumption)) | (refine Ext.trans ?_ (held_left (by assumption))))))⟩
    rw [HU.out]
    exact nilRef _

end Go.Proofs.YthdjinicmnhgpaaGreatDoor

/-
All refs that transactions use, in plain words.
-/
namespace Go.Proofs.YthdjinicmnhgpaaGreatDoor
open Go.RowKit

/-- What events use, in their order. -/
def usesEs (es : List Ev) : List Rf := (es.map usesE).flatten
def usesTs (ts : List Tx) : List Rf := (ts.map fun t => usesEs t.es).flatten
/-- What transactions use, rising, each once. -/
noncomputable def usedL (ts : List Tx) : List Rf := putL [] (usesTs ts)
theorem usesEs_snoc (es : List Ev) (e : Ev) : usesEs (es ++ [e]) = usesEs es ++ usesE e := by unfold usesEs; simp
theorem usesTs_snoc (ts : List Tx) (t : Tx) : usesTs (ts ++ [t]) = usesTs ts ++ usesEs t.es := by unfold usesTs; simp
theorem usesTs_app (a b : List Tx) : usesTs (a ++ b) = usesTs a ++ usesTs b := by unfold usesTs; simp
theorem putL_app (acc a b : List Rf) : putL acc (a ++ b) = putL (putL acc a) b := by unfold putL; rw [List.foldl_append]
theorem putL_snoc (acc a : List Rf) (r : Rf) : putL acc (a ++ [r]) = putF r (putL acc a) := by unfold putL; rw [List.foldl_append]; rfl
theorem putF_len (r : Rf) : ∀ l : List Rf, (putF r l).length ≤ l.length + 1
  | [] => by unfold putF; simp
  | y :: l => by
    have ih := putF_len r l
    unfold putF
    split
    · simp only [List.length_cons]; omega
    · split <;> simp only [List.length_cons] <;> omega
theorem putL_len : ∀ (l acc : List Rf), (putL acc l).length ≤ acc.length + l.length
  | [], acc => by unfold putL; simp
  | r :: l, acc => by
    have h1 := putL_len l (putF r acc)
    have h2 := putF_len r acc
    show (putL (putF r acc) l).length ≤ _
    simp only [List.length_cons]; omega
theorem usesE_len {e : Ev} {M : Nat} (h : e.rs.length ≤ M) (hM : 1 ≤ M) : (usesE e).length ≤ M := by
  unfold usesE
  split
  · exact hM
  · split
    · exact h
    · simp
theorem usesEs_len {M : Nat} (hM : 1 ≤ M) : ∀ {es : List Ev}, (∀ e ∈ es, e.rs.length ≤ M) → (usesEs es).length ≤ es.length * M
  | [], _ => by simp [usesEs]
  | e :: es, h => by
    have ih := usesEs_len hM (es := es) (fun x hx => h x (List.mem_cons_of_mem _ hx))
    have h1 := usesE_len (h e (by simp)) hM
    have e1 : usesEs (e :: es) = usesE e ++ usesEs es := by unfold usesEs; simp
    rw [e1, List.length_append, List.length_cons, Nat.succ_mul]
    omega
theorem usesTs_len {M L : Nat} (hM : 1 ≤ M) : ∀ {ts : List Tx}, (∀ t ∈ ts, t.es.length ≤ L ∧ ∀ e ∈ t.es, e.rs.length ≤ M) → (usesTs ts).length ≤ ts.length * (L * M)
  | [], _ => by simp [usesTs]
  | t :: ts, h => by
    have ih := usesTs_len (L := L) hM (ts := ts) (fun x hx => h x (List.mem_cons_of_mem _ hx))
    have h1 := usesEs_len hM (h t (by simp)).2
    have h2 := Nat.mul_le_mul_right M (h t (by simp)).1
    have e1 : usesTs (t :: ts) = usesEs t.es ++ usesTs ts := by unfold usesTs; simp
    rw [e1, List.length_append, List.length_cons, Nat.succ_mul]
    omega
theorem usedL_rise (ts : List Tx) : Rise (usedL ts) := putL_rise Rise.nil
theorem usedL_mem {ts : List Tx} {x : Rf} : x ∈ usedL ts ↔ x ∈ usesTs ts := by
  unfold usedL; rw [putL_mem]; simp
theorem usedL_app {a b : List Tx} {x : Rf} (h : x ∈ usedL (a ++ b)) : x ∈ usedL a ∨ x ∈ usedL b := by
  rw [usedL_mem, usesTs_app, List.mem_append] at h
  rw [usedL_mem, usedL_mem]
  exact h
open Classical in
theorem len_sub : ∀ {l m : List Rf}, l.Nodup → (∀ x ∈ l, x ∈ m) → l.length ≤ m.length
  | [], _, _, _ => Nat.zero_le _
  | a :: l, m, hn, h => by
    have hn' := List.nodup_cons.1 hn
    have ha := h a (by simp)
    have ih := len_sub (l := l) (m := m.erase a) hn'.2 (fun x hx => by
      have hne : x ≠ a := fun e => hn'.1 (e ▸ hx)
      exact (List.mem_erase_of_ne hne).2 (h x (List.mem_cons_of_mem _ hx)))
    rw [List.length_erase_of_mem ha] at ih
    have : 0 < m.length := List.length_pos_of_mem ha
    simp only [List.length_cons]; omega
theorem Rise.nodup {l : List Rf} (h : Rise l) : l.Nodup := by
  unfold Rise at h
  exact h.imp (fun {a b} q e => by subst e; exact Rf.irr a q)
theorem usedL_two (a b : List Tx) : (usedL (a ++ b)).length ≤ (usedL a).length + (usedL b).length := by
  have h := len_sub (m := usedL a ++ usedL b) (usedL_rise (a ++ b)).nodup (fun x hx => List.mem_append.2 (usedL_app hx))
  rwa [List.length_append] at h
theorem Rise.at {l : List Rf} (h : Rise l) {i : Nat} (hi : i + 1 < l.length) : l[i].lt l[i + 1] := by
  unfold Rise at h
  rw [List.pairwise_iff_getElem] at h
  exact h i (i + 1) (by omega) hi (by omega)

end Go.Proofs.YthdjinicmnhgpaaGreatDoor

/-
All refs that transactions use: the reference's Used.
-/
namespace Go.Proofs.YthdjinicmnhgpaaGreatDoor
open Go.RowKit

theorem rf_len (l : List Rf) : ∀ xs ∈ l.map Rf.cells, xs.length = 2 := by
  intro xs hxs
  rw [List.mem_map] at hxs
  obtain ⟨p, _, rfl⟩ := hxs
  rfl

set_option maxRecDepth 100000 in set_option maxHeartbeats 8000000 in
theorem rused_any (ts : List TL) (a : Option Addr) (c : Nat) (w : World) (ht : TS 6 K.rc w (.slice a ts.length c) ts) (hn : ts.length ≤ 1000) (hm : ∀ t ∈ ts, t.es.length ≤ 1000) (hs : ∀ t ∈ ts, ∀ e ∈ t.es, e.e.rs.length ≤ 1000) :
    Calls Tryz.prog 38 #[.slice a ts.length c] w fun e w' => ∃ a' n c', e = .returned (.slice a' n c') ∧ n = (usedL (ts.map TL.t)).length ∧ Sl w' (.slice a' n c') 2 ((usedL (ts.map TL.t)).map Rf.cells) ∧ Ext w w' := by
  have HT := Hid.mk' ht
  have HM := Hid.mk' hm
  have HLN : Hid (∀ k, k ≤ ts.length → (usesTs ((ts.take k).map TL.t)).length ≤ 1000000000) := Hid.mk' (fun k hk => by
    have h := usesTs_len (M := 1000) (L := 1000) (by decide) (ts := (ts.take k).map TL.t) (fun t ht => by
      obtain ⟨x, hx, rfl⟩ := List.mem_map.1 ht
      have hx := List.mem_of_mem_take hx
      refine ⟨by show (x.es.map EL.e).length ≤ 1000; rw [List.length_map]; exact hm x hx, fun e he => ?_⟩
      obtain ⟨y, hy, rfl⟩ := List.mem_map.1 he
      exact hs x hx y hy)
    rw [List.length_map, List.length_take] at h
    omega)
  clear ht hm hs
  go_enter Tryz.func38, Tryz.ntmps38
  go_wp2
  go_loopg [3, 4] ts.length (fun z v i wr => ∃ (k : Nat) (a' : Option Addr) (m c' : Nat), z + k = ts.length ∧ i = .int .i64 k ∧ v = .slice a' m c' ∧ Hid (m = (putL [] (usesTs ((ts.take k).map TL.t))).length) ∧ Hid (Sl wr (.slice a' m c') 2 ((putL [] (usesTs ((ts.take k).map TL.t))).map Rf.cells)) ∧ Hid (Ext w wr))
  case atStart => exact ⟨0, none, 0, 0, by omega, rfl, rfl, Hid.mk' rfl, Hid.mk' ⟨none, 0, rfl, .inl rfl⟩, Hid.mk' (Ext.refl _)⟩
  case round =>
    obtain ⟨k, a', m', c', hzk, rfl, rfl, hml, hown, hE⟩ := hrel
    by_cases hlt : k < ts.length
    · obtain ⟨b, o, rfl, hb, hx⟩ := HT.out.row.at_ (i := k) (by simpa using hlt)
      have HF := Hid.mk' (fun W (h : Ext w W) => TL.at_ hlt hx hb h)
      have HES := Hid.mk' (HT.out.sl _ (List.getElem_mem hlt))
      have HMM := Hid.mk' (HM.out _ (List.getElem_mem hlt))
      have HTK : Hid (usesTs ((ts.take (k + 1)).map TL.t) = usesTs ((ts.take k).map TL.t) ++ usesEs (ts[k].es.map EL.e)) := Hid.mk' (by rw [List.take_succ_eq_append_getElem hlt, List.map_append]; exact usesTs_snoc _ _)
      have HLK := Hid.mk' (HLN.out (k + 1) hlt)
      obtain ⟨q, hq⟩ : ∃ q, q = usesTs ((ts.take k).map TL.t) := ⟨_, rfl⟩
      rw [← hq] at hown hml HTK
      obtain ⟨t, hte⟩ : ∃ t, t = ts[k] := ⟨_, rfl⟩
      rw [← hte] at HF HES HMM HTK
      have HLT := Hid.mk' hlt
      have HBB := Hid.mk' hb
      clear hte hx hb hq
      obtain ⟨xid, st, es, ta, tc⟩ := t
      simp only at HF HMM HTK
      have HES2 : Hid (ES 6 K.rc w (.slice ta es.length tc) es) := HES
      rw [HTK.out, List.length_append] at HLK
      clear HES
      obtain ⟨wo, hwo⟩ : ∃ x, x = wr := ⟨_, rfl⟩
      subst hwo
      go_wp2
      go_loopg [3, 5] es.length (fun z2 v i wr => ∃ (n : Nat) (a2 : Option Addr) (m2 c2 : Nat), z2 + n = es.length ∧ i = .int .i64 n ∧ v = .slice a2 m2 c2 ∧ Hid (m2 = (putL [] (q ++ usesEs ((es.take n).map EL.e))).length) ∧ Hid (Sl wr (.slice a2 m2 c2) 2 ((putL [] (q ++ usesEs ((es.take n).map EL.e))).map Rf.cells)) ∧ Hid (Ext w wr))
      case atStart => exact ⟨0, a', m', c', by omega, rfl, rfl, by rw [show usesEs ((es.take 0).map EL.e) = [] from rfl, List.append_nil]; exact hml, by rw [show usesEs ((es.take 0).map EL.e) = [] from rfl, List.append_nil]; exact hown, hE⟩
      case round =>
        obtain ⟨n, a2, m2, c2, hzn, rfl, rfl, hm2, hO, hK⟩ := hrel
        obtain ⟨f0, f1, f2⟩ := HF.out wr hK.out
        have hbw : b < wr.heap.size := Nat.lt_of_lt_of_le HBB.out hK.out.size
        by_cases hlt2 : n < es.length
        · obtain ⟨b2, o2, rfl, hb2, hx2⟩ := HES2.out.row.at_ (i := n) (by simpa using hlt2)
          obtain ⟨g0, g1, g2, g3, g4, g5, g6, g7⟩ := EL.at_ hlt2 hx2 hb2 hK.out
          have hbw2 : b2 < wr.heap.size := Nat.lt_of_lt_of_le hb2 hK.out.size
          have HTN : Hid (usesEs ((es.take (n + 1)).map EL.e) = usesEs ((es.take n).map EL.e) ++ usesE es[n].e) := Hid.mk' (by rw [List.take_succ_eq_append_getElem hlt2, List.map_append]; exact usesEs_snoc _ _)
          have HLN2 : Hid (q.length + (usesEs ((es.take n).map EL.e)).length + (usesE es[n].e).length ≤ 1000000000) := Hid.mk' (by
            have h1 : es.map EL.e = (es.take (n + 1)).map EL.e ++ (es.drop (n + 1)).map EL.e := by rw [← List.map_append, List.take_append_drop]
            have h2 : usesEs (es.map EL.e) = usesEs ((es.take (n + 1)).map EL.e) ++ usesEs ((es.drop (n + 1)).map EL.e) := by
              conv => lhs; rw [h1]
              unfold usesEs; rw [List.map_append, List.flatten_append]
            have h3 := HLK.out
            rw [h2, HTN.out, List.length_append, List.length_append] at h3
            omega)
          have HUS := Hid.mk' (fun W (h : Ext w W) => reuses_any es[n] W ((HES2.out.sl _ (List.getElem_mem hlt2)).ext h))
          obtain ⟨p, hp⟩ : ∃ p, p = usesEs ((es.take n).map EL.e) := ⟨_, rfl⟩
          rw [← hp] at HTN HLN2 hO hm2
          obtain ⟨x, hxx⟩ : ∃ x, x = es[n] := ⟨_, rfl⟩
          rw [← hxx] at g0 g1 g2 g3 g4 g5 g6 g7 HTN HLN2 HUS
          have HLT2 := Hid.mk' hlt2
          clear hxx hp hx2
          obtain ⟨⟨k1, ao1, av1, old1, b1, a1, r1, fl1⟩, ba1, bc1, aa1, ac1, ra1, rc1⟩ := x
          unfold EL.agg at HUS
          simp only at g0 g1 g2 g3 g4 g5 g6 g7 HUS HTN HLN2
          obtain ⟨U, hU⟩ : ∃ U, U = usesE ⟨k1, ao1, av1, old1, b1, a1, r1, fl1⟩ := ⟨_, rfl⟩
          rw [← hU] at HUS HTN HLN2
          clear hU
          have hml2 := HMM.out
          have hlk := HLT.out
          obtain ⟨wv, hwv⟩ : ∃ x, x = wr := ⟨_, rfl⟩
          subst hwv
          go_wp2_with (go_at_call 63; refine (HUS.out _ hK.out).mono ?_; rintro e w3 ⟨a3, n3, c3, rfl, rfl, ho3, hb3⟩; have HO3 := Hid.mk' ho3; have HB3 := Hid.mk' (hK.out.trans hb3); have HX3 := Hid.mk' hb3; clear ho3 hb3)
          clear f0 f1 f2 g0 g1 g2 g3 g4 g5 g6 g7
          go_loopg [3, 7] U.length (fun z3 v i wr => ∃ (j : Nat) (a4 : Option Addr) (m4 c4 : Nat), z3 + j = U.length ∧ i = .int .i64 j ∧ v = .slice a4 m4 c4 ∧ Hid (m4 = (putL [] (q ++ p ++ U.take j)).length) ∧ Hid (Sl wr (.slice a4 m4 c4) 2 ((putL [] (q ++ p ++ U.take j)).map Rf.cells)) ∧ Hid (Ext w3 wr))
          case atStart => exact ⟨0, a2, m2, c2, by omega, rfl, rfl, by rw [List.take_zero, List.append_nil]; exact hm2, by rw [List.take_zero, List.append_nil]; exact Hid.mk' (hO.out.ext HX3.out), Hid.mk' (Ext.refl _)⟩
          case round =>
            obtain ⟨j, a4, m4, c4, hzj, rfl, rfl, hm4, hO4, hK4⟩ := hrel
            by_cases hlt3 : j < U.length
            · obtain ⟨b5, o5, rfl, hb5, hx5⟩ := HO3.out.at_ (i := j) (by simpa using hlt3)
              obtain ⟨r0, r1'⟩ := Rf.at_ hlt3 hx5 hb5 hK4.out
              have hbw5 : b5 < wr.heap.size := Nat.lt_of_lt_of_le hb5 hK4.out.size
              have HPL := Hid.mk' (show putL [] (q ++ p ++ U.take (j + 1)) = putF U[j] (putL [] (q ++ p ++ U.take j)) by rw [List.take_succ_eq_append_getElem hlt3, ← List.append_assoc, putL_snoc])
              have hb10 : (putL [] (q ++ p ++ U.take j)).length ≤ 1000000000 := by
                have h1 := putL_len (q ++ p ++ U.take j) []
                have h2 := HLN2.out
                rw [List.length_append, List.length_append, List.length_take] at h1
                simp only [List.length_nil] at h1
                omega
              have hsl := hO4.out
              rw [hm4.out] at hsl
              have HPF := Hid.mk' (rputf_any (putL [] (q ++ p ++ U.take j)) U[j] a4 c4 wr hsl hb10)
              rw [← hm4.out, ← HPL.out] at HPF
              obtain ⟨x, hxx⟩ : ∃ x, x = U[j] := ⟨_, rfl⟩
              rw [← hxx] at r0 r1' HPF
              have HL3 := Hid.mk' hlt3
              have hjU : U.length ≤ 1000000000 := by have := HLN2.out; omega
              clear hxx hx5 HPL hb10 hsl
              go_wp2_with (go_at_call 64; refine HPF.out.mono ?_; rintro e w5 ⟨a6, n6, c6, rfl, hn6, ho6, hb6⟩; have HN6 := Hid.mk' hn6; have HO6 := Hid.mk' ho6; have HB6 := Hid.mk' (hK4.out.trans hb6); clear hn6 ho6 hb6)
              go_roundg (U.length - (j + 1))
              case measure => have := HL3.out; omega
              case rel =>
                refine ⟨j + 1, a6, n6, c6, Nat.sub_add_cancel HL3.out, by go_num, rfl, HN6, Hid.mk' (Sl.of_owns (base := wr.heap.size) (e := 56) ?_ (rf_len _)), HB6⟩
                rw [List.length_map, ← HN6.out]; exact HO6.out
            · obtain rfl : j = U.length := by omega
              rw [List.take_length, List.append_assoc, ← HTN.out] at hm4 hO4
              go_wp2
              go_roundg (es.length - (n + 1))
              case measure => have := HLT2.out; omega
              case rel => exact ⟨n + 1, a4, m4, c4, Nat.sub_add_cancel HLT2.out, by go_num, rfl, hm4, hO4, Hid.mk' (HB3.out.trans hK4.out)⟩
        · obtain rfl : n = es.length := by omega
          rw [List.take_length, ← HTK.out] at hm2 hO
          have hlk := HLT.out
          go_wp2
          go_roundg (ts.length - (k + 1))
          case measure => have := HLT.out; omega
          case rel => exact ⟨k + 1, a2, m2, c2, Nat.sub_add_cancel HLT.out, by go_num, rfl, hm2, hO, hK⟩
    · obtain rfl : k = ts.length := by omega
      rw [List.take_length] at hown hml
      go_wp2
      go_ret
      exact ⟨a', m', c', rfl, hml.out, hown.out, hE.out⟩

end Go.Proofs.YthdjinicmnhgpaaGreatDoor


/-
Some refs' relations alone: the program's Only.
-/
namespace Go.Proofs.YthdjinicmnhgpaaGreatDoor
open Go.RowKit

theorem RR.owned.cap {N : Nat} {W : World} {q : RR} (h : q.owned N W) : q.r.cols.length ≤ q.c := by
  obtain ⟨_, h⟩ := h
  rcases h with ⟨hv, hn⟩ | ⟨g, cap, cur, hv, _, hb, hn, _⟩
  · omega
  · simp only [Value.slice.injEq] at hv
    omega
theorem hasR_some {o v : Int} {l : List Rl} (h : hasR o v l = true) : ∃ x, getR o v l = some x := by
  cases e : getR o v l with
  | none => rw [getR_none.1 e] at h; cases h
  | some x => exact ⟨x, rfl⟩
theorem cget_not {N g : Nat} {c : Value} {ps : List RR} {o v : Int} {w : World} (hc : Ca w N g c ps) (h : hasR o v (ps.map RR.r) = false) :
    Calls Tryz.prog 33 #[.pointer (some ⟨g, 0, none⟩), .agg #[.int .u32 o, .int .u32 v]] w fun e w' => ∃ (a' : Option Addr) (c' : Nat), e = .returned (.tuple #[.agg #[.int .u32 0, .int .u32 0, .string ⟨#[]⟩, .int .u8 0, .slice a' 0 c'], .bool false]) ∧ RR.in w' ⟨RR.zero.r, a', c'⟩ ∧ Ext w w' := by
  refine (cget_any N g c ps o v w hc).mono fun e w' hq => ?_
  obtain ⟨q, h1, h2, h3, h4⟩ := hq
  have hg : getP o v ps = none := by
    have := getP_is o v ps
    rw [h] at this
    exact Option.not_isSome_iff_eq_none.1 (by rw [this]; simp)
  rw [hg, Option.getD_none] at h2
  obtain ⟨qr, qa, qc⟩ := q
  simp only at h2
  subst h2
  exact ⟨qa, qc, by rw [h1, h]; rfl, h3.in, h4⟩

def COnlyPost (l : List Rl) (rs : List Rf) (w : World) (e : Ending) (w' : World) : Prop :=
  ∃ pv, e = .returned (.tuple #[.pointer pv, .int .i64 (onlyE rs l)]) ∧ (onlyE rs l = 0 → pv = some ⟨w.heap.size, 0, none⟩ ∧ ∃ c qs, Ca w' w.heap.size w.heap.size c qs ∧ qs.map RR.r = l.filter (ofRefs rs)) ∧ (onlyE rs l ≠ 0 → pv = none) ∧ Ext w w'

end Go.Proofs.YthdjinicmnhgpaaGreatDoor

/-
Refs sorted and struck in place, in plain words: rows of refs as flat rows of cells, a block that is known whole, orders.
-/
namespace Go.Proofs.YthdjinicmnhgpaaGreatDoor
open Go.RowKit Go.Sort

instance rfInh : Inhabited Rf := ⟨⟨0, 0⟩⟩
noncomputable instance rfDec : DecidableEq Rf := fun a b => Classical.propDecidable (a = b)
/-- The cells of refs. -/
def fl2 (l : List Rf) : List Value := (l.map Rf.cells).flatten
theorem fl2_len (l : List Rf) : (fl2 l).length = l.length * 2 := flatR_len l
theorem fl2_get (l : List Rf) {i : Nat} (hi : i < l.length) {j : Nat} (hj : j < 2) : (fl2 l)[i * 2 + j]? = (Rf.cells l[i])[j]? := by
  unfold fl2
  rw [flat_get 2 (l.map Rf.cells) (fun xs hxs => by simp at hxs; obtain ⟨c, _, rfl⟩ := hxs; rfl) i (by simpa using hi) j hj, getD_map Rf.cells l hi]
theorem flatK_fl2 (l : List Rf) : flatK Rf.cells 2 l.toArray = (fl2 l).toArray := by
  refine ext_get! (by rw [size_flatK]; simp [fl2_len]) (fun t ht => ?_)
  rw [size_flatK] at ht
  have ht' : t < l.length * 2 := by simpa using ht
  rw [get_flatK _ _ _ _ ht]
  have hi : t / 2 < l.length := by omega
  have hj : t % 2 < 2 := Nat.mod_lt _ (by decide)
  have h := fl2_get l hi hj
  rw [show t / 2 * 2 + t % 2 = t by omega] at h
  have e1 : (fl2 l).toArray[t]! = ((fl2 l)[t]?).getD default := by
    simp [Array.getElem!_eq_getD, Array.getD_eq_getD_getElem?]
  have e2 : l.toArray[t / 2]! = l[t / 2] := by
    rw [getElem!_pos l.toArray _ (by simpa using hi)]; simp
  rw [e1, h, e2]
  have h3 : t % 2 < (Rf.cells l[t / 2]).length := hj
  rw [getElem!_pos (Rf.cells l[t / 2]) (t % 2) h3, List.getElem?_eq_getElem h3]
  rfl
/-- A block that begins with refs holds them. -/
theorem Blk.holds {w : World} {b : Nat} {l : List Rf} {rest : List Value} {T : TypeId} (h : Blk w b (fl2 l ++ rest).toArray T) : HoldsK Rf.cells 2 w b 0 l.toArray := by
  unfold HoldsK
  rw [flatK_fl2]
  intro j hj
  refine ⟨?_, h.frozen _⟩
  have hj' : j < (fl2 l).length := by simpa using hj
  rw [h.cell, Nat.zero_add]
  rw [show ((fl2 l ++ rest).toArray)[j]? = (fl2 l ++ rest)[j]? by simp, List.getElem?_append_left hj', List.getElem?_eq_getElem hj', getElem!_pos (fl2 l).toArray j hj]
  simp
theorem putCells_app (F F' R : List Value) (h : F'.length = F.length) : putCells id 0 F'.toArray (F ++ R).toArray = (F' ++ R).toArray := by
  apply Array.ext_getElem?
  intro k
  simp only [putCells, Array.getElem?_mapIdx, List.getElem?_toArray]
  by_cases hk : k < F.length
  · rw [List.getElem?_append_left hk, List.getElem?_append_left (by omega), List.getElem?_eq_getElem hk, List.getElem?_eq_getElem (by omega), Option.map_some, if_pos ⟨Nat.zero_le _, by simp; omega⟩, Nat.sub_zero, getElem!_pos _ _ (by simp; omega)]
    simp
  · rw [List.getElem?_append_right (by omega), List.getElem?_append_right (by omega), h]
    cases R[k - F.length]? with
    | none => rfl
    | some x => rw [Option.map_some, if_neg (by simp; omega)]
/-- What the kit's rows are in a block that is known whole. -/
theorem Blk.put {w : World} {b : Nat} {l d : List Rf} {rest : List Value} {T : TypeId} (h : Blk w b (fl2 l ++ rest).toArray T) (hd : d.length = l.length) (n : Nat) (os : Array Obj) :
    Blk (sortWorldK Rf.cells 2 w b 0 n d.toArray os) b (fl2 d ++ rest).toArray T ∧ Kp (fun x => x = b) w (sortWorldK Rf.cells 2 w b 0 n d.toArray os) := by
  unfold sortWorldK putRowK
  rw [flatK_fl2]
  have hlt := h.lt
  constructor
  · unfold Blk
    rw [heap_grow_old _ _ (by rw [size_putRow]; exact hlt)]
    unfold putRow mapBlock
    simp only [Array.getElem?_modify, heap_ahead, if_true]
    unfold Blk at h
    rw [h, Option.map_some]
    show some (Obj.cells (putCells id 0 (fl2 d).toArray (fl2 l ++ rest).toArray) T (0, 0)) = _
    rw [putCells_app (fl2 l) (fl2 d) rest (by rw [fl2_len, fl2_len, hd])]
  · refine ⟨rfl, rfl, rfl, by rw [size_grow, size_putRow]; exact Nat.le_add_right _ _, fun k hk hs => ?_⟩
    rw [heap_grow_old _ _ (by rw [size_putRow]; exact hk)]
    unfold putRow mapBlock
    simp only [Array.getElem?_modify, heap_ahead]
    rw [if_neg (fun e => hs e.symm)]

/-- How two refs compare. -/
def cfR (x y : Rf) : Int := cmpR x.o x.v y.o y.v
theorem ltR {x y : Rf} : ltOf cfR x y = true ↔ x.lt y := by
  unfold ltOf cfR Rf.lt
  rw [decide_eq_true_iff, cmpR_neg]
theorem ltR_no {x y : Rf} : ltOf cfR x y = false ↔ ¬ x.lt y := by
  rw [← ltR]; simp
theorem swoR : SWO (ltOf cfR) where
  irrefl x := ltR_no.2 (Rf.irr x)
  trans x y z h1 h2 := ltR.2 (Rf.trans (ltR.1 h1) (ltR.1 h2))
  ntrans x y z h1 h2 := ltR_no.2 (by
    have a := ltR_no.1 h1
    have b := ltR_no.1 h2
    unfold Rf.lt aheadP at *
    omega)
theorem perm_of {d d' : Array Rf} (h : PermIn 0 d.size d d') : d'.size = d.size ∧ d'.toList.Perm d.toList := by
  obtain ⟨h1, -, h3⟩ := h
  refine ⟨h1, ?_⟩
  have e1 : d.extract 0 d.size = d := by simp
  have e2 : d'.extract 0 d.size = d' := by rw [← h1]; simp
  rwa [e1, e2] at h3
theorem wax_of {d : Array Rf} {n : Nat} (hn : d.size = n) (h : SortedIn (ltOf cfR) 0 n d) : Wax d.toList := by
  unfold Wax
  rw [List.pairwise_iff_getElem]
  intro i j hi hj hij
  have := ltR_no.1 (h i j (Nat.zero_le _) hij (by rw [← hn]; simpa using hj))
  rwa [getElem!_pos d j (by simpa using hj), getElem!_pos d i (by simpa using hi)] at this

/-- Equal neighbours struck: the kit's word is ours. -/
theorem compF_cons (a : Rf) (l : List Rf) : compF (a :: l) = match l with | [] => [a] | b :: m => if a = b then compF (b :: m) else a :: compF (b :: m) := by
  cases l with
  | nil => rfl
  | cons b m => rfl
theorem compF_snoc : ∀ (l : List Rf) (x : Rf), compF (l ++ [x]) = if l.getLast? = some x then compF l else compF l ++ [x]
  | [], x => by simp [compF]
  | [a], x => by
    by_cases h : a = x
    · subst h; simp [compF]
    · simp [compF, h]
  | a :: b :: l, x => by
    have ih := compF_snoc (b :: l) x
    have e0 : (a :: b :: l).getLast? = (b :: l).getLast? := by simp
    rw [e0]
    show compF (a :: b :: (l ++ [x])) = _
    have ih' : compF (b :: (l ++ [x])) = if (b :: l).getLast? = some x then compF (b :: l) else compF (b :: l) ++ [x] := ih
    rw [compF_cons a (b :: (l ++ [x])), compF_cons a (b :: l)]
    simp only
    rw [ih']
    by_cases h : a = b
    · rw [if_pos h, if_pos h]
    · rw [if_neg h, if_neg h]
      split <;> rfl
theorem compactUpTo_take (l : List Rf) : ∀ m, m ≤ l.length → Go.Lib.compactUpTo l.toArray m = compF (l.take m)
  | 0, _ => by simp [Go.Lib.compactUpTo, compF]
  | m + 1, h => by
    rw [Go.Lib.compactUpTo_succ, compactUpTo_take l m (by omega), List.take_succ_eq_append_getElem (by omega), compF_snoc]
    have e1 : l.toArray[m]! = l[m] := by rw [getElem!_pos _ _ (by simp; omega)]; simp
    rw [e1]
    cases m with
    | zero => simp [Go.Lib.keeps, compF]
    | succ k =>
      have e2 : l.toArray[k + 1 - 1]! = l[k] := by rw [Nat.add_sub_cancel, getElem!_pos _ _ (by simp; omega)]; simp
      have e3 : (l.take (k + 1)).getLast? = some l[k] := by
        rw [List.take_succ_eq_append_getElem (by omega), List.getLast?_concat]
      rw [e3]
      by_cases hh : l[k] = l[k + 1]
      · have hk := Go.Lib.keeps_neg (d := l.toArray) (m := k + 1) (by omega) (by rw [e1, e2, hh])
        rw [hk]; simp [hh]
      · have hk := Go.Lib.keeps_pos (d := l.toArray) (m := k + 1) (by rw [e1, e2]; exact fun e => hh e.symm)
        rw [hk]; simp [hh]
theorem compactUpTo_all' (l : List Rf) : Go.Lib.compactUpTo l.toArray l.toArray.size = compF l := by
  rw [compactUpTo_take l l.toArray.size (by simp)]
  simp

end Go.Proofs.YthdjinicmnhgpaaGreatDoor

/-
The library's sort at refs, laid in plain words.
-/
namespace Go.Proofs.YthdjinicmnhgpaaGreatDoor
open Go.Shelf
def Tryz.sortR_ren : Go.Shelf.Ren := ⟨fun | 6 => 55 | 15 => 83 | 14 => 82 | 28 => 115 | 29 => 116 | 20 => 107 | 21 => 108 | 22 => 109 | 23 => 110 | 24 => 111 | 25 => 112 | 26 => 113 | 27 => 114 | 46 => 135 | 47 => 136 | 48 => 137 | 49 => 138 | 50 => 139 | 57 => 149 | n => n, fun | 22 => 81 | 24 => 70 | 25 => 131 | 3 => 3 | 39 => 164 | 0 => 0 | 53 => 54 | 55 => 60 | 4 => 4 | 46 => 186 | 45 => 185 | 50 => 119 | 5 => 5 | 9 => 9 | 66 => 212 | 70 => 216 | 76 => 229 | 77 => 87 | n => n, fun | n => n⟩
theorem Tryz.sortR : Go.Proofs.SlLaysF0.n6 Tryz.prog Tryz.sortR_ren := {
  mixed := by kernel_rfl
  f6 := ⟨Tryz.f55.name, by decide, Tryz.func55.trans (congrArg some (by kernel_rfl))⟩
  f14 := ⟨Tryz.f82.name, by decide, Tryz.func82.trans (congrArg some (by kernel_rfl))⟩
  f15 := Tryz.func83.trans (congrArg some (by kernel_rfl))
  f20 := ⟨Tryz.f107.name, by decide, Tryz.func107.trans (congrArg some (by kernel_rfl))⟩
  f21 := ⟨Tryz.f108.name, by decide, Tryz.func108.trans (congrArg some (by kernel_rfl))⟩
  f22 := ⟨Tryz.f109.name, by decide, Tryz.func109.trans (congrArg some (by kernel_rfl))⟩
  f23 := ⟨Tryz.f110.name, by decide, Tryz.func110.trans (congrArg some (by kernel_rfl))⟩
  f24 := ⟨Tryz.f111.name, by decide, Tryz.func111.trans (congrArg some (by kernel_rfl))⟩
  f25 := ⟨Tryz.f112.name, by decide, Tryz.func112.trans (congrArg some (by kernel_rfl))⟩
  f26 := ⟨Tryz.f113.name, by decide, Tryz.func113.trans (congrArg some (by kernel_rfl))⟩
  f27 := ⟨Tryz.f114.name, by decide, Tryz.func114.trans (congrArg some (by kernel_rfl))⟩
  f28 := Tryz.func115.trans (congrArg some (by kernel_rfl))
  f29 := Tryz.func116.trans (congrArg some (by kernel_rfl))
  f46 := ⟨Tryz.f135.name, by decide, Tryz.func135.trans (congrArg some (by kernel_rfl))⟩
  f47 := Tryz.func136.trans (congrArg some (by kernel_rfl))
  f48 := Tryz.func137.trans (congrArg some (by kernel_rfl))
  f49 := ⟨Tryz.f138.name, by decide, Tryz.func138.trans (congrArg some (by kernel_rfl))⟩
  f50 := ⟨Tryz.f139.name, by decide, Tryz.func139.trans (congrArg some (by kernel_rfl))⟩
  f57 := ⟨Tryz.f149.name, by decide, Tryz.func149.trans (congrArg some (by kernel_rfl))⟩
  t0 := Tryz.underlying0
  a0 := Tryz.isAgg0
  z0 := Tryz.sizeOf0
  v0 := Tryz.zeroValue0
  t3 := Tryz.underlying3
  a3 := Tryz.isAgg3
  z3 := Tryz.sizeOf3
  v3 := Tryz.zeroValue3
  t4 := Tryz.underlying4
  a4 := Tryz.isAgg4
  z4 := Tryz.sizeOf4
  v4 := Tryz.zeroValue4
  t5 := Tryz.underlying5
  a5 := Tryz.isAgg5
  z5 := Tryz.sizeOf5
  v5 := Tryz.zeroValue5
  t9 := Tryz.underlying9
  a9 := Tryz.isAgg9
  z9 := Tryz.sizeOf9
  v9 := Tryz.zeroValue9
  t22 := Tryz.underlying81
  a22 := Tryz.isAgg81
  z22 := Tryz.sizeOf81
  v22 := Tryz.zeroValue81
  t25 := Tryz.underlying131
  a25 := Tryz.isAgg131
  z25 := Tryz.sizeOf131
  v25 := Tryz.zeroValue131
  t39 := Tryz.underlying164
  a39 := Tryz.isAgg164
  z39 := Tryz.sizeOf164
  v39 := Tryz.zeroValue164
  t45 := Tryz.underlying185
  a45 := Tryz.isAgg185
  z45 := Tryz.sizeOf185
  v45 := Tryz.zeroValue185
  t46 := Tryz.underlying186
  a46 := Tryz.isAgg186
  z46 := Tryz.sizeOf186
  v46 := Tryz.zeroValue186
  t50 := Tryz.underlying119
  a50 := Tryz.isAgg119
  z50 := Tryz.sizeOf119
  v50 := Tryz.zeroValue119
  t53 := Tryz.underlying54
  a53 := Tryz.isAgg54
  z53 := Tryz.sizeOf54
  v53 := Tryz.zeroValue54
  t55 := Tryz.underlying60
  a55 := Tryz.isAgg60
  z55 := Tryz.sizeOf60
  v55 := Tryz.zeroValue60
  t66 := Tryz.underlying212
  a66 := Tryz.isAgg212
  z66 := Tryz.sizeOf212
  v66 := Tryz.zeroValue212
  t70 := Tryz.underlying216
  a70 := Tryz.isAgg216
  z70 := Tryz.sizeOf216
  v70 := Tryz.zeroValue216
  t76 := Tryz.underlying229
  a76 := Tryz.isAgg229
  z76 := Tryz.sizeOf229
  v76 := Tryz.zeroValue229
  t77 := Tryz.underlying87
  a77 := Tryz.isAgg87
  z77 := Tryz.sizeOf87
  v77 := Tryz.zeroValue87 }
end Go.Proofs.YthdjinicmnhgpaaGreatDoor

/-
Refs sorted: the library's sort by its contract.
-/
namespace Go.Proofs.YthdjinicmnhgpaaGreatDoor
open Go.RowKit Go.Sort Go.Shelf

theorem grow_of {W w' : World} (h : Ext W w') (hd : W.drawn ≤ w'.drawn) : ∃ q os', w' = grow (W.drewN q) os' := by
  refine ⟨w'.drawn - W.drawn, w'.heap.extract W.heap.size w'.heap.size, ?_⟩
  obtain ⟨h1, h2, h3, h4, h5⟩ := h
  have hh : w'.heap = W.heap ++ w'.heap.extract W.heap.size w'.heap.size := by
    apply Array.ext_getElem?
    intro k
    rcases Nat.lt_or_ge k W.heap.size with hk | hk
    · rw [Array.getElem?_append_left hk, h5 k hk]
    · rw [Array.getElem?_append_right hk]
      rcases Nat.lt_or_ge k w'.heap.size with hk2 | hk2
      · rw [Array.getElem?_eq_getElem hk2, Array.getElem?_eq_getElem (by simp; omega), Array.getElem_extract]
        congr 1
        congr 1
        omega
      · rw [Array.getElem?_eq_none hk2, Array.getElem?_eq_none (by simp; omega)]
  have hd2 : W.drawn + (w'.drawn - W.drawn) = w'.drawn := by omega
  cases w'
  cases W
  simp only [grow, World.drewN] at *
  simp only [World.mk.injEq]
  exact ⟨hh, h2, hd2.symm, h1, h3⟩

set_option maxRecDepth 100000 in set_option maxHeartbeats 1600000 in
theorem cmpor_same (a b : Int) (B : Nat) (w : World) (h0 : w.cell? ⟨B, 0, none⟩ = some (.int .i64 a)) (h1 : w.cell? ⟨B, 1, none⟩ = some (.int .i64 b)) (_hB : B < w.heap.size) :
    Calls Tryz.prog 84 #[.slice (some ⟨B, 0, none⟩) 2 2] w fun e w' => e = .returned (.int .i64 (orI a b)) ∧ w = w' := by
  by_cases ha : a = 0
  · subst ha
    by_cases hb : b = 0
    · subst hb
      go_enter Tryz.func84, Tryz.ntmps84
      go_wp2
      go_loop [8] (fun i => i = .int .i64 0 ∨ i = .int .i64 1 ∨ i = .int .i64 2) (fun i => 2 - (intOf i).toNat)
      case atStart => exact .inl rfl
      case round =>
        rcases hrel with rfl | rfl | rfl
        · go_wp2
          go_round
          case rel => exact .inr (.inl rfl)
          case measure => simp [intOf]
        · go_wp2
          go_round
          case rel => exact .inr (.inr rfl)
          case measure => simp [intOf]
        · go_wp2
          go_ret
          exact ⟨ret_int (by unfold orI; simp), rfl⟩
    · have hb' : (b != 0) = true := by simpa using hb
      have HR := Hid.mk' (show orI 0 b = b by unfold orI; simp)
      clear hb
      go_enter Tryz.func84, Tryz.ntmps84
      go_wp2
      go_loop [8] (fun i => i = .int .i64 0 ∨ i = .int .i64 1) (fun i => 2 - (intOf i).toNat)
      case atStart => exact .inl rfl
      case round =>
        rcases hrel with rfl | rfl
        · go_wp2
          go_round
          case rel => exact .inr rfl
          case measure => simp [intOf]
        · go_wp2
          go_ret
          exact ⟨ret_int HR.out.symm, rfl⟩
  · have ha' : (a != 0) = true := by simpa using ha
    have HR := Hid.mk' (show orI a b = a by unfold orI; rw [if_pos ha])
    clear ha
    go_enter Tryz.func84, Tryz.ntmps84
    go_wp2
    go_loop [8] (fun i => i = .int .i64 0) (fun _ => 0)
    case atStart => rfl
    case round =>
      subst hrel
      go_wp2
      go_ret
      exact ⟨ret_int HR.out.symm, rfl⟩

set_option maxRecDepth 100000 in set_option maxHeartbeats 4000000 in
theorem compare_dr (o1 v1 o2 v2 : Int) (w : World) :
    Calls Tryz.prog 56 #[.agg #[.int .u32 o1, .int .u32 v1], .agg #[.int .u32 o2, .int .u32 v2]] w fun e w' => e = .returned (.int .i64 (cmpR o1 v1 o2 v2)) ∧ ∃ q os', w' = grow (w.drewN q) os' := by
  have HC := Hid.mk' (fun w => cmpu_any o1 o2 w)
  have HD := Hid.mk' (fun w => cmpu_any v1 v2 w)
  have HR := Hid.mk' (show orI (cmpI o1 o2) (cmpI v1 v2) = cmpR o1 v1 o2 v2 from rfl)
  obtain ⟨A, hA⟩ : ∃ A, A = cmpI o1 o2 := ⟨_, rfl⟩
  obtain ⟨B, hB⟩ : ∃ B, B = cmpI v1 v2 := ⟨_, rfl⟩
  rw [← hA] at HC HR
  rw [← hB] at HD HR
  clear hA hB
  go_enter Tryz.func56, Tryz.ntmps56
  go_wp2
  go_region_held3 (fun w' => Ext ((w.alloc (.cells #[.int .u32 o1, .int .u32 v1] 70)).alloc (.cells #[.int .u32 o2, .int .u32 v2] 70)) w' ∧ (∀ b o, b < ((w.alloc (.cells #[.int .u32 o1, .int .u32 v1] 70)).alloc (.cells #[.int .u32 o2, .int .u32 v2] 70)).heap.size → w'.cell? ⟨b, o, none⟩ = ((w.alloc (.cells #[.int .u32 o1, .int .u32 v1] 70)).alloc (.cells #[.int .u32 o2, .int .u32 v2] 70)).cell? ⟨b, o, none⟩) ∧ (∀ b o, b < ((w.alloc (.cells #[.int .u32 o1, .int .u32 v1] 70)).alloc (.cells #[.int .u32 o2, .int .u32 v2] 70)).heap.size → w'.frozen? ⟨b, o, none⟩ = ((w.alloc (.cells #[.int .u32 o1, .int .u32 v1] 70)).alloc (.cells #[.int .u32 o2, .int .u32 v2] 70)).frozen? ⟨b, o, none⟩) ∧ w.drawn ≤ w'.drawn) (exact ⟨held_of (by (repeat (with_reducible (first | exact Ext.refl _ | assumption | exact held_left (by assumption) | apply Ext.drewN | apply Ext.drew | apply Ext.alloc | (refine Ext.setCell ?_ (by first | (simp; done) | (simp; omega) | omega) _) | (refine Ext.trans ?_ (by assumption)) | (refine Ext.trans ?_ (held_left (by assumption))))))) |>.1, (held_of (by (repeat (with_reducible (first | exact Ext.refl _ | assumption | exact held_left (by assumption) | apply Ext.drewN | apply Ext.drew | apply Ext.alloc | (refine Ext.setCell ?_ (by first | (simp; done) | (simp; omega) | omega) _) | (refine Ext.trans ?_ (by assumption)) | (refine Ext.trans ?_ (held_left (by assumption)))))))).2.1, (held_of (by (repeat (with_reducible (first | exact Ext.refl _ | assumption | exact held_left (by assumption) | apply Ext.drewN | apply Ext.drew | apply Ext.alloc | (refine Ext.setCell ?_ (by first | (simp; done) | (simp; omega) | omega) _) | (refine Ext.trans ?_ (by assumption)) | (refine Ext.trans ?_ (held_left (by assumption)))))))).2.2, by (first | exact Nat.le_refl _ | assumption | (simp only [World.alloc, World.setCell, World.drew, World.drewN] at *; omega))⟩) (first
    | (go_at_call_of 85 (Value.int .u32 o1); refine (HC.out _).mono ?_; rintro e w1 ⟨rfl, rfl⟩)
    | (go_at_call_of 85 (Value.int .u32 v1); refine (HD.out _).mono ?_; rintro e w1 ⟨rfl, rfl⟩)
    | (go_at_call 84; refine (cmpor_same A B _ _ (by go_simp) (by go_simp) (by simp)).mono ?_; rintro e w1 ⟨rfl, rfl⟩))
  go_wp2
  go_ret
  exact ⟨ret_int HR.out, grow_of (by (repeat (with_reducible (first | exact Ext.refl _ | assumption | exact held_left (by assumption) | apply Ext.drewN | apply Ext.drew | apply Ext.alloc | (refine Ext.setCell ?_ (by first | (simp; done) | (simp; omega) | omega) _) | (refine Ext.trans ?_ (by assumption)) | (refine Ext.trans ?_ (held_left (by assumption))))))) (by (first | exact Nat.le_refl _ | assumption | (simp only [World.alloc, World.setCell, World.drew, World.drewN] at *; omega)))⟩

theorem cmpLaysR (blk size : Nat) (w : World) : CmpLays Tryz.prog 56 #[] Rf.cells 2 cfR blk 0 size w :=
  fun _ _ _ _ x y => compare_dr x.o x.v y.o y.v _
theorem rf_one (x : Rf) : ∀ v ∈ Rf.cells x, v.oneCell' = true := by
  intro u hu; simp [Rf.cells] at hu; rcases hu with rfl | rfl <;> rfl

/-- The library's sort of refs in a block that is known whole. -/
theorem sort_any (l : List Rf) (blk cap : Nat) (rest : List Value) (w : World) (hB : Blk w blk (fl2 l ++ rest).toArray 70) (hn : l.length ≤ 1000000000000) :
    Calls Tryz.prog 55 #[.slice (some ⟨blk, 0, none⟩) l.length cap, .func (.func 56) #[] #[]] w fun e w' => e = .returned (.tuple #[]) ∧ ∃ d : List Rf, d.length = l.length ∧ d.Perm l ∧ Wax d ∧ Blk w' blk (fl2 d ++ rest).toArray 70 ∧ Kp (fun x => x = blk) w w' := by
  have eg : ∀ args w, (callFunc 56 args).run Tryz.prog w = .ok (.enter 56 args) w := enters_of Tryz.func56 (by kernel_rfl) rfl
  have h := AnyQ.slices_SortFunc Tryz.sortR 2 Tryz.isAgg70 Tryz.sizeOf70 Rf.cells (fun _ => rfl) rf_one cfR swoR 56 #[] blk 0 cap l.toArray w eg (cmpLaysR blk l.toArray.size w) hB.holds hB.lt (by simp; omega)
  change Calls Tryz.prog 55 _ _ _ at h
  have hs : l.toArray.size = l.length := by simp
  rw [hs] at h
  refine h.mono fun e w' ⟨he, d', n, os, hp, hso, hw⟩ => ⟨he, d'.toList, ?_⟩
  have hp2 := perm_of (d := l.toArray) (by rw [hs]; exact hp)
  have hl : d'.toList.length = l.length := by have := hp2.1; simpa using this
  have hput := hB.put hl n os
  have e1 : d'.toList.toArray = d' := by simp
  rw [e1] at hput
  subst hw
  exact ⟨hl, by have := hp2.2; simpa using this, wax_of (by have := hp2.1; simpa using this) hso, hput.1, hput.2⟩
theorem sort_none (p : Option Addr) (cap : Nat) (fv : Value) (w : World) :
    Calls Tryz.prog 55 #[.slice p 0 cap, fv] w fun e w' => e = .returned (.tuple #[]) ∧ w' = w := by
  have h := AnyF.slices_SortFunc_none Tryz.sortR p cap fv w
  exact h

end Go.Proofs.YthdjinicmnhgpaaGreatDoor
