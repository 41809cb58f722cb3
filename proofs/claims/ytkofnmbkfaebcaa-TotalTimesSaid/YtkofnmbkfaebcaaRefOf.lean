/-
The reference's Of: the loop over any cells.
-/
import Derived.Test.YtkofnmbkfaebcaaRefAdd
namespace Go.Proofs.Ytkofnmbkfaebcaa
open Go.RowKit

structure R.wf (r : R) : Prop where
  k : r.k = 0 ∨ r.k = 1 ∨ r.k = 2
  x : 0 ≤ r.x ∧ r.x < 2 ^ 64
  y : 0 ≤ r.y ∧ r.y < 2 ^ 64
  n : wrap64 r.n = r.n
  s : r.s.size ≤ 9223372036854775807

theorem R.wf.own {r : R} (h : r.wf) : r.own.wf := ⟨by have := h.x; simp only [R.own]; omega, by have := h.y; simp only [R.own]; omega, h.n, h.s⟩

theorem S.scale_one (d : S) : d.scale 1 = d := by unfold S.scale; simp

theorem S.zeroT : encT S.zero = #[.int .i64 0, .int .i64 0, .int .i64 0, .int .i64 0, .int .i64 0, .int .i64 0, .int .i64 0] := by
  have w0 : wrap64 0 = 0 := by unfold wrap64; omega
  unfold encT S.zero; simp only [w0]

set_option maxRecDepth 100000 in set_option maxHeartbeats 1600000 in
theorem rof_any (l : List R) (v : Value) (w : World) (hl : Sl w v 6 (l.map R.cells)) (hlen : l.length ≤ 400) (hwf : ∀ r ∈ l, r.wf) :
    Calls Try.prog 24 #[v] w fun e w' => e = .returned (.agg (encT (sumS (l.map R.own)))) ∧ Ext w w' := by
  obtain ⟨a, cap, rfl, hs⟩ := hl
  simp only [List.length_map] at *
  rcases hs with h0 | ⟨b, o, rfl, hb, hc⟩
  · have : l = [] := by simpa using h0
    subst this
    go_enter Try.func24, Try.ntmps24
    go_wp2
    refine wp_loop_rounds 1 ?_
    rw [rounds_succ]
    go_wp2
    simp [bodyPost, results, Try.results24, go_sem]
    exact ⟨S.zeroT.symm, by (repeat (with_reducible (first | exact Ext.refl _ | assumption | exact held_left (by assumption) | apply Ext.drewN | apply Ext.drew | apply Ext.alloc | (refine Ext.setCell ?_ (by first | (simp; done) | (simp; omega) | omega) _) | (refine Ext.trans ?_ (by assumption)) | (refine Ext.trans ?_ (held_left (by assumption))))))⟩
  · have Hc := Hid.mk' hc
    have Hwf := Hid.mk' hwf
    clear hc hwf
    go_enter Try.func24, Try.ntmps24
    go_wp2
    go_loopw [4] (fun i wr => ∃ k : Nat, k ≤ l.length ∧ i = .int .i64 k ∧ Blk wr w.heap.size (encT S.zero) 56 ∧ Blk wr (w.heap.size + 1) (encT (sumS ((l.take k).map R.own))) 56 ∧ Ext w wr) (fun i _ => l.length - (intOf i).toNat)
    case atStart => exact ⟨0, Nat.zero_le _, rfl, by rw [S.zeroT]; exact (Blk.new _ _ _).alloc _, by rw [List.take_zero]; show Blk _ _ (encT S.zero) _; rw [S.zeroT]; exact Blk.new' _ _ (by simp), by (repeat (with_reducible (first | exact Ext.refl _ | assumption | exact held_left (by assumption) | apply Ext.drewN | apply Ext.drew | apply Ext.alloc | (refine Ext.setCell ?_ (by first | (simp; done) | (simp; omega) | omega) _) | (refine Ext.trans ?_ (by assumption)) | (refine Ext.trans ?_ (held_left (by assumption))))))⟩
    case round =>
      obtain ⟨k, hk, rfl, hB0, hB1, hE⟩ := hrel
      by_cases hlt : k < l.length
      · obtain ⟨f0, f1, f2, f3, f4, f5⟩ := R.cellsAt Hc hE hb hlt
        have hrw := Hid.mk' (Hwf.out l[k] (List.getElem_mem hlt))
        have hst : sumS ((l.take (k + 1)).map R.own) = (sumS ((l.take k).map R.own)).plus l[k].own.S := by
          rw [List.take_succ_eq_append_getElem hlt, List.map_append, List.map_cons, List.map_nil, sumS_snoc]
        have hst := Hid.mk' hst
        obtain ⟨r, hr⟩ : ∃ r, r = l[k] := ⟨_, rfl⟩
        rw [← hr] at f0 f1 f2 f3 f4 f5 hrw hst
        obtain ⟨s, hs⟩ : ∃ s, s = sumS ((l.take k).map R.own) := ⟨_, rfl⟩
        rw [← hs] at hB1 hst
        clear hs
        obtain ⟨p0, p1, p2, p3, p4, p5⟩ := R.cellsAt Hc (Ext.refl w) hb hlt
        rw [← hr] at p0 p1 p2 p3 p4 p5
        clear hr
        obtain ⟨rk, rty, rn, rx, ry, rs⟩ := r
        have hrx : 0 ≤ rx := hrw.out.x.1
        have hry : 0 ≤ ry := hrw.out.y.1
        obtain ⟨x, rfl⟩ := Int.eq_ofNat_of_zero_le hrx
        obtain ⟨y, rfl⟩ := Int.eq_ofNat_of_zero_le hry
        clear hrx hry
        have g0 := hB0.cell
        have g0f := hB0.frozen
        have g1 := hB1.cell
        have g1f := hB1.frozen
        simp only [encT] at g0 g1
        have HE := Hid.mk' hE
        have lb : b < wr.heap.size := Nat.lt_of_lt_of_le hb hE.size
        clear hE
        dsimp only at p0 p1 p2 p3 p4 p5
        have l0 := hB0.lt
        have l1 := hB1.lt
        dsimp only at f0 f1 f2 f3 f4 f5
        go_wp2
        go_still_tail 5, (by kernel_rfl)
        change wpList _ _ _ _ _ wr.drew
        go_wp2_with (go_at_call 27; refine (radd_any s rk rty rn x y rs 1 _ hrw.out.k).mono ?_; rw [S.scale_one]; simp only [encT]; rintro e w1 ⟨rfl, hb1⟩; have q0 := hB0.drew.ext hb1; have q1 := hB1.drew.ext hb1; have q0c := q0.cell; have q1c := q1.cell; have q0f := q0.frozen; have q1f := q1.frozen; simp only [encT] at q0c q1c)
        go_roundw
        case rel =>
          have hE := HE.out
          refine ⟨k + 1, by omega, by go_num, ?_, ?_, ?_⟩
          · repeat (with_reducible (first | exact q0 | refine Blk.other ?_ _ _ (by simp)))
          · rw [hst.out]; exact ((((((q1.set 0 _).set 1 _).set 2 _).set 3 _).set 4 _).set 5 _).set 6 _
          · (repeat (with_reducible (first | exact Ext.refl _ | assumption | exact held_left (by assumption) | apply Ext.drewN | apply Ext.drew | apply Ext.alloc | (refine Ext.setCell ?_ (by first | (simp; done) | (simp; omega) | omega) _) | (refine Ext.trans ?_ (by assumption)) | (refine Ext.trans ?_ (held_left (by assumption))))))
        case measure => simp [intOf]; omega
      · have hkk : k = l.length := by omega
        subst hkk
        rw [List.take_length] at hB1
        have g0 := hB0.cell
        have g0f := hB0.frozen
        have g1 := hB1.cell
        simp only [encT] at g0 g1
        have HE := Hid.mk' hE
        clear hE
        go_wp2
        have hE := HE.out
        simp [bodyPost, results, Try.results24, go_sem, g0, g1, g0f]
        exact ⟨rfl, by (repeat (with_reducible (first | exact Ext.refl _ | assumption | exact held_left (by assumption) | apply Ext.drewN | apply Ext.drew | apply Ext.alloc | (refine Ext.setCell ?_ (by first | (simp; done) | (simp; omega) | omega) _) | (refine Ext.trans ?_ (by assumption)) | (refine Ext.trans ?_ (held_left (by assumption))))))⟩

end Go.Proofs.Ytkofnmbkfaebcaa
