/-
The walk of TotalTurned.
-/
import Derived.Test.YtkofnmbkfaebcaaAwake23
import Derived.Test.YtkofnmbkfaebcaaOwnL
import Derived.Maps.AppendAt
import Derived.Deep.CutBlock
namespace Go.Proofs.Ytkofnmbkfaebcaa
open Go.RowKit

theorem owns_grown {w w1 : World} {row : Option Nat} {base : Nat} {e : TypeId} {size n : Nat} {v : Value} {xs : List Value} (h : w.ownsRow base e size v n xs) (hg : w.grownBy w1 row) (hne : ∀ g, v.ownBlock = some g → row ≠ some g) : w1.ownsRow base e size v n xs := by
  obtain ⟨h1, h2⟩ := h
  refine ⟨h1, ?_⟩
  rcases h2 with h2 | ⟨g, cap, cur, hv, hb, hh, hr⟩
  · exact .inl h2
  · have hlt : g < w.heap.size := Blk.lt (b := g) hh
    exact .inr ⟨g, cap, cur, hv, hb, (hg.block g hlt (fun e => hne g (by rw [hv]; rfl) e.symm)).trans hh, hr⟩
theorem owns_lt {w : World} {base : Nat} {e : TypeId} {size n : Nat} {v : Value} {xs : List Value} (h : w.ownsRow base e size v n xs) {g : Nat} (hg : v.ownBlock = some g) : g < w.heap.size := by
  rcases h.2 with ⟨rfl, _⟩ | ⟨g', cap, cur, rfl, hb, hh, hr⟩
  · simp [Value.ownBlock] at hg
  · simp [Value.ownBlock] at hg; subst hg; exact Blk.lt (b := g') hh

theorem S.zero_plus' (s : S) : S.zero.plus s = s := by unfold S.plus S.zero; simp
theorem foldS_from' (l : List C) : ∀ s : Go.Proofs.Ytkofnmbkfaebcaa.S, l.foldl (fun s c => s.plus c.S) s = s.plus (sumS l) := by
  induction l with
  | nil => intro s; simp [sumS, S.plus, S.zero]
  | cons c l ih =>
    intro s
    have h1 : sumS (c :: l) = (S.zero.plus c.S).plus (sumS l) := by unfold sumS; rw [List.foldl_cons]; exact ih _
    rw [List.foldl_cons, ih, h1, S.zero_plus']; unfold S.plus; congr 1 <;> dsimp only <;> omega
theorem sumS_cons' (c : C) (l : List C) : sumS (c :: l) = c.S.plus (sumS l) := by
  have := foldS_from' l (S.zero.plus c.S)
  unfold sumS; rw [List.foldl_cons, this, S.zero_plus']; rfl

abbrev Pr : Type := Int × Int
def prCells (p : Pr) : List Value := [.int .i16 p.1, .int .i16 p.2]
def cellsT (l : List C) : List (List Value) := l.map C.cells
theorem cellsT_len (l : List C) : (cellsT l).length = l.length := by simp [cellsT]
def mulW (x y u v : Nat) : Nat × Nat := (cMulBits x y u v).getD (0, 0)
def plainC (p : Pr) : C := ⟨2, 4, 0, floatOfInt .f64 p.1, floatOfInt .f64 p.2, ByteArray.empty⟩
def turnC (u v : Nat) (p : Pr) : C := ⟨2, 4, 0, (mulW (floatOfInt .f64 p.1) (floatOfInt .f64 p.2) u v).1, (mulW (floatOfInt .f64 p.1) (floatOfInt .f64 p.2) u v).2, ByteArray.empty⟩
def okP (p : Pr) : Prop := -1000 ≤ p.1 ∧ p.1 ≤ 1000 ∧ -1000 ≤ p.2 ∧ p.2 ≤ 1000
def SX : List Pr → Int | [] => 0 | p :: l => p.1 + SX l
def SY : List Pr → Int | [] => 0 | p :: l => p.2 + SY l

theorem fl_lt (n : Int) : floatOfInt .f64 n < 2 ^ 64 := Ieee.Format.write_lt Ieee.double (.number (decide (n < 0)) n.natAbs 0)
theorem fl_w2 {a b : Int} (ha : a.natAbs < 2 ^ 53) (hb : b.natAbs < 2 ^ 53) : W2 (floatOfInt .f64 a) (floatOfInt .f64 b) a b := ⟨Fl.FI.fw a ha, Fl.FI.fw b hb, fl_lt a, fl_lt b⟩

theorem prod_small {a b : Int} {m n : Nat} (h1 : a.natAbs ≤ m) (h2 : b.natAbs ≤ n) : (a * b).natAbs ≤ m * n := by
  rw [Int.natAbs_mul]; exact Nat.mul_le_mul h1 h2

theorem turn_bits {p : Pr} {c d : Int} (hp : okP p) (hc : c.natAbs ≤ 500) (hd : d.natAbs ≤ 500) :
    cMulBits (floatOfInt .f64 p.1) (floatOfInt .f64 p.2) (floatOfInt .f64 c) (floatOfInt .f64 d) = some (mulW (floatOfInt .f64 p.1) (floatOfInt .f64 p.2) (floatOfInt .f64 c) (floatOfInt .f64 d)) ∧
    W2 (mulW (floatOfInt .f64 p.1) (floatOfInt .f64 p.2) (floatOfInt .f64 c) (floatOfInt .f64 d)).1 (mulW (floatOfInt .f64 p.1) (floatOfInt .f64 p.2) (floatOfInt .f64 c) (floatOfInt .f64 d)).2 (p.1 * c - p.2 * d) (p.1 * d + p.2 * c) ∧
    (p.1 * c - p.2 * d).natAbs ≤ 1048576 ∧ (p.1 * d + p.2 * c).natAbs ≤ 1048576 := by
  unfold okP at hp
  have k1 := prod_small (a := p.1) (b := c) (m := 1000) (by omega) hc
  have k2 := prod_small (a := p.2) (b := d) (m := 1000) (by omega) hd
  have k3 := prod_small (a := p.1) (b := d) (m := 1000) (by omega) hd
  have k4 := prod_small (a := p.2) (b := c) (m := 1000) (by omega) hc
  obtain ⟨x, y, e, h⟩ := mul_bits (fl_w2 (a := p.1) (b := p.2) (by omega) (by omega)) (fl_w2 (a := c) (b := d) (by omega) (by omega)) (by omega) (by omega) (by omega) (by omega)
  unfold mulW
  rw [e]
  exact ⟨rfl, h, by omega, by omega⟩

theorem contrib_num {x y : Nat} {a b : Int} (h : W2 x y a b) (ha : a.natAbs ≤ 1048576) (hb : b.natAbs ≤ 1048576) : contrib 2 4 0 x y 0 = ⟨1, 0, 0, 0, 0, a, b⟩ := by
  have w1 := whB_of (B := 1048576) h.fx (by omega) (by omega)
  have w2 := whB_of (B := 1048576) h.fy (by omega) (by omega)
  have e1 := fint_eq h.fx
  have e2 := fint_eq h.fy
  simp [contrib, w1, w2, e1, e2]

theorem plain_S {p : Pr} (hp : okP p) : (plainC p).S = ⟨1, 0, 0, 0, 0, p.1, p.2⟩ := by
  unfold okP at hp
  exact contrib_num (fl_w2 (by omega) (by omega)) (by omega) (by omega)
theorem turn_S {p : Pr} {c d : Int} (hp : okP p) (hc : c.natAbs ≤ 500) (hd : d.natAbs ≤ 500) : (turnC (floatOfInt .f64 c) (floatOfInt .f64 d) p).S = ⟨1, 0, 0, 0, 0, p.1 * c - p.2 * d, p.1 * d + p.2 * c⟩ := by
  obtain ⟨_, h, h1, h2⟩ := turn_bits hp hc hd
  exact contrib_num h h1 h2

theorem plain_sum (l : List Pr) (h : ∀ p ∈ l, okP p) : sumS (l.map plainC) = ⟨l.length, 0, 0, 0, 0, SX l, SY l⟩ := by
  induction l with
  | nil => rfl
  | cons p l ih =>
    rw [List.map_cons, sumS_cons', ih (fun q hq => h q (by simp [hq])), plain_S (h p (by simp))]
    unfold S.plus; simp [SX, SY]; omega
theorem turn_sum {c d : Int} (hc : c.natAbs ≤ 500) (hd : d.natAbs ≤ 500) (l : List Pr) (h : ∀ p ∈ l, okP p) : sumS (l.map (turnC (floatOfInt .f64 c) (floatOfInt .f64 d))) = ⟨l.length, 0, 0, 0, 0, SX l * c - SY l * d, SX l * d + SY l * c⟩ := by
  induction l with
  | nil => simp [sumS, S.zero, SX, SY]
  | cons p l ih =>
    rw [List.map_cons, sumS_cons', ih (fun q hq => h q (by simp [hq])), turn_S (h p (by simp)) hc hd]
    unfold S.plus; simp only [SX, SY, List.length_cons, Int.add_mul]
    congr 1
    · omega
    · omega
    · omega
theorem SXY_small (l : List Pr) (h : ∀ p ∈ l, okP p) : (SX l).natAbs ≤ l.length * 1000 ∧ (SY l).natAbs ≤ l.length * 1000 := by
  induction l with
  | nil => simp [SX, SY]
  | cons p l ih =>
    have := ih (fun q hq => h q (by simp [hq]))
    have hp := h p (by simp)
    unfold okP at hp
    simp only [SX, SY, List.length_cons]; omega
theorem wrap0 : wrap64 0 = 0 := by unfold wrap64; omega
theorem plain_wf {p : Pr} : (plainC p).wf := ⟨fl_lt _, fl_lt _, wrap0, (by decide : ByteArray.empty.size ≤ 9223372036854775807)⟩
theorem turn_wf {p : Pr} {c d : Int} (hp : okP p) (hc : c.natAbs ≤ 500) (hd : d.natAbs ≤ 500) : (turnC (floatOfInt .f64 c) (floatOfInt .f64 d) p).wf := by
  obtain ⟨_, h, _, _⟩ := turn_bits hp hc hd
  exact ⟨h.bx, h.bY, wrap0, (by decide : ByteArray.empty.size ≤ 9223372036854775807)⟩

theorem prAt {w wr : World} {l : List Pr} {b o : Nat} (Hc : Hid (∀ i, i < l.length → ∀ j, j < 2 → w.cell? ⟨b, o + i * 2 + j, none⟩ = ((l.map prCells).getD i [])[j]?)) (hE : Ext w wr) (hb : b < w.heap.size) {k : Nat} (hk : k < l.length) :
    wr.cell? ⟨b, o + k * 2, none⟩ = some (.int .i16 l[k].1) ∧ wr.cell? ⟨b, o + k * 2 + 1, none⟩ = some (.int .i16 l[k].2) := by
  have h0 := (hE.cells.1 b (o + k * 2 + 0) hb).trans (Hc.out k hk 0 (by omega))
  have h1 := (hE.cells.1 b (o + k * 2 + 1) hb).trans (Hc.out k hk 1 (by omega))
  rw [List.getD_eq_getElem?_getD, List.getElem?_map, List.getElem?_eq_getElem hk] at h0 h1
  exact ⟨h0, h1⟩

set_option maxRecDepth 100000 in set_option maxHeartbeats 1600000 in
theorem turned_any (l : List Pr) (v : Value) (c d : Int) (w : World) (hl : Sl w v 2 (l.map prCells)) (hlen : l.length ≤ 9223372036854775807) :
    Calls Try.prog 3 #[v, .agg #[.int .i16 c, .int .i16 d]] w fun e w' => e = .returned (.bool true) ∧ Ext w w' := by
  have Hlen := Hid.mk' hlen
  obtain ⟨a0, cap, rfl, hs⟩ := hl
  have HS := Hid.mk' hs
  clear hs
  simp only [List.length_map]
  clear hlen
  go_enter Try.func3, Try.ntmps3
  go_wp2
  all_goals try (go_ret; exact ⟨rfl, by (repeat (with_reducible (first | exact Ext.refl _ | assumption | exact held_left (by assumption) | apply Ext.drewN | apply Ext.drew | apply Ext.alloc | (refine Ext.setCell ?_ (by first | (simp; done) | (simp; omega) | omega) _) | (refine Ext.trans ?_ (by assumption)) | (refine Ext.trans ?_ (held_left (by assumption))))))⟩)
  have hc5 : c.natAbs ≤ 500 := by omega
  have hd5 : d.natAbs ≤ 500 := by omega
  have hn5 : l.length ≤ 150 := by omega
  have hEW : Ext w (w.alloc (.cells #[.int .i16 c, .int .i16 d] 24)) := by (repeat (with_reducible (first | exact Ext.refl _ | assumption | exact held_left (by assumption) | apply Ext.drewN | apply Ext.drew | apply Ext.alloc | (refine Ext.setCell ?_ (by first | (simp; done) | (simp; omega) | omega) _) | (refine Ext.trans ?_ (by assumption)) | (refine Ext.trans ?_ (held_left (by assumption))))))
  have hBk := Blk.new w #[.int .i16 c, .int .i16 d] 24
  generalize w.alloc (.cells #[.int .i16 c, .int .i16 d] 24) = W at *
  have HEW := Hid.mk' hEW
  have HC := Hid.mk' (And.intro hc5 hd5)
  clear hEW hc5 hd5 hBk
  obtain ⟨i0, hi, hz0, hz1, hz2⟩ := info_parts Try.infoCell
  go_loopw [6, 7, 8] (fun v6 v7 i wr => ∃ k : Nat, k ≤ l.length ∧ i = .int .i64 k ∧ wr.ownsRow W.heap.size 31 5 v6 k (cellsT ((l.take k).map plainC)).flatten ∧
    wr.ownsRow W.heap.size 31 5 v7 k (cellsT ((l.take k).map (turnC (floatOfInt .f64 c) (floatOfInt .f64 d)))).flatten ∧ Hid (∀ g, v6.ownBlock = some g → v7.ownBlock ≠ some g) ∧ Hid (∀ p ∈ l.take k, okP p) ∧ Ext W wr) (fun _ _ i _ => l.length - (intOf i).toNat)
  case atStart => exact ⟨0, Nat.zero_le _, rfl, World.ownsRow_nil _ _ _ _, World.ownsRow_nil _ _ _ _, (fun g h => absurd h (by simp [Value.ownBlock])), (fun p hp => by simp at hp), Ext.refl _⟩
  case round =>
    obtain ⟨k, hk, rfl, hown1, hown2, hD, hok, hE⟩ := hrel
    by_cases hlt : k < l.length
    · rcases HS.out with h0 | ⟨b, o, ha0, hb, hcc⟩
      · simp at h0; subst h0; simp at hlt
      subst ha0
      simp only [List.length_map] at hcc
      obtain ⟨f0, f1⟩ := prAt (l := l) (Hid.mk' hcc) (HEW.out.trans hE) hb hlt
      obtain ⟨p, hp⟩ : ∃ p, p = l[k] := ⟨_, rfl⟩
      rw [← hp] at f0 f1
      have HT1 : Hid (cellsT ((l.take (k + 1)).map plainC) = cellsT ((l.take k).map plainC) ++ [(plainC p).cells]) := by
        show cellsT _ = _
        rw [List.take_succ_eq_append_getElem hlt, ← hp]; simp [cellsT]
      have HT2 : Hid (cellsT ((l.take (k + 1)).map (turnC (floatOfInt .f64 c) (floatOfInt .f64 d))) = cellsT ((l.take k).map (turnC (floatOfInt .f64 c) (floatOfInt .f64 d))) ++ [(turnC (floatOfInt .f64 c) (floatOfInt .f64 d) p).cells]) := by
        show cellsT _ = _
        rw [List.take_succ_eq_append_getElem hlt, ← hp]; simp [cellsT]
      have HO : Hid (∀ q ∈ l.take (k + 1), q = p ∨ q ∈ l.take k) := by
        show ∀ q ∈ l.take (k + 1), _
        rw [List.take_succ_eq_append_getElem hlt, ← hp]; intro q hq; simp at hq; rcases hq with h | h
        · exact .inr h
        · exact .inl h
      have HE := Hid.mk' hE
      have HO1 := Hid.mk' hown1
      have HO2 := Hid.mk' hown2
      clear hcc hE hown1 hown2 hp
      have lb : b < wr.heap.size := Nat.lt_of_lt_of_le hb (HEW.out.trans HE.out).size
      go_upto_region 10 with (fail)
      all_goals try (have h0 := HEW.out; have h1 := HE.out; go_ret; exact ⟨rfl, h0.trans h1⟩)
      have hop : okP p := ⟨by omega, by omega, by omega, by omega⟩
      obtain ⟨m1, m2, hm⟩ : ∃ m1 m2, mulW (floatOfInt .f64 p.1) (floatOfInt .f64 p.2) (floatOfInt .f64 c) (floatOfInt .f64 d) = (m1, m2) := ⟨_, _, rfl⟩
      have hmb := (turn_bits hop HC.out.1 HC.out.2).1
      rw [hm] at hmb
      have hmul := fun w => run_complex_mul (P := Try.prog) w 25 _ _ _ _ _ _ hmb
      have hT : turnC (floatOfInt .f64 c) (floatOfInt .f64 d) p = ⟨2, 4, 0, m1, m2, ByteArray.empty⟩ := by unfold turnC; rw [hm]
      rw [hT] at HT2
      clear hm hmb hT
      have HOP := Hid.mk' hop
      clear hop
      go_quiet (fail)
      go_upto_region 12 with (first
        | (go_at_call 15; refine (cellOf_any _ _ _ _ _ _).mono ?_; rintro e w1 ⟨rfl, hb1⟩)
        | (at_builtin; refine wpList_append_own_at _ rfl _ _ 27 rfl W.heap.size 31 i0 _ 5 56 Try.underlying27 hi hz0 hz1 hz2 rfl (by decide) _ _ _ rfl ((owns_ext HO1.out (by (repeat (with_reducible (first | exact Ext.refl _ | assumption | exact held_left (by assumption) | apply Ext.drewN | apply Ext.drew | apply Ext.alloc | (refine Ext.setCell ?_ (by first | (simp; done) | (simp; omega) | omega) _) | (refine Ext.trans ?_ (by assumption)) | (refine Ext.trans ?_ (held_left (by assumption)))))))).alloc _) ⟨_, 0, none⟩ 1 1 (plainC p).cells rfl rfl ?c1a ?c2a ?c3a ?c4a ?c5a ?_))
      case c1a => exact cells_new _ #[.int .u8 2, .int .u8 4, .int .i64 0, .complex .f64 (floatOfInt .f64 p.1) (floatOfInt .f64 p.2), .string ByteArray.empty] _
      case c2a => intro u hu; simp [C.cells, plainC] at hu; rcases hu with rfl | rfl | rfl | rfl | rfl <;> rfl
      case c3a => unfold maxLen; omega
      case c4a => omega
      case c5a => have h0 : Ext W w1 := HE.out.trans (by (repeat (with_reducible (first | exact Ext.refl _ | assumption | exact held_left (by assumption) | apply Ext.drewN | apply Ext.drew | apply Ext.alloc | (refine Ext.setCell ?_ (by first | (simp; done) | (simp; omega) | omega) _) | (refine Ext.trans ?_ (by assumption)) | (refine Ext.trans ?_ (held_left (by assumption))))))); have := h0.size; simp; omega
      intro v1 w2 hn1 hgrow _ hat
      have hE2 : Ext W w2 := ((HE.out.trans (by (repeat (with_reducible (first | exact Ext.refl _ | assumption | exact held_left (by assumption) | apply Ext.drewN | apply Ext.drew | apply Ext.alloc | (refine Ext.setCell ?_ (by first | (simp; done) | (simp; omega) | omega) _) | (refine Ext.trans ?_ (by assumption)) | (refine Ext.trans ?_ (held_left (by assumption))))))) : Ext W w1).alloc _).grown ((owns_ext HO1.out (by (repeat (with_reducible (first | exact Ext.refl _ | assumption | exact held_left (by assumption) | apply Ext.drewN | apply Ext.drew | apply Ext.alloc | (refine Ext.setCell ?_ (by first | (simp; done) | (simp; omega) | omega) _) | (refine Ext.trans ?_ (by assumption)) | (refine Ext.trans ?_ (held_left (by assumption)))))))).alloc _) hgrow
      have ho2 := (owns_ext HO2.out (by (repeat (with_reducible (first | exact Ext.refl _ | assumption | exact held_left (by assumption) | apply Ext.drewN | apply Ext.drew | apply Ext.alloc | (refine Ext.setCell ?_ (by first | (simp; done) | (simp; omega) | omega) _) | (refine Ext.trans ?_ (by assumption)) | (refine Ext.trans ?_ (held_left (by assumption)))))) : Ext wr w1)).alloc (.cells #[.int .u8 2, .int .u8 4, .int .i64 0, .complex .f64 (floatOfInt .f64 p.1) (floatOfInt .f64 p.2), .string ByteArray.empty] 31)
      have hn2 := owns_grown ho2 hgrow (fun g hg e => hD.out g e hg)
      have hD2 : Hid (∀ g, v1.ownBlock = some g → u7.ownBlock ≠ some g) := by
        intro g hg h7
        rcases hat with h | h
        · exact hD.out g (h ▸ hg) h7
        · have := owns_lt ho2 h7
          rw [h] at hg
          injection hg with hg
          simp at this hg; omega
      have HN1 := Hid.mk' hn1
      have HN2 := Hid.mk' hn2
      have HE2 := Hid.mk' hE2
      clear hn1 hn2 hE2 ho2 hgrow hat HO1 HO2 hD hb1
      go_wp2_with (first
        | (go_at_call 15; refine (cellOf_any _ _ _ _ _ _).mono ?_; rintro e w3 ⟨rfl, hb3⟩)
        | (at_builtin; refine wpList_append_own_at _ rfl _ _ 27 rfl W.heap.size 31 i0 _ 5 56 Try.underlying27 hi hz0 hz1 hz2 rfl (by decide) _ _ _ rfl ((owns_ext HN2.out (by (repeat (with_reducible (first | exact Ext.refl _ | assumption | exact held_left (by assumption) | apply Ext.drewN | apply Ext.drew | apply Ext.alloc | (refine Ext.setCell ?_ (by first | (simp; done) | (simp; omega) | omega) _) | (refine Ext.trans ?_ (by assumption)) | (refine Ext.trans ?_ (held_left (by assumption)))))))).alloc _) ⟨_, 0, none⟩ 1 1 (⟨2, 4, 0, m1, m2, ByteArray.empty⟩ : C).cells rfl rfl ?c1b ?c2b ?c3b ?c4b ?c5b ?_))
      case c1b => exact cells_new _ #[.int .u8 2, .int .u8 4, .int .i64 0, .complex .f64 m1 m2, .string ByteArray.empty] _
      case c2b => intro u hu; simp [C.cells] at hu; rcases hu with rfl | rfl | rfl | rfl | rfl <;> rfl
      case c3b => unfold maxLen; omega
      case c4b => omega
      case c5b => have h0 : Ext W w3 := HE2.out.trans (by (repeat (with_reducible (first | exact Ext.refl _ | assumption | exact held_left (by assumption) | apply Ext.drewN | apply Ext.drew | apply Ext.alloc | (refine Ext.setCell ?_ (by first | (simp; done) | (simp; omega) | omega) _) | (refine Ext.trans ?_ (by assumption)) | (refine Ext.trans ?_ (held_left (by assumption))))))); have := h0.size; simp; omega
      intro v2 w4 hn2 hgrow _ hat
      have hE4 : Ext W w4 := ((HE2.out.trans (by (repeat (with_reducible (first | exact Ext.refl _ | assumption | exact held_left (by assumption) | apply Ext.drewN | apply Ext.drew | apply Ext.alloc | (refine Ext.setCell ?_ (by first | (simp; done) | (simp; omega) | omega) _) | (refine Ext.trans ?_ (by assumption)) | (refine Ext.trans ?_ (held_left (by assumption))))))) : Ext W w3).alloc _).grown ((owns_ext HN2.out (by (repeat (with_reducible (first | exact Ext.refl _ | assumption | exact held_left (by assumption) | apply Ext.drewN | apply Ext.drew | apply Ext.alloc | (refine Ext.setCell ?_ (by first | (simp; done) | (simp; omega) | omega) _) | (refine Ext.trans ?_ (by assumption)) | (refine Ext.trans ?_ (held_left (by assumption)))))))).alloc _) hgrow
      have ho1 := (owns_ext HN1.out (by (repeat (with_reducible (first | exact Ext.refl _ | assumption | exact held_left (by assumption) | apply Ext.drewN | apply Ext.drew | apply Ext.alloc | (refine Ext.setCell ?_ (by first | (simp; done) | (simp; omega) | omega) _) | (refine Ext.trans ?_ (by assumption)) | (refine Ext.trans ?_ (held_left (by assumption)))))) : Ext w2 w3)).alloc (.cells #[.int .u8 2, .int .u8 4, .int .i64 0, .complex .f64 m1 m2, .string ByteArray.empty] 31)
      have hn1 := owns_grown ho1 hgrow (fun g hg e => hD2.out g hg e)
      have hD3 : Hid (∀ g, v1.ownBlock = some g → v2.ownBlock ≠ some g) := by
        intro g hg h7
        rcases hat with h | h
        · exact hD2.out g hg (h ▸ h7)
        · have := owns_lt ho1 hg
          rw [h] at h7
          injection h7 with h7
          simp at this h7; omega
      have HM1 := Hid.mk' hn1
      have HM2 := Hid.mk' hn2
      have HE4 := Hid.mk' hE4
      clear hn1 hn2 hE4 ho1 hgrow hat HN1 HN2 hD2 hb3 HE2 hmul
      go_wp2
      go_roundw
      case rel => exact ⟨k + 1, by omega, by go_num, by rw [HT1.out, List.flatten_append, List.flatten_cons, List.flatten_nil, List.append_nil, List.map_take]; exact HM1.out, by rw [HT2.out, List.flatten_append, List.flatten_cons, List.flatten_nil, List.append_nil, List.map_take]; exact HM2.out, hD3.out, (fun q hq => by rcases HO.out q hq with rfl | h; exact HOP.out; exact hok.out q h), HE4.out⟩
      case measure => simp [intOf]; omega
    · have hkk : k = l.length := by omega
      subst hkk
      rw [List.take_of_length_le (Nat.le_refl _)] at hown1 hown2 hok
      have HS1 := Hid.mk' (Sl.of_owns (xss := cellsT (l.map plainC)) (by rw [cellsT_len, List.length_map]; exact hown1) (by intro xs hxs; simp [cellsT] at hxs; rcases hxs with ⟨a, b, _, rfl⟩; rfl))
      have HS2 := Hid.mk' (Sl.of_owns (xss := cellsT (l.map (turnC (floatOfInt .f64 c) (floatOfInt .f64 d)))) (by rw [cellsT_len, List.length_map]; exact hown2) (by intro xs hxs; simp [cellsT] at hxs; rcases hxs with ⟨a, b, _, rfl⟩; rfl))
      have HE := Hid.mk' hE
      have HSM := Hid.mk' (SXY_small l hok.out)
      have HPS := Hid.mk' (plain_sum l hok.out)
      have HTS := Hid.mk' (turn_sum HC.out.1 HC.out.2 l hok.out)
      clear hE hown1 hown2 hD
      go_upto_region 14 with (first
        | (go_at_call_of 16 u6; refine (of_S (l.map plainC) u6 _ (HS1.out.ext (by (repeat (with_reducible (first | exact Ext.refl _ | assumption | exact held_left (by assumption) | apply Ext.drewN | apply Ext.drew | apply Ext.alloc | (refine Ext.setCell ?_ (by first | (simp; done) | (simp; omega) | omega) _) | (refine Ext.trans ?_ (by assumption)) | (refine Ext.trans ?_ (held_left (by assumption)))))))) (by rw [List.length_map]; omega) (by intro q hq; simp at hq; rcases hq with ⟨a, b, _, rfl⟩; exact plain_wf)).mono ?_; rw [HPS.out]; rintro e w5 ⟨v5, rfl, ⟨sx, sy, rfl, hw5⟩, hb5⟩)
        | (go_at_call_of 16 u7; refine (of_S (l.map (turnC (floatOfInt .f64 c) (floatOfInt .f64 d))) u7 _ (HS2.out.ext (by (repeat (with_reducible (first | exact Ext.refl _ | assumption | exact held_left (by assumption) | apply Ext.drewN | apply Ext.drew | apply Ext.alloc | (refine Ext.setCell ?_ (by first | (simp; done) | (simp; omega) | omega) _) | (refine Ext.trans ?_ (by assumption)) | (refine Ext.trans ?_ (held_left (by assumption)))))))) (by rw [List.length_map]; omega) (by intro q hq; simp at hq; rcases hq with ⟨a, b, hab, rfl⟩; exact turn_wf (hok.out _ hab) HC.out.1 HC.out.2)).mono ?_; rw [HTS.out]; rintro e w6 ⟨v6, rfl, ⟨tx, ty, rfl, hw6⟩, hb6⟩))
      have e1 := fint_eq hw5.fx
      have e2 := fint_eq hw5.fy
      have e3 := fint_eq (Fl.FI.fw c (by have := HC.out.1; omega))
      have e4 := fint_eq (Fl.FI.fw d (by have := HC.out.2; omega))
      have hTB : timesB sx sy (floatOfInt .f64 c) (floatOfInt .f64 d) = true := by
        have w1 := whB_of (B := 1024) (Fl.FI.fw c (by have := HC.out.1; omega)) (by have := HC.out.1; omega) (by have := HC.out.1; omega)
        have w2 := whB_of (B := 1024) (Fl.FI.fw d (by have := HC.out.2; omega)) (by have := HC.out.2; omega) (by have := HC.out.2; omega)
        have w3 := whB_of (B := 1099511627776) hw5.fx (by have := HSM.out; omega) (by have := HSM.out; omega)
        have w4 := whB_of (B := 1099511627776) hw5.fy (by have := HSM.out; omega) (by have := HSM.out; omega)
        unfold timesB
        show ((whB (Fl.fw c) 1024 && whB (Fl.fw d) 1024) && _) = true
        rw [w1, w2, w3, w4]; rfl
      have HTB := Hid.mk' hTB
      have HEQ := Hid.mk' (show fint sx = SX l ∧ fint sy = SY l ∧ fint (floatOfInt .f64 c) = c ∧ fint (floatOfInt .f64 d) = d from ⟨e1, e2, e3, e4⟩)
      have HW5 := Hid.mk' hw5
      have HW6 := Hid.mk' hw6
      have hE6 : Ext w w6 := (HEW.out.trans HE.out).trans (by (repeat (with_reducible (first | exact Ext.refl _ | assumption | exact held_left (by assumption) | apply Ext.drewN | apply Ext.drew | apply Ext.alloc | (refine Ext.setCell ?_ (by first | (simp; done) | (simp; omega) | omega) _) | (refine Ext.trans ?_ (by assumption)) | (refine Ext.trans ?_ (held_left (by assumption)))))))
      have hB1 := (Blk.new w6 #[.int .i64 (wrap64 l.length), .int .i64 (wrap64 0), .int .i64 (wrap64 0), .int .i64 (wrap64 0), .int .i64 (wrap64 0), .complex .f64 sx sy] 34).alloc (.cells #[.int .i64 (wrap64 l.length), .int .i64 (wrap64 0), .int .i64 (wrap64 0), .int .i64 (wrap64 0), .int .i64 (wrap64 0), .complex .f64 tx ty] 34)
      have hB2 := Blk.new' (w := w6.alloc (.cells #[.int .i64 (wrap64 l.length), .int .i64 (wrap64 0), .int .i64 (wrap64 0), .int .i64 (wrap64 0), .int .i64 (wrap64 0), .complex .f64 sx sy] 34)) (b := w6.heap.size + 1) #[.int .i64 (wrap64 l.length), .int .i64 (wrap64 0), .int .i64 (wrap64 0), .int .i64 (wrap64 0), .int .i64 (wrap64 0), .complex .f64 tx ty] 34 (by simp)
      have hwn : wrap64 (l.length : Int) = l.length := wrap64_small (by omega)
      have hw0 := wrap0
      rw [hwn, hw0] at hB1 hB2
      clear e1 e2 e3 e4 hTB hw5 hw6 hb5 hb6 HPS HTS HS1 HS2
      go_upto_region 15 with (go_at_call 17; refine (times_any _ _ _ _ _ _ _ _ _ _ (Hid.mk' HW5.out.bx) (Hid.mk' HW5.out.bY) (Hid.mk' (fl_lt _)) (Hid.mk' (fl_lt _))).mono ?_; unfold TimesPost; rw [HTB.out, HEQ.out.1, HEQ.out.2.1, HEQ.out.2.2.1, HEQ.out.2.2.2]; rintro e w7 ⟨px, py, rfl, hp1, -, hb7⟩; have hp := hp1 rfl; have k1 := (hB1.ext hb7).cell; have k2 := (hB2.ext hb7).cell; have z1 := (hB1.ext hb7).lt; have z2 := (hB2.ext hb7).lt; have T1 := (fi_eql hp.fx HW6.out.fx).trans (decide_eq_true rfl); have T2 := (fi_eql hp.fy HW6.out.fy).trans (decide_eq_true rfl); have hE7 : Ext w w7 := hE6.trans (by (repeat (with_reducible (first | exact Ext.refl _ | assumption | exact held_left (by assumption) | apply Ext.drewN | apply Ext.drew | apply Ext.alloc | (refine Ext.setCell ?_ (by first | (simp; done) | (simp; omega) | omega) _) | (refine Ext.trans ?_ (by assumption)) | (refine Ext.trans ?_ (held_left (by assumption))))))); clear hp hp1 hB1 hB2 hE6 hb7)
      go_wp2_with (go_at_call 18; refine (awake23_any _).mono ?_; rintro e w12 ⟨rfl, hb12⟩)
      go_ret
      exact ⟨rfl, by (repeat (with_reducible (first | exact Ext.refl _ | assumption | exact held_left (by assumption) | apply Ext.drewN | apply Ext.drew | apply Ext.alloc | (refine Ext.setCell ?_ (by first | (simp; done) | (simp; omega) | omega) _) | (refine Ext.trans ?_ (by assumption)) | (refine Ext.trans ?_ (held_left (by assumption))))))⟩

end Go.Proofs.Ytkofnmbkfaebcaa
