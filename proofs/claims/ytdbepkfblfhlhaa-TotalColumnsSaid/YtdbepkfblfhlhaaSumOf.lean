/-
total.Of: the loop over any cells.
-/
import Derived.Test.YtdbepkfblfhlhaaP16
import Derived.Test.YtdbepkfblfhlhaaSumS
namespace Go.Proofs.Ytdbepkfblfhlhaa
open Go.RowKit

/-- A cell of the program. -/
structure C where
  k : Int
  ty : Int
  n : Int
  re : Nat
  im : Nat
  s : ByteArray

structure C.wf (c : C) : Prop where
  re : c.re < 2 ^ 64
  im : c.im < 2 ^ 64
  n : wrap64 c.n = c.n
  s : c.s.size ≤ 9223372036854775807

def C.cells (c : C) : List Value := [.int .u8 c.k, .int .u8 c.ty, .int .i64 c.n, .complex .f64 c.re c.im, .string c.s]
noncomputable def C.S (c : C) : S := contrib c.k c.ty c.n c.re c.im c.s.size
noncomputable def sumS (l : List C) : S := l.foldl (fun s c => s.plus c.S) S.zero

theorem sumS_snoc (l : List C) (c : C) : sumS (l ++ [c]) = (sumS l).plus c.S := by unfold sumS; rw [List.foldl_append]; rfl
theorem sumS_take (l : List C) (k : Nat) (h : k < l.length) : sumS (l.take (k + 1)) = (sumS (l.take k)).plus l[k].S := by
  rw [List.take_succ_eq_append_getElem h, sumS_snoc]
theorem foldS_small (l : List C) : ∀ s : Go.Proofs.Ytdbepkfblfhlhaa.S, (l.foldl (fun s c => s.plus c.S) s).re.natAbs ≤ s.re.natAbs + l.length * 1048576 ∧ (l.foldl (fun s c => s.plus c.S) s).im.natAbs ≤ s.im.natAbs + l.length * 1048576 := by
  induction l with
  | nil => intro s; simp
  | cons c l ih =>
    intro s
    have h := ih (s.plus c.S)
    have hc := contrib_small c.k c.ty c.n c.re c.im c.s.size
    have e1 : (s.plus c.S).re = s.re + (contrib c.k c.ty c.n c.re c.im c.s.size).re := rfl
    have e2 : (s.plus c.S).im = s.im + (contrib c.k c.ty c.n c.re c.im c.s.size).im := rfl
    simp only [List.foldl_cons, List.length_cons]
    omega
theorem sumS_small (l : List C) : (sumS l).re.natAbs ≤ l.length * 1048576 ∧ (sumS l).im.natAbs ≤ l.length * 1048576 := by
  have := foldS_small l S.zero
  unfold sumS
  simpa [S.zero] using this

def encA (s : S) (x y : Nat) : Array Value := #[.int .i64 (wrap64 s.c), .int .i64 (wrap64 s.n), .int .i64 (wrap64 s.o), .int .i64 (wrap64 s.b), .int .i64 (wrap64 s.i), .complex .f64 x y]

theorem zeroA : encA S.zero 0 0 = #[.int .i64 0, .int .i64 0, .int .i64 0, .int .i64 0, .int .i64 0, .complex .f64 0 0] := by
  have w0 : wrap64 0 = 0 := by unfold wrap64; omega
  unfold encA S.zero; simp only [w0]

theorem C.cellsAt {w wr : World} {l : List C} {b o : Nat} (Hc : Hid (∀ i, i < l.length → ∀ j, j < 5 → w.cell? ⟨b, o + i * 5 + j, none⟩ = ((l.map C.cells).getD i [])[j]?)) (hE : Ext w wr) (hb : b < w.heap.size) {k : Nat} (hk : k < l.length) :
    wr.cell? ⟨b, o + k * 5, none⟩ = some (.int .u8 l[k].k) ∧ wr.cell? ⟨b, o + k * 5 + 1, none⟩ = some (.int .u8 l[k].ty) ∧ wr.cell? ⟨b, o + k * 5 + 2, none⟩ = some (.int .i64 l[k].n) ∧
    wr.cell? ⟨b, o + k * 5 + 3, none⟩ = some (.complex .f64 l[k].re l[k].im) ∧ wr.cell? ⟨b, o + k * 5 + 4, none⟩ = some (.string l[k].s) := by
  have h := Hc.out k hk
  have e : (l.map C.cells).getD k [] = l[k].cells := by simp [hk]
  rw [e] at h
  have c := hE.cells.1 b
  refine ⟨(c _ hb).trans (h 0 (by omega)), (c _ hb).trans (h 1 (by omega)), (c _ hb).trans (h 2 (by omega)), (c _ hb).trans (h 3 (by omega)), (c _ hb).trans (h 4 (by omega))⟩

set_option maxRecDepth 100000 in set_option maxHeartbeats 1600000 in
theorem of_S (l : List C) (v : Value) (w : World) (hl : Sl w v 5 (l.map C.cells)) (hlen : l.length ≤ 400) (hwf : ∀ c ∈ l, c.wf) :
    Calls Try.prog 63 #[v] w (RetS (sumS l) w) := by
  obtain ⟨a, cap, rfl, hs⟩ := hl
  simp only [List.length_map] at *
  rcases hs with h0 | ⟨b, o, rfl, hb, hc⟩
  · have : l = [] := by simpa using h0
    subst this
    go_enter Try.func63, Try.ntmps63
    go_wp2
    refine wp_loop_rounds 1 ?_
    rw [rounds_succ]
    go_wp2
    simp [bodyPost, results, Try.results63, go_sem]
    refine ⟨_, rfl, ⟨0, 0, ?_, w2_zero⟩, by (repeat (with_reducible (first | exact Ext.refl _ | assumption | exact held_left (by assumption) | apply Ext.drewN | apply Ext.drew | apply Ext.alloc | (refine Ext.setCell ?_ (by first | (simp; done) | (simp; omega) | omega) _) | (refine Ext.trans ?_ (by assumption)) | (refine Ext.trans ?_ (held_left (by assumption))))))⟩
    exact congrArg Value.agg zeroA.symm
  · have Hc := Hid.mk' hc
    have Hwf := Hid.mk' hwf
    clear hc hwf
    go_enter Try.func63, Try.ntmps63
    go_wp2
    go_loopw [8] (fun i wr => ∃ k x y : Nat, k ≤ l.length ∧ i = .int .i64 k ∧ Hid (W2 x y (sumS (l.take k)).re (sumS (l.take k)).im) ∧ Blk wr w.heap.size (encA S.zero 0 0) 50 ∧ Blk wr (w.heap.size + 1) (encA (sumS (l.take k)) x y) 50 ∧ Ext w wr) (fun i _ => l.length - (intOf i).toNat)
    case atStart => exact ⟨0, 0, 0, Nat.zero_le _, rfl, w2_zero, by rw [zeroA]; exact (Blk.new _ _ _).alloc _, by rw [List.take_zero]; show Blk _ _ (encA S.zero 0 0) _; rw [zeroA]; exact Blk.new' _ _ (by simp), by (repeat (with_reducible (first | exact Ext.refl _ | assumption | exact held_left (by assumption) | apply Ext.drewN | apply Ext.drew | apply Ext.alloc | (refine Ext.setCell ?_ (by first | (simp; done) | (simp; omega) | omega) _) | (refine Ext.trans ?_ (by assumption)) | (refine Ext.trans ?_ (held_left (by assumption))))))⟩
    case round =>
      obtain ⟨k, x, y, hk, rfl, hw2, hB0, hB1, hE⟩ := hrel
      by_cases hlt : k < l.length
      · obtain ⟨f0, f1, f2, f3, f4⟩ := C.cellsAt Hc hE hb hlt
        have hcw := Hid.mk' (Hwf.out l[k] (List.getElem_mem hlt))
        have hst := Hid.mk' (sumS_take l k hlt)
        obtain ⟨c, hc⟩ : ∃ c, c = l[k] := ⟨_, rfl⟩
        rw [← hc] at f0 f1 f2 f3 f4 hcw hst
        have hsm := Hid.mk' (sumS_small (l.take k))
        have hln := Hid.mk' (List.length_take_le k l)
        obtain ⟨s, hs⟩ : ∃ s, s = sumS (l.take k) := ⟨_, rfl⟩
        rw [← hs] at hB1 hw2 hst hsm
        have HS := Hid.mk' hs
        have HC := Hid.mk' hc
        clear hs hc
        have g0 := hB0.cell
        have g0f := hB0.frozen
        have g1 := hB1.cell
        have g1f := hB1.frozen
        simp only [encA] at g0 g1
        have hE' := Hid.mk' hE
        clear hE
        have l0 := hB0.lt
        have l1 := hB1.lt
        go_wp2_with (go_at_call 58; refine (add_S s c.k c.ty c.n x y c.re c.im c.s _ hcw.out.re hcw.out.im hcw.out.n hcw.out.s hw2.out (by have := hsm.out; have := hln.out; omega) (by have := hsm.out; have := hln.out; omega)).mono ?_; rintro e w1 ⟨v, rfl, ⟨x1, y1, rfl, hw1⟩, hb1⟩; have q0 := (hB0.alloc _).ext hb1; have q1 := (hB1.alloc _).ext hb1; have q0c := q0.cell; have q1c := q1.cell; have q0f := q0.frozen; have q1f := q1.frozen; simp only [encA] at q0c q1c)
        go_roundw
        case rel =>
          have hE := hE'.out
          refine ⟨k + 1, x1, y1, by omega, by go_num, by rw [hst.out]; exact hw1, ?_, ?_, ?_⟩
          · repeat (with_reducible (first | exact q0 | refine Blk.other ?_ _ _ (by simp)))
          · rw [hst.out]; exact (((((q1.set 0 _).set 1 _).set 2 _).set 3 _).set 4 _).set 5 _
          · (repeat (with_reducible (first | exact Ext.refl _ | assumption | exact held_left (by assumption) | apply Ext.drewN | apply Ext.drew | apply Ext.alloc | (refine Ext.setCell ?_ (by first | (simp; done) | (simp; omega) | omega) _) | (refine Ext.trans ?_ (by assumption)) | (refine Ext.trans ?_ (held_left (by assumption))))))
        case measure => simp [intOf]; omega
      · have hkk : k = l.length := by omega
        subst hkk
        rw [List.take_length] at hB1 hw2
        have g0 := hB0.cell
        have g0f := hB0.frozen
        have g1 := hB1.cell
        simp only [encA] at g0 g1
        have hE' := Hid.mk' hE
        clear hE
        go_wp2
        have hE := hE'.out
        simp [bodyPost, results, Try.results63, go_sem, g0]
        exact ⟨_, rfl, ⟨x, y, rfl, hw2⟩, by (repeat (with_reducible (first | exact Ext.refl _ | assumption | exact held_left (by assumption) | apply Ext.drewN | apply Ext.drew | apply Ext.alloc | (refine Ext.setCell ?_ (by first | (simp; done) | (simp; omega) | omega) _) | (refine Ext.trans ?_ (by assumption)) | (refine Ext.trans ?_ (held_left (by assumption))))))⟩

end Go.Proofs.Ytdbepkfblfhlhaa
