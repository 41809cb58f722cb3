/-
The walk of ValueSame.
-/
import Derived.Test.YtkofnmbkfaebcaaAwake06
import Derived.Test.YtkofnmbkfaebcaaInv
namespace Go.Proofs.Ytkofnmbkfaebcaa
open Go.RowKit

theorem not_up {L : Array Bool} {i : Nat} (h : L.getD i true = false) : ¬ up L i := by
  unfold up
  simp only [Array.getD_eq_getD_getElem?] at *
  cases h2 : L[i]? with
  | none => rw [h2] at h; simp at h
  | some b => rw [h2] at h; simp at h; simp [h]

def AL (N : Nat) (pa ps : Prop) (w : World) (u : Value) (own : Array Value) : Prop := pa → ∃ g x0 x1 x2 x3, u = .pointer (some ⟨g, 0, none⟩) ∧ N ≤ g ∧ Blk w g #[x0, x1, x2, x3] 29 ∧ (ps → #[x0, x1, x2, x3] = own)
theorem AL.mono {N : Nat} {pa ps pa' ps' : Prop} {w : World} {u : Value} {own : Array Value} (h : AL N pa ps w u own) (h1 : pa' → pa) (h2 : ps' → ps) : AL N pa' ps' w u own := fun hp => by
  obtain ⟨g, x0, x1, x2, x3, a, b, c, d⟩ := h (h1 hp)
  exact ⟨g, x0, x1, x2, x3, a, b, c, fun q => d (h2 q)⟩
theorem AL.ext {N : Nat} {pa ps : Prop} {w w1 : World} {u : Value} {own : Array Value} (h : AL N pa ps w u own) (he : Ext w w1) : AL N pa ps w1 u own := fun hp => by
  obtain ⟨g, x0, x1, x2, x3, a, b, c, d⟩ := h hp
  exact ⟨g, x0, x1, x2, x3, a, b, c.ext he, d⟩
theorem AL.other {N : Nat} {pa ps : Prop} {w : World} {u : Value} {own : Array Value} (h : AL N pa ps w u own) {k : Nat} (hne : pa → u ≠ .pointer (some ⟨k, 0, none⟩)) (i : Nat) (v : Value) : AL N pa ps (w.setCell ⟨k, i, none⟩ v) u own := fun hp => by
  obtain ⟨g, x0, x1, x2, x3, a, b, c, d⟩ := h hp
  exact ⟨g, x0, x1, x2, x3, a, b, c.other _ _ (by rintro rfl; exact hne hp a), d⟩
theorem AL.ne {N : Nat} {pa ps : Prop} {w : World} {u : Value} {own : Array Value} (h : AL N pa ps w u own) (hp : pa) : Value.pointer (some ⟨w.heap.size, 0, none⟩) ≠ u := by
  obtain ⟨g, x0, x1, x2, x3, a, b, c, d⟩ := h hp
  rw [a]; intro e
  simp at e
  have := c.lt; omega

def VInv (N : Nat) (W0 : World) (F : Value → Value → Value → Value → Value → Value → Value → Value → Value → Array Value) (BA BB BC OA OB OC : Array Value) (L : Array Bool) (a : Act) (w : World) : Prop :=
  ∃ u7 u8 u9 u27 u28 u29 u30 u31 u32, a = { tmps := F u7 u8 u9 u27 u28 u29 u30 u31 u32, defers := [] } ∧ Ext W0 w ∧
    ((up L 0 → u27 = .agg BA) ∧ (up L 2 → u29 = .agg BB) ∧ (up L 4 → u31 = .agg BC) ∧ (up L 1 → u28 = .agg OA) ∧ (up L 3 → u30 = .agg OB) ∧ (up L 5 → u32 = .agg OC)) ∧
    (AL N (up L 6) (up L 9) w u7 OA ∧ AL N (up L 7) (up L 10) w u8 OB ∧ AL N (up L 8) (up L 11) w u9 OC) ∧
    ((up L 6 → up L 7 → u7 ≠ u8) ∧ (up L 6 → up L 8 → u7 ≠ u9) ∧ (up L 7 → up L 8 → u8 ≠ u9)) ∧
    ((up L 9 → up L 6) ∧ (up L 10 → up L 7) ∧ (up L 11 → up L 8))

def VInv4 (W0 : World) (F : Value → Value → Value → Value → Value → Value → Value → Value → Value → Value → Value → Value → Value → Value → Value → Value → Value → Value → Value → Value → Value → Value → Value → Value → Value → Value → Value → Value → Value → Array Value) (OA OB OC : Array Value) (S1 S2 S3 : Bool) (L : Array Bool) (a : Act) (w : World) : Prop :=
  ∃ v33 v34 v35 v36 v37 v38 v39 v40 v41 v42 v43 v44 v45 v46 v47 v48 v49 v50 v51 v52 v53 v54 v55 v56 v57 v58 v59 v60 v61, a = { tmps := F v33 v34 v35 v36 v37 v38 v39 v40 v41 v42 v43 v44 v45 v46 v47 v48 v49 v50 v51 v52 v53 v54 v55 v56 v57 v58 v59 v60 v61, defers := [] } ∧ Ext W0 w ∧
    (up L 0 → True → v33 = .agg OA) ∧ (up L 1 → True → v34 = .agg OA) ∧ (up L 2 → True → v35 = .bool true) ∧ (up L 3 → True → v36 = .bool false) ∧ (up L 4 → True → v37 = .bool false) ∧ (up L 5 → True → v38 = .agg OA) ∧ (up L 6 → True → v39 = .agg OB) ∧ (up L 7 → True → v40 = .bool S1) ∧ (up L 8 → True → v41 = .agg OB) ∧ (up L 9 → True → v42 = .agg OA) ∧ (up L 10 → True → v43 = .bool S1) ∧ (up L 11 → True → v44 = .bool false) ∧ (up L 12 → True → v45 = .bool false) ∧ (up L 13 → True → v46 = .bool false) ∧ (up L 14 → True → v47 = .agg OA) ∧ (up L 15 → True → v48 = .agg OB) ∧ (up L 16 → True → v49 = .bool S1) ∧ (up L 17 → True → v50 = .bool S1) ∧ (up L 18 → S1 = true → v51 = .agg OB) ∧ (up L 19 → S1 = true → v52 = .agg OC) ∧ (up L 20 → S1 = true → v53 = .bool S2) ∧ (up L 21 → True → v54 = .bool (S1 && S2)) ∧ (up L 22 → True → v55 = .bool (S1 && S2)) ∧ (up L 23 → (S1 && S2) = true → v56 = .agg OA) ∧ (up L 24 → (S1 && S2) = true → v57 = .agg OC) ∧ (up L 25 → (S1 && S2) = true → v58 = .bool S3) ∧ (up L 26 → (S1 && S2) = true → v59 = .bool (!S3)) ∧ (up L 27 → True → v60 = .bool false) ∧ (up L 28 → True → v61 = .bool false)
theorem wpOp_on {P : Program} {ops : Array Oper} {Q : Exit → Act → World → Prop} {i : Nat} {o : Oper} {a : Act} {w : World} {K : Act → World → Prop} (hi : ops[i]? = some o) (hw : Region.wanted o (yielded ops a.tmps) = true) (h : o.wp P a w K Q) : wpOp P ops Q i K a w := by
  unfold wpOp
  simp only [hi]
  rw [if_pos hw]
  exact .inl h
theorem wpOp_off {P : Program} {ops : Array Oper} {Q : Exit → Act → World → Prop} {i : Nat} {o : Oper} {a : Act} {w : World} {K : Act → World → Prop} (hi : ops[i]? = some o) (hw : Region.wanted o (yielded ops a.tmps) = false) (h : K (a.put o.dst undef) w) : wpOp P ops Q i K a w := by
  unfold wpOp
  simp only [hi]
  rw [if_neg (by rw [hw]; simp)]
  exact h

set_option maxRecDepth 100000 in set_option maxHeartbeats 8000000 in
theorem vsame3_any (ta na : Int) (xa ya : Nat) (sa : ByteArray) (tb nb : Int) (xb yb : Nat) (sb : ByteArray) (tc nc : Int) (xc yc : Nat) (sc : ByteArray) (w : World) :
    Calls Try.prog 10 #[.agg #[.int .u8 ta, .int .i64 na, .int .u64 xa, .int .u64 ya, .string sa], .agg #[.int .u8 tb, .int .i64 nb, .int .u64 xb, .int .u64 yb, .string sb], .agg #[.int .u8 tc, .int .i64 nc, .int .u64 xc, .int .u64 yc, .string sc]] w fun e w' => e = .returned (.bool true) ∧ Ext w w' := by
  have HA := Hid.mk' (fun w => vown_any ta na xa ya sa w)
  have HB := Hid.mk' (fun w => vown_any tb nb xb yb sb w)
  have HC := Hid.mk' (fun w => vown_any tc nc xc yc sc w)
  simp only [Int.toNat_natCast] at HA HB HC
  go_enter Try.func10, Try.ntmps10
  go_upto_region 3 with (fail)
  all_goals try (go_ret; exact ⟨rfl, by (repeat (with_reducible (first | exact Ext.refl _ | assumption | exact held_left (by assumption) | apply Ext.drewN | apply Ext.drew | apply Ext.alloc | (refine Ext.setCell ?_ (by first | (simp; done) | (simp; omega) | omega) _) | (refine Ext.trans ?_ (by assumption)) | (refine Ext.trans ?_ (held_left (by assumption))))))⟩)
  go_cut [7, 8, 9] (fun p q r wx => ∃ g h i, p = .pointer (some ⟨g, 0, none⟩) ∧ q = .pointer (some ⟨h, 0, none⟩) ∧ r = .pointer (some ⟨i, 0, none⟩) ∧ Hid (Blk wx g #[.int .u8 ta, .int .i64 na, .complex .f64 xa ya, .string sa] 29) ∧ Hid (Blk wx h #[.int .u8 tb, .int .i64 nb, .complex .f64 xb yb, .string sb] 29) ∧ Hid (Blk wx i #[.int .u8 tc, .int .i64 nc, .complex .f64 xc yc, .string sc] 29) ∧ Hid (Ext (((w.alloc (.cells #[.int .u8 ta, .int .i64 na, .int .u64 xa, .int .u64 ya, .string sa] 42)).alloc (.cells #[.int .u8 tb, .int .i64 nb, .int .u64 xb, .int .u64 yb, .string sb] 42)).alloc (.cells #[.int .u8 tc, .int .i64 nc, .int .u64 xc, .int .u64 yc, .string sc] 42)) wx))
  case first =>
    as_aux_lemma =>
      refine wp_region_inv (by kernel_rfl) (VInv (w.heap.size + 3) (((w.alloc (.cells #[.int .u8 ta, .int .i64 na, .int .u64 xa, .int .u64 ya, .string sa] 42)).alloc (.cells #[.int .u8 tb, .int .i64 nb, .int .u64 xb, .int .u64 yb, .string sb] 42)).alloc (.cells #[.int .u8 tc, .int .i64 nc, .int .u64 xc, .int .u64 yc, .string sc] 42)) (fun u7 u8 u9 u27 u28 u29 u30 u31 u32 => #[.agg #[.int .u8 ta, .int .i64 na, .int .u64 xa, .int .u64 ya, .string sa], .agg #[.int .u8 tb, .int .i64 nb, .int .u64 xb, .int .u64 yb, .string sb], .agg #[.int .u8 tc, .int .i64 nc, .int .u64 xc, .int .u64 yc, .string sc], .pointer (some ⟨w.heap.size, 0, none⟩), .pointer (some ⟨w.heap.size + 1, 0, none⟩), .pointer (some ⟨w.heap.size + 1 + 1, 0, none⟩), .bool false, u7, u8, u9, undef, .pointer (some ⟨w.heap.size, 4, none⟩), .string sa, .int .i64 (sa.size : Nat), .bool (decide (3000 < ((sa.size : Nat) : Int))), .bool (decide (3000 < ((sa.size : Nat) : Int))), .pointer (some ⟨w.heap.size + 1, 4, none⟩), .string sb, .int .i64 (sb.size : Nat), .bool (decide (3000 < ((sb.size : Nat) : Int))), .bool (decide (3000 < ((sa.size : Nat) : Int)) || decide (3000 < ((sb.size : Nat) : Int))), .bool (decide (3000 < ((sa.size : Nat) : Int)) || decide (3000 < ((sb.size : Nat) : Int))), .pointer (some ⟨w.heap.size + 1 + 1, 4, none⟩), .string sc, .int .i64 (sc.size : Nat), .bool (decide (3000 < ((sc.size : Nat) : Int))), .bool (decide (3000 < ((sa.size : Nat) : Int)) || decide (3000 < ((sb.size : Nat) : Int)) || decide (3000 < ((sc.size : Nat) : Int))), u27, u28, u29, u30, u31, u32, undef, undef, undef, undef, undef, undef, undef, undef, undef, undef, undef, undef, undef, undef, undef, undef, undef, undef, undef, undef, undef, undef, undef, undef, undef, undef, undef, undef, undef, undef, undef, undef, undef, undef, undef, undef, undef, undef, undef, undef, undef, undef, undef, undef, undef]) #[.int .u8 ta, .int .i64 na, .int .u64 xa, .int .u64 ya, .string sa] #[.int .u8 tb, .int .i64 nb, .int .u64 xb, .int .u64 yb, .string sb] #[.int .u8 tc, .int .i64 nc, .int .u64 xc, .int .u64 yc, .string sc] #[.int .u8 ta, .int .i64 na, .complex .f64 xa ya, .string sa] #[.int .u8 tb, .int .i64 nb, .complex .f64 xb yb, .string sb] #[.int .u8 tc, .int .i64 nc, .complex .f64 xc yc, .string sc]) ?h0 ?fin ?step
      case h0 =>
        refine ⟨undef, undef, undef, undef, undef, undef, undef, undef, undef, rfl, (Ext.refl _).drew, ⟨?_, ?_, ?_, ?_, ?_, ?_⟩, ⟨?_, ?_, ?_⟩, ⟨?_, ?_, ?_⟩, ?_, ?_, ?_⟩ <;> (intro h; exact absurd h up_none)
      case fin =>
        intro L a wx hs hI hr
        have p0 := up_of_done hr hs (i := 0) rfl (fun e he _ => by simp at he)
        have p2 := up_of_done hr hs (i := 2) rfl (fun e he _ => by simp at he)
        have p4 := up_of_done hr hs (i := 4) rfl (fun e he _ => by simp at he)
        have p6 := up_of_done hr hs (i := 6) rfl (fun e he _ => by simp at he)
        have p7 := up_of_done hr hs (i := 7) rfl (fun e he _ => by simp at he)
        have p8 := up_of_done hr hs (i := 8) rfl (fun e he _ => by simp at he)
        have p1 := up_of_done hr hs (i := 1) rfl (fun e he hb => by
          simp at he
          (repeat' (rcases he with rfl | he)) <;> first | (subst he; first | exact p0 | exact p2 | exact p4 | exact p6 | exact p7 | exact p8 | exact (absurd hb (by decide))) | exact p0 | exact p2 | exact p4 | exact p6 | exact p7 | exact p8 | exact (absurd hb (by decide)))
        have p3 := up_of_done hr hs (i := 3) rfl (fun e he hb => by
          simp at he
          (repeat' (rcases he with rfl | he)) <;> first | (subst he; first | exact p0 | exact p2 | exact p4 | exact p6 | exact p7 | exact p8 | exact p1 | exact (absurd hb (by decide))) | exact p0 | exact p2 | exact p4 | exact p6 | exact p7 | exact p8 | exact p1 | exact (absurd hb (by decide)))
        have p5 := up_of_done hr hs (i := 5) rfl (fun e he hb => by
          simp at he
          (repeat' (rcases he with rfl | he)) <;> first | (subst he; first | exact p0 | exact p2 | exact p4 | exact p6 | exact p7 | exact p8 | exact p1 | exact p3 | exact (absurd hb (by decide))) | exact p0 | exact p2 | exact p4 | exact p6 | exact p7 | exact p8 | exact p1 | exact p3 | exact (absurd hb (by decide)))
        have p9 := up_of_done hr hs (i := 9) rfl (fun e he hb => by
          simp at he
          (repeat' (rcases he with rfl | he)) <;> first | (subst he; first | exact p0 | exact p2 | exact p4 | exact p6 | exact p7 | exact p8 | exact p1 | exact p3 | exact p5 | exact (absurd hb (by decide))) | exact p0 | exact p2 | exact p4 | exact p6 | exact p7 | exact p8 | exact p1 | exact p3 | exact p5 | exact (absurd hb (by decide)))
        have p10 := up_of_done hr hs (i := 10) rfl (fun e he hb => by
          simp at he
          (repeat' (rcases he with rfl | he)) <;> first | (subst he; first | exact p0 | exact p2 | exact p4 | exact p6 | exact p7 | exact p8 | exact p1 | exact p3 | exact p5 | exact p9 | exact (absurd hb (by decide))) | exact p0 | exact p2 | exact p4 | exact p6 | exact p7 | exact p8 | exact p1 | exact p3 | exact p5 | exact p9 | exact (absurd hb (by decide)))
        have p11 := up_of_done hr hs (i := 11) rfl (fun e he hb => by
          simp at he
          (repeat' (rcases he with rfl | he)) <;> first | (subst he; first | exact p0 | exact p2 | exact p4 | exact p6 | exact p7 | exact p8 | exact p1 | exact p3 | exact p5 | exact p9 | exact p10 | exact (absurd hb (by decide))) | exact p0 | exact p2 | exact p4 | exact p6 | exact p7 | exact p8 | exact p1 | exact p3 | exact p5 | exact p9 | exact p10 | exact (absurd hb (by decide)))
        obtain ⟨u7, u8, u9, u27, u28, u29, u30, u31, u32, rfl, hE, -, ⟨A6, A7, A8⟩, -, -⟩ := hI
        obtain ⟨g7, a0, a1, a2, a3, rfl, -, hb7, e7⟩ := A6 p6
        obtain ⟨g8, b0, b1, b2, b3, rfl, -, hb8, e8⟩ := A7 p7
        obtain ⟨g9, d0, d1, d2, d3, rfl, -, hb9, e9⟩ := A8 p8
        rw [e7 p9] at hb7
        rw [e8 p10] at hb8
        rw [e9 p11] at hb9
        have H7 := Hid.mk' hb7
        have H8 := Hid.mk' hb8
        have H9 := Hid.mk' hb9
        have HE := Hid.mk' hE
        clear hb7 hb8 hb9 hE e7 e8 e9 A6 A7 A8 hr hs
        go_wp2
        go_meet
        case rel => exact ⟨_, _, _, rfl, rfl, rfl, H7, H8, H9, HE⟩
      case step =>
        intro L a wx i hs hI hi
        have hlt := ready_lt hi
        have hn := (mem_ready.1 hi).1
        obtain ⟨u7, u8, u9, u27, u28, u29, u30, u31, u32, rfl, hE, ⟨c0, c2, c4, c1, c3, c5⟩, ⟨A6, A7, A8⟩, ⟨D67, D68, D78⟩, S9, S10, S11⟩ := hI
        obtain ⟨K, hK⟩ : ∃ K : Act → World → Prop, ∀ a' w', K a' w' ↔ VInv (w.heap.size + 3) (((w.alloc (.cells #[.int .u8 ta, .int .i64 na, .int .u64 xa, .int .u64 ya, .string sa] 42)).alloc (.cells #[.int .u8 tb, .int .i64 nb, .int .u64 xb, .int .u64 yb, .string sb] 42)).alloc (.cells #[.int .u8 tc, .int .i64 nc, .int .u64 xc, .int .u64 yc, .string sc] 42)) (fun u7 u8 u9 u27 u28 u29 u30 u31 u32 => #[.agg #[.int .u8 ta, .int .i64 na, .int .u64 xa, .int .u64 ya, .string sa], .agg #[.int .u8 tb, .int .i64 nb, .int .u64 xb, .int .u64 yb, .string sb], .agg #[.int .u8 tc, .int .i64 nc, .int .u64 xc, .int .u64 yc, .string sc], .pointer (some ⟨w.heap.size, 0, none⟩), .pointer (some ⟨w.heap.size + 1, 0, none⟩), .pointer (some ⟨w.heap.size + 1 + 1, 0, none⟩), .bool false, u7, u8, u9, undef, .pointer (some ⟨w.heap.size, 4, none⟩), .string sa, .int .i64 (sa.size : Nat), .bool (decide (3000 < ((sa.size : Nat) : Int))), .bool (decide (3000 < ((sa.size : Nat) : Int))), .pointer (some ⟨w.heap.size + 1, 4, none⟩), .string sb, .int .i64 (sb.size : Nat), .bool (decide (3000 < ((sb.size : Nat) : Int))), .bool (decide (3000 < ((sa.size : Nat) : Int)) || decide (3000 < ((sb.size : Nat) : Int))), .bool (decide (3000 < ((sa.size : Nat) : Int)) || decide (3000 < ((sb.size : Nat) : Int))), .pointer (some ⟨w.heap.size + 1 + 1, 4, none⟩), .string sc, .int .i64 (sc.size : Nat), .bool (decide (3000 < ((sc.size : Nat) : Int))), .bool (decide (3000 < ((sa.size : Nat) : Int)) || decide (3000 < ((sb.size : Nat) : Int)) || decide (3000 < ((sc.size : Nat) : Int))), u27, u28, u29, u30, u31, u32, undef, undef, undef, undef, undef, undef, undef, undef, undef, undef, undef, undef, undef, undef, undef, undef, undef, undef, undef, undef, undef, undef, undef, undef, undef, undef, undef, undef, undef, undef, undef, undef, undef, undef, undef, undef, undef, undef, undef, undef, undef, undef, undef, undef, undef]) #[.int .u8 ta, .int .i64 na, .int .u64 xa, .int .u64 ya, .string sa] #[.int .u8 tb, .int .i64 nb, .int .u64 xb, .int .u64 yb, .string sb] #[.int .u8 tc, .int .i64 nc, .int .u64 xc, .int .u64 yc, .string sc] #[.int .u8 ta, .int .i64 na, .complex .f64 xa ya, .string sa] #[.int .u8 tb, .int .i64 nb, .complex .f64 xb yb, .string sb] #[.int .u8 tc, .int .i64 nc, .complex .f64 xc yc, .string sc] (L.setIfInBounds i true) a' w' := ⟨_, fun _ _ => Iff.rfl⟩
        refine wpOp_mono (fun a' w' h => (hK a' w').1 h) ?_
        have HK := Hid.mk' hK
        obtain ⟨hc, hf⟩ := hE.cells
        have HE := Hid.mk' hE
        have old : ∀ {j : Nat}, j ≠ i → up (L.setIfInBounds i true) j → up L j := fun hj h => ((up_set (by rw [hs]; exact hlt)).1 h).resolve_left hj
        have keep : ∀ {j : Nat}, up L j → up (L.setIfInBounds i true) j := fun h => (up_set (by rw [hs]; exact hlt)).2 (.inr h)
        have now : up (L.setIfInBounds i true) i := (up_set (by rw [hs]; exact hlt)).2 (.inl rfl)
        clear hK hE
        have hi12 : i = 0 ∨ i = 1 ∨ i = 2 ∨ i = 3 ∨ i = 4 ∨ i = 5 ∨ i = 6 ∨ i = 7 ∨ i = 8 ∨ i = 9 ∨ i = 10 ∨ i = 11 := by
          have : i < 12 := hlt
          omega
        rcases hi12 with rfl | rfl | rfl | rfl | rfl | rfl | rfl | rfl | rfl | rfl | rfl | rfl
        · refine wpOp_ok rfl rfl ?_
          go_simp
          exact (HK.out _ _).2 ⟨_, _, _, _, _, _, _, _, _, rfl, HE.out, ⟨fun _ => rfl, fun h => c2 (old (by decide) h), fun h => c4 (old (by decide) h), fun h => c1 (old (by decide) h), fun h => c3 (old (by decide) h), fun h => c5 (old (by decide) h)⟩, ⟨(A6.mono (old (by decide)) (old (by decide))), (A7.mono (old (by decide)) (old (by decide))), (A8.mono (old (by decide)) (old (by decide)))⟩, ⟨fun p q => D67 (old (by decide) p) (old (by decide) q), fun p q => D68 (old (by decide) p) (old (by decide) q), fun p q => D78 (old (by decide) p) (old (by decide) q)⟩, fun h => keep (S9 (old (by decide) h)), fun h => keep (S10 (old (by decide) h)), fun h => keep (S11 (old (by decide) h))⟩
        · have e0 := c0 (ready_dep hi rfl (e := ⟨0, .data⟩) (by simp) rfl)
          subst e0
          refine wpOp_ok rfl rfl ?_
          go_simp
          refine (HA.out _).mono ?_
          rintro e w1 ⟨rfl, hb1⟩
          exact (HK.out _ _).2 ⟨_, _, _, _, _, _, _, _, _, rfl, HE.out.trans hb1, ⟨fun h => c0 (old (by decide) h), fun h => c2 (old (by decide) h), fun h => c4 (old (by decide) h), fun _ => rfl, fun h => c3 (old (by decide) h), fun h => c5 (old (by decide) h)⟩, ⟨(A6.mono (old (by decide)) (old (by decide))).ext hb1, (A7.mono (old (by decide)) (old (by decide))).ext hb1, (A8.mono (old (by decide)) (old (by decide))).ext hb1⟩, ⟨fun p q => D67 (old (by decide) p) (old (by decide) q), fun p q => D68 (old (by decide) p) (old (by decide) q), fun p q => D78 (old (by decide) p) (old (by decide) q)⟩, fun h => keep (S9 (old (by decide) h)), fun h => keep (S10 (old (by decide) h)), fun h => keep (S11 (old (by decide) h))⟩
        · refine wpOp_ok rfl rfl ?_
          go_simp
          exact (HK.out _ _).2 ⟨_, _, _, _, _, _, _, _, _, rfl, HE.out, ⟨fun h => c0 (old (by decide) h), fun _ => rfl, fun h => c4 (old (by decide) h), fun h => c1 (old (by decide) h), fun h => c3 (old (by decide) h), fun h => c5 (old (by decide) h)⟩, ⟨(A6.mono (old (by decide)) (old (by decide))), (A7.mono (old (by decide)) (old (by decide))), (A8.mono (old (by decide)) (old (by decide)))⟩, ⟨fun p q => D67 (old (by decide) p) (old (by decide) q), fun p q => D68 (old (by decide) p) (old (by decide) q), fun p q => D78 (old (by decide) p) (old (by decide) q)⟩, fun h => keep (S9 (old (by decide) h)), fun h => keep (S10 (old (by decide) h)), fun h => keep (S11 (old (by decide) h))⟩
        · have e0 := c2 (ready_dep hi rfl (e := ⟨2, .data⟩) (by simp) rfl)
          subst e0
          refine wpOp_ok rfl rfl ?_
          go_simp
          refine (HB.out _).mono ?_
          rintro e w1 ⟨rfl, hb1⟩
          exact (HK.out _ _).2 ⟨_, _, _, _, _, _, _, _, _, rfl, HE.out.trans hb1, ⟨fun h => c0 (old (by decide) h), fun h => c2 (old (by decide) h), fun h => c4 (old (by decide) h), fun h => c1 (old (by decide) h), fun _ => rfl, fun h => c5 (old (by decide) h)⟩, ⟨(A6.mono (old (by decide)) (old (by decide))).ext hb1, (A7.mono (old (by decide)) (old (by decide))).ext hb1, (A8.mono (old (by decide)) (old (by decide))).ext hb1⟩, ⟨fun p q => D67 (old (by decide) p) (old (by decide) q), fun p q => D68 (old (by decide) p) (old (by decide) q), fun p q => D78 (old (by decide) p) (old (by decide) q)⟩, fun h => keep (S9 (old (by decide) h)), fun h => keep (S10 (old (by decide) h)), fun h => keep (S11 (old (by decide) h))⟩
        · refine wpOp_ok rfl rfl ?_
          go_simp
          exact (HK.out _ _).2 ⟨_, _, _, _, _, _, _, _, _, rfl, HE.out, ⟨fun h => c0 (old (by decide) h), fun h => c2 (old (by decide) h), fun _ => rfl, fun h => c1 (old (by decide) h), fun h => c3 (old (by decide) h), fun h => c5 (old (by decide) h)⟩, ⟨(A6.mono (old (by decide)) (old (by decide))), (A7.mono (old (by decide)) (old (by decide))), (A8.mono (old (by decide)) (old (by decide)))⟩, ⟨fun p q => D67 (old (by decide) p) (old (by decide) q), fun p q => D68 (old (by decide) p) (old (by decide) q), fun p q => D78 (old (by decide) p) (old (by decide) q)⟩, fun h => keep (S9 (old (by decide) h)), fun h => keep (S10 (old (by decide) h)), fun h => keep (S11 (old (by decide) h))⟩
        · have e0 := c4 (ready_dep hi rfl (e := ⟨4, .data⟩) (by simp) rfl)
          subst e0
          refine wpOp_ok rfl rfl ?_
          go_simp
          refine (HC.out _).mono ?_
          rintro e w1 ⟨rfl, hb1⟩
          exact (HK.out _ _).2 ⟨_, _, _, _, _, _, _, _, _, rfl, HE.out.trans hb1, ⟨fun h => c0 (old (by decide) h), fun h => c2 (old (by decide) h), fun h => c4 (old (by decide) h), fun h => c1 (old (by decide) h), fun h => c3 (old (by decide) h), fun _ => rfl⟩, ⟨(A6.mono (old (by decide)) (old (by decide))).ext hb1, (A7.mono (old (by decide)) (old (by decide))).ext hb1, (A8.mono (old (by decide)) (old (by decide))).ext hb1⟩, ⟨fun p q => D67 (old (by decide) p) (old (by decide) q), fun p q => D68 (old (by decide) p) (old (by decide) q), fun p q => D78 (old (by decide) p) (old (by decide) q)⟩, fun h => keep (S9 (old (by decide) h)), fun h => keep (S10 (old (by decide) h)), fun h => keep (S11 (old (by decide) h))⟩
        · have hnu := not_up hn
          have hN : w.heap.size + 3 ≤ wx.heap.size := by have := HE.out.size; simp at this; omega
          refine wpOp_ok rfl rfl ?_
          go_simp
          exact (HK.out _ _).2 ⟨_, _, _, _, _, _, _, _, _, rfl, HE.out.alloc _, ⟨fun h => c0 (old (by decide) h), fun h => c2 (old (by decide) h), fun h => c4 (old (by decide) h), fun h => c1 (old (by decide) h), fun h => c3 (old (by decide) h), fun h => c5 (old (by decide) h)⟩, ⟨fun _ => ⟨_, _, _, _, _, rfl, hN, Blk.new _ _ _, fun h9 => absurd (S9 (old (by decide) h9)) hnu⟩, (A7.mono (old (by decide)) (old (by decide))).ext ((Ext.refl wx).alloc _), (A8.mono (old (by decide)) (old (by decide))).ext ((Ext.refl wx).alloc _)⟩, ⟨fun _ q => A7.ne (old (by decide) q), fun _ q => A8.ne (old (by decide) q), fun p q => D78 (old (by decide) p) (old (by decide) q)⟩, fun _ => now, fun h => keep (S10 (old (by decide) h)), fun h => keep (S11 (old (by decide) h))⟩
        · have hnu := not_up hn
          have hN : w.heap.size + 3 ≤ wx.heap.size := by have := HE.out.size; simp at this; omega
          refine wpOp_ok rfl rfl ?_
          go_simp
          exact (HK.out _ _).2 ⟨_, _, _, _, _, _, _, _, _, rfl, HE.out.alloc _, ⟨fun h => c0 (old (by decide) h), fun h => c2 (old (by decide) h), fun h => c4 (old (by decide) h), fun h => c1 (old (by decide) h), fun h => c3 (old (by decide) h), fun h => c5 (old (by decide) h)⟩, ⟨(A6.mono (old (by decide)) (old (by decide))).ext ((Ext.refl wx).alloc _), fun _ => ⟨_, _, _, _, _, rfl, hN, Blk.new _ _ _, fun h9 => absurd (S10 (old (by decide) h9)) hnu⟩, (A8.mono (old (by decide)) (old (by decide))).ext ((Ext.refl wx).alloc _)⟩, ⟨fun p _ => (A6.ne (old (by decide) p)).symm, fun p q => D68 (old (by decide) p) (old (by decide) q), fun _ q => A8.ne (old (by decide) q)⟩, fun h => keep (S9 (old (by decide) h)), fun _ => now, fun h => keep (S11 (old (by decide) h))⟩
        · have hnu := not_up hn
          have hN : w.heap.size + 3 ≤ wx.heap.size := by have := HE.out.size; simp at this; omega
          refine wpOp_ok rfl rfl ?_
          go_simp
          exact (HK.out _ _).2 ⟨_, _, _, _, _, _, _, _, _, rfl, HE.out.alloc _, ⟨fun h => c0 (old (by decide) h), fun h => c2 (old (by decide) h), fun h => c4 (old (by decide) h), fun h => c1 (old (by decide) h), fun h => c3 (old (by decide) h), fun h => c5 (old (by decide) h)⟩, ⟨(A6.mono (old (by decide)) (old (by decide))).ext ((Ext.refl wx).alloc _), (A7.mono (old (by decide)) (old (by decide))).ext ((Ext.refl wx).alloc _), fun _ => ⟨_, _, _, _, _, rfl, hN, Blk.new _ _ _, fun h9 => absurd (S11 (old (by decide) h9)) hnu⟩⟩, ⟨fun p q => D67 (old (by decide) p) (old (by decide) q), fun p _ => (A6.ne (old (by decide) p)).symm, fun p _ => (A7.ne (old (by decide) p)).symm⟩, fun h => keep (S9 (old (by decide) h)), fun h => keep (S10 (old (by decide) h)), fun _ => now⟩
        · have pa := ready_dep hi rfl (e := ⟨6, .data⟩) (by simp) rfl
          have e0 := c1 (ready_dep hi rfl (e := ⟨1, .data⟩) (by simp) rfl)
          subst e0
          obtain ⟨g, x0, x1, x2, x3, rfl, hg, hbk, -⟩ := A6 pa
          have k1 := hbk.cell
          have f1 := hbk.frozen
          have z1 := hbk.lt
          have HBK := Hid.mk' hbk
          have hW0 : (((w.alloc (.cells #[.int .u8 ta, .int .i64 na, .int .u64 xa, .int .u64 ya, .string sa] 42)).alloc (.cells #[.int .u8 tb, .int .i64 nb, .int .u64 xb, .int .u64 yb, .string sb] 42)).alloc (.cells #[.int .u8 tc, .int .i64 nc, .int .u64 xc, .int .u64 yc, .string sc] 42)).heap.size ≤ g := by simp; omega
          clear hbk
          refine wpOp_ok rfl rfl ?_
          go_simp
          exact (HK.out _ _).2 ⟨_, _, _, _, _, _, _, _, _, rfl, (((HE.out.setCell hW0 _).setCell hW0 _).setCell hW0 _).setCell hW0 _, ⟨fun h => c0 (old (by decide) h), fun h => c2 (old (by decide) h), fun h => c4 (old (by decide) h), fun h => c1 (old (by decide) h), fun h => c3 (old (by decide) h), fun h => c5 (old (by decide) h)⟩, ⟨fun _ => ⟨g, _, _, _, _, rfl, hg, (((HBK.out.set 0 (.int .u8 ta)).set 1 (.int .i64 na)).set 2 (.complex .f64 xa ya)).set 3 (.string sa), fun _ => rfl⟩, (((((A7.mono (old (by decide)) (old (by decide))).other (fun q => (D67 pa (old (by decide) q)).symm) 0 _).other (fun q => (D67 pa (old (by decide) q)).symm) 1 _).other (fun q => (D67 pa (old (by decide) q)).symm) 2 _).other (fun q => (D67 pa (old (by decide) q)).symm) 3 _), (((((A8.mono (old (by decide)) (old (by decide))).other (fun q => (D68 pa (old (by decide) q)).symm) 0 _).other (fun q => (D68 pa (old (by decide) q)).symm) 1 _).other (fun q => (D68 pa (old (by decide) q)).symm) 2 _).other (fun q => (D68 pa (old (by decide) q)).symm) 3 _)⟩, ⟨fun p q => D67 (old (by decide) p) (old (by decide) q), fun p q => D68 (old (by decide) p) (old (by decide) q), fun p q => D78 (old (by decide) p) (old (by decide) q)⟩, fun _ => keep pa, fun h => keep (S10 (old (by decide) h)), fun h => keep (S11 (old (by decide) h))⟩
        · have pa := ready_dep hi rfl (e := ⟨7, .data⟩) (by simp) rfl
          have e0 := c3 (ready_dep hi rfl (e := ⟨3, .data⟩) (by simp) rfl)
          subst e0
          obtain ⟨g, x0, x1, x2, x3, rfl, hg, hbk, -⟩ := A7 pa
          have k1 := hbk.cell
          have f1 := hbk.frozen
          have z1 := hbk.lt
          have HBK := Hid.mk' hbk
          have hW0 : (((w.alloc (.cells #[.int .u8 ta, .int .i64 na, .int .u64 xa, .int .u64 ya, .string sa] 42)).alloc (.cells #[.int .u8 tb, .int .i64 nb, .int .u64 xb, .int .u64 yb, .string sb] 42)).alloc (.cells #[.int .u8 tc, .int .i64 nc, .int .u64 xc, .int .u64 yc, .string sc] 42)).heap.size ≤ g := by simp; omega
          clear hbk
          refine wpOp_ok rfl rfl ?_
          go_simp
          exact (HK.out _ _).2 ⟨_, _, _, _, _, _, _, _, _, rfl, (((HE.out.setCell hW0 _).setCell hW0 _).setCell hW0 _).setCell hW0 _, ⟨fun h => c0 (old (by decide) h), fun h => c2 (old (by decide) h), fun h => c4 (old (by decide) h), fun h => c1 (old (by decide) h), fun h => c3 (old (by decide) h), fun h => c5 (old (by decide) h)⟩, ⟨(((((A6.mono (old (by decide)) (old (by decide))).other (fun q => D67 (old (by decide) q) pa) 0 _).other (fun q => D67 (old (by decide) q) pa) 1 _).other (fun q => D67 (old (by decide) q) pa) 2 _).other (fun q => D67 (old (by decide) q) pa) 3 _), fun _ => ⟨g, _, _, _, _, rfl, hg, (((HBK.out.set 0 (.int .u8 tb)).set 1 (.int .i64 nb)).set 2 (.complex .f64 xb yb)).set 3 (.string sb), fun _ => rfl⟩, (((((A8.mono (old (by decide)) (old (by decide))).other (fun q => (D78 pa (old (by decide) q)).symm) 0 _).other (fun q => (D78 pa (old (by decide) q)).symm) 1 _).other (fun q => (D78 pa (old (by decide) q)).symm) 2 _).other (fun q => (D78 pa (old (by decide) q)).symm) 3 _)⟩, ⟨fun p q => D67 (old (by decide) p) (old (by decide) q), fun p q => D68 (old (by decide) p) (old (by decide) q), fun p q => D78 (old (by decide) p) (old (by decide) q)⟩, fun h => keep (S9 (old (by decide) h)), fun _ => keep pa, fun h => keep (S11 (old (by decide) h))⟩
        · have pa := ready_dep hi rfl (e := ⟨8, .data⟩) (by simp) rfl
          have e0 := c5 (ready_dep hi rfl (e := ⟨5, .data⟩) (by simp) rfl)
          subst e0
          obtain ⟨g, x0, x1, x2, x3, rfl, hg, hbk, -⟩ := A8 pa
          have k1 := hbk.cell
          have f1 := hbk.frozen
          have z1 := hbk.lt
          have HBK := Hid.mk' hbk
          have hW0 : (((w.alloc (.cells #[.int .u8 ta, .int .i64 na, .int .u64 xa, .int .u64 ya, .string sa] 42)).alloc (.cells #[.int .u8 tb, .int .i64 nb, .int .u64 xb, .int .u64 yb, .string sb] 42)).alloc (.cells #[.int .u8 tc, .int .i64 nc, .int .u64 xc, .int .u64 yc, .string sc] 42)).heap.size ≤ g := by simp; omega
          clear hbk
          refine wpOp_ok rfl rfl ?_
          go_simp
          exact (HK.out _ _).2 ⟨_, _, _, _, _, _, _, _, _, rfl, (((HE.out.setCell hW0 _).setCell hW0 _).setCell hW0 _).setCell hW0 _, ⟨fun h => c0 (old (by decide) h), fun h => c2 (old (by decide) h), fun h => c4 (old (by decide) h), fun h => c1 (old (by decide) h), fun h => c3 (old (by decide) h), fun h => c5 (old (by decide) h)⟩, ⟨(((((A6.mono (old (by decide)) (old (by decide))).other (fun q => D68 (old (by decide) q) pa) 0 _).other (fun q => D68 (old (by decide) q) pa) 1 _).other (fun q => D68 (old (by decide) q) pa) 2 _).other (fun q => D68 (old (by decide) q) pa) 3 _), (((((A7.mono (old (by decide)) (old (by decide))).other (fun q => D78 (old (by decide) q) pa) 0 _).other (fun q => D78 (old (by decide) q) pa) 1 _).other (fun q => D78 (old (by decide) q) pa) 2 _).other (fun q => D78 (old (by decide) q) pa) 3 _), fun _ => ⟨g, _, _, _, _, rfl, hg, (((HBK.out.set 0 (.int .u8 tc)).set 1 (.int .i64 nc)).set 2 (.complex .f64 xc yc)).set 3 (.string sc), fun _ => rfl⟩⟩, ⟨fun p q => D67 (old (by decide) p) (old (by decide) q), fun p q => D68 (old (by decide) p) (old (by decide) q), fun p q => D78 (old (by decide) p) (old (by decide) q)⟩, fun h => keep (S9 (old (by decide) h)), fun h => keep (S10 (old (by decide) h)), fun _ => keep pa⟩
  case rest =>
    as_aux_lemma =>
      obtain ⟨g, h, i, rfl, rfl, rfl, Hg, Hh, Hi, HE0⟩ := hcut
      have HXX := Hid.mk' (fun w => vsame_any ta na xa ya sa ta na xa ya sa w)
      have HXY := Hid.mk' (fun w => vsame_any ta na xa ya sa tb nb xb yb sb w)
      have HYX := Hid.mk' (fun w => vsame_any tb nb xb yb sb ta na xa ya sa w)
      have HYZ := Hid.mk' (fun w => vsame_any tb nb xb yb sb tc nc xc yc sc w)
      have HXZ := Hid.mk' (fun w => vsame_any ta na xa ya sa tc nc xc yc sc w)
      have eXX : sameB ta na xa ya sa ta na xa ya sa = true := by unfold sameB; simp
      have eYX : sameB tb nb xb yb sb ta na xa ya sa = sameB ta na xa ya sa tb nb xb yb sb := by
        unfold sameB
        exact decide_eq_decide.2 ⟨fun ⟨a, b, c, d, e⟩ => ⟨a.symm, b.symm, c.symm, d.symm, e.symm⟩, fun ⟨a, b, c, d, e⟩ => ⟨a.symm, b.symm, c.symm, d.symm, e.symm⟩⟩
      have eXZ : sameB ta na xa ya sa tb nb xb yb sb = true → sameB tb nb xb yb sb tc nc xc yc sc = true → sameB ta na xa ya sa tc nc xc yc sc = true := by
        unfold sameB
        simp only [decide_eq_true_eq]
        rintro ⟨rfl, rfl, rfl, rfl, rfl⟩ ⟨rfl, rfl, rfl, rfl, rfl⟩
        exact ⟨rfl, rfl, rfl, rfl, rfl⟩
      rw [eXX] at HXX
      rw [eYX] at HYX
      have HXZ2 := Hid.mk' eXZ
      clear eXX eYX eXZ
      generalize sameB ta na xa ya sa tb nb xb yb sb = S1 at *
      generalize sameB tb nb xb yb sb tc nc xc yc sc = S2 at *
      generalize sameB ta na xa ya sa tc nc xc yc sc = S3 at *
      have HM : Hid (∀ w, Calls Try.prog 32 #[.agg #[.int .u8 3, .int .i64 0, .int .u64 9223372036854775808, .int .u64 0, .string ⟨#[]⟩]] w fun e w' => e = .returned (.agg #[.int .u8 3, .int .i64 0, .complex .f64 9223372036854775808 0, .string ⟨#[]⟩]) ∧ Ext w w') := Hid.mk' (fun w => vown_any 3 0 9223372036854775808 0 ⟨#[]⟩ w)
      have HMF := Hid.mk' (fun w => vsame_any 3 0 9223372036854775808 0 ⟨#[]⟩ 3 0 0 0 ⟨#[]⟩ w)
      have HMM := Hid.mk' (fun w => vsame_any 3 0 9223372036854775808 0 ⟨#[]⟩ 3 0 9223372036854775808 0 ⟨#[]⟩ w)
      have e1 : sameB 3 0 9223372036854775808 0 ⟨#[]⟩ 3 0 0 0 ⟨#[]⟩ = false := by unfold sameB; simp
      have e2 : sameB 3 0 9223372036854775808 0 ⟨#[]⟩ 3 0 9223372036854775808 0 ⟨#[]⟩ = true := by unfold sameB; simp
      rw [e1] at HMF
      rw [e2] at HMM
      clear e1 e2
      have HS : Hid (∀ w', Ext wc w' → Ext wc w' ∧ (∀ o, w'.cell? ⟨g, o, none⟩ = (#[.int .u8 ta, .int .i64 na, .complex .f64 xa ya, .string sa] : Array Value)[o]?) ∧ (∀ o, w'.cell? ⟨h, o, none⟩ = (#[.int .u8 tb, .int .i64 nb, .complex .f64 xb yb, .string sb] : Array Value)[o]?) ∧ (∀ o, w'.cell? ⟨i, o, none⟩ = (#[.int .u8 tc, .int .i64 nc, .complex .f64 xc yc, .string sc] : Array Value)[o]?)) := Hid.mk' (fun w' hx => ⟨hx, (Hg.out.ext hx).cell, (Hh.out.ext hx).cell, (Hi.out.ext hx).cell⟩)
      have HEw : Hid (Ext w wc) := Hid.mk' ((((Ext.refl w).alloc _).alloc _).alloc _ |>.trans HE0.out)
      go_upto_region 4 with (fail)
      refine wp_region_inv (by kernel_rfl) (VInv4 wc (fun v33 v34 v35 v36 v37 v38 v39 v40 v41 v42 v43 v44 v45 v46 v47 v48 v49 v50 v51 v52 v53 v54 v55 v56 v57 v58 v59 v60 v61 => #[.agg #[.int .u8 ta, .int .i64 na, .int .u64 xa, .int .u64 ya, .string sa], .agg #[.int .u8 tb, .int .i64 nb, .int .u64 xb, .int .u64 yb, .string sb], .agg #[.int .u8 tc, .int .i64 nc, .int .u64 xc, .int .u64 yc, .string sc], .pointer (some ⟨w.heap.size, 0, none⟩), .pointer (some ⟨w.heap.size + 1, 0, none⟩), .pointer (some ⟨w.heap.size + 1 + 1, 0, none⟩), .bool false, .pointer (some ⟨g, 0, none⟩), .pointer (some ⟨h, 0, none⟩), .pointer (some ⟨i, 0, none⟩), undef, u11, u12, u13, u14, u15, u16, u17, u18, u19, u20, u21, u22, u23, u24, u25, u26, u27, u28, u29, u30, u31, u32, v33, v34, v35, v36, v37, v38, v39, v40, v41, v42, v43, v44, v45, v46, v47, v48, v49, v50, v51, v52, v53, v54, v55, v56, v57, v58, v59, v60, v61, u62, u63, u64, u65, u66, u67, u68, u69, u70, u71, u72, u73, u74, u75, u76, u77]) #[.int .u8 ta, .int .i64 na, .complex .f64 xa ya, .string sa] #[.int .u8 tb, .int .i64 nb, .complex .f64 xb yb, .string sb] #[.int .u8 tc, .int .i64 nc, .complex .f64 xc yc, .string sc] S1 S2 S3) ?h0 ?fin ?step
      case h0 =>
        refine ⟨u33, u34, u35, u36, u37, u38, u39, u40, u41, u42, u43, u44, u45, u46, u47, u48, u49, u50, u51, u52, u53, u54, u55, u56, u57, u58, u59, u60, u61, rfl, (Ext.refl _).drew, ?_, ?_, ?_, ?_, ?_, ?_, ?_, ?_, ?_, ?_, ?_, ?_, ?_, ?_, ?_, ?_, ?_, ?_, ?_, ?_, ?_, ?_, ?_, ?_, ?_, ?_, ?_, ?_, ?_⟩ <;> (intro h; exact absurd h up_none)
      case fin =>
        intro L a wx hs hI hr
        have p0 := up_of_done hr hs (i := 0) rfl (fun e he _ => by simp at he)
        have p1 := up_of_done hr hs (i := 1) rfl (fun e he _ => by simp at he)
        have p2 := up_of_done hr hs (i := 2) rfl (fun e he hb => by
          simp at he
          (repeat' (rcases he with rfl | he)) <;> first | (subst he; first | exact p0 | exact p1 | exact (absurd hb (by decide))) | exact p0 | exact p1 | exact (absurd hb (by decide)))
        have p3 := up_of_done hr hs (i := 3) rfl (fun e he hb => by
          simp at he
          (repeat' (rcases he with rfl | he)) <;> first | (subst he; first | exact p0 | exact p1 | exact p2 | exact (absurd hb (by decide))) | exact p0 | exact p1 | exact p2 | exact (absurd hb (by decide)))
        have p4 := up_of_done hr hs (i := 4) rfl (fun e he hb => by
          simp at he
          (repeat' (rcases he with rfl | he)) <;> first | (subst he; first | exact p0 | exact p1 | exact p2 | exact p3 | exact (absurd hb (by decide))) | exact p0 | exact p1 | exact p2 | exact p3 | exact (absurd hb (by decide)))
        have p5 := up_of_done hr hs (i := 5) rfl (fun e he hb => by
          simp at he
          (repeat' (rcases he with rfl | he)) <;> first | (subst he; first | exact p0 | exact p1 | exact p2 | exact p3 | exact p4 | exact (absurd hb (by decide))) | exact p0 | exact p1 | exact p2 | exact p3 | exact p4 | exact (absurd hb (by decide)))
        have p6 := up_of_done hr hs (i := 6) rfl (fun e he hb => by
          simp at he
          (repeat' (rcases he with rfl | he)) <;> first | (subst he; first | exact p0 | exact p1 | exact p2 | exact p3 | exact p4 | exact p5 | exact (absurd hb (by decide))) | exact p0 | exact p1 | exact p2 | exact p3 | exact p4 | exact p5 | exact (absurd hb (by decide)))
        have p7 := up_of_done hr hs (i := 7) rfl (fun e he hb => by
          simp at he
          (repeat' (rcases he with rfl | he)) <;> first | (subst he; first | exact p0 | exact p1 | exact p2 | exact p3 | exact p4 | exact p5 | exact p6 | exact (absurd hb (by decide))) | exact p0 | exact p1 | exact p2 | exact p3 | exact p4 | exact p5 | exact p6 | exact (absurd hb (by decide)))
        have p8 := up_of_done hr hs (i := 8) rfl (fun e he hb => by
          simp at he
          (repeat' (rcases he with rfl | he)) <;> first | (subst he; first | exact p0 | exact p1 | exact p2 | exact p3 | exact p4 | exact p5 | exact p6 | exact p7 | exact (absurd hb (by decide))) | exact p0 | exact p1 | exact p2 | exact p3 | exact p4 | exact p5 | exact p6 | exact p7 | exact (absurd hb (by decide)))
        have p9 := up_of_done hr hs (i := 9) rfl (fun e he hb => by
          simp at he
          (repeat' (rcases he with rfl | he)) <;> first | (subst he; first | exact p0 | exact p1 | exact p2 | exact p3 | exact p4 | exact p5 | exact p6 | exact p7 | exact p8 | exact (absurd hb (by decide))) | exact p0 | exact p1 | exact p2 | exact p3 | exact p4 | exact p5 | exact p6 | exact p7 | exact p8 | exact (absurd hb (by decide)))
        have p10 := up_of_done hr hs (i := 10) rfl (fun e he hb => by
          simp at he
          (repeat' (rcases he with rfl | he)) <;> first | (subst he; first | exact p0 | exact p1 | exact p2 | exact p3 | exact p4 | exact p5 | exact p6 | exact p7 | exact p8 | exact p9 | exact (absurd hb (by decide))) | exact p0 | exact p1 | exact p2 | exact p3 | exact p4 | exact p5 | exact p6 | exact p7 | exact p8 | exact p9 | exact (absurd hb (by decide)))
        have p11 := up_of_done hr hs (i := 11) rfl (fun e he hb => by
          simp at he
          (repeat' (rcases he with rfl | he)) <;> first | (subst he; first | exact p0 | exact p1 | exact p2 | exact p3 | exact p4 | exact p5 | exact p6 | exact p7 | exact p8 | exact p9 | exact p10 | exact (absurd hb (by decide))) | exact p0 | exact p1 | exact p2 | exact p3 | exact p4 | exact p5 | exact p6 | exact p7 | exact p8 | exact p9 | exact p10 | exact (absurd hb (by decide)))
        have p12 := up_of_done hr hs (i := 12) rfl (fun e he hb => by
          simp at he
          (repeat' (rcases he with rfl | he)) <;> first | (subst he; first | exact p0 | exact p1 | exact p2 | exact p3 | exact p4 | exact p5 | exact p6 | exact p7 | exact p8 | exact p9 | exact p10 | exact p11 | exact (absurd hb (by decide))) | exact p0 | exact p1 | exact p2 | exact p3 | exact p4 | exact p5 | exact p6 | exact p7 | exact p8 | exact p9 | exact p10 | exact p11 | exact (absurd hb (by decide)))
        have p13 := up_of_done hr hs (i := 13) rfl (fun e he hb => by
          simp at he
          (repeat' (rcases he with rfl | he)) <;> first | (subst he; first | exact p0 | exact p1 | exact p2 | exact p3 | exact p4 | exact p5 | exact p6 | exact p7 | exact p8 | exact p9 | exact p10 | exact p11 | exact p12 | exact (absurd hb (by decide))) | exact p0 | exact p1 | exact p2 | exact p3 | exact p4 | exact p5 | exact p6 | exact p7 | exact p8 | exact p9 | exact p10 | exact p11 | exact p12 | exact (absurd hb (by decide)))
        have p14 := up_of_done hr hs (i := 14) rfl (fun e he hb => by
          simp at he
          (repeat' (rcases he with rfl | he)) <;> first | (subst he; first | exact p0 | exact p1 | exact p2 | exact p3 | exact p4 | exact p5 | exact p6 | exact p7 | exact p8 | exact p9 | exact p10 | exact p11 | exact p12 | exact p13 | exact (absurd hb (by decide))) | exact p0 | exact p1 | exact p2 | exact p3 | exact p4 | exact p5 | exact p6 | exact p7 | exact p8 | exact p9 | exact p10 | exact p11 | exact p12 | exact p13 | exact (absurd hb (by decide)))
        have p15 := up_of_done hr hs (i := 15) rfl (fun e he hb => by
          simp at he
          (repeat' (rcases he with rfl | he)) <;> first | (subst he; first | exact p0 | exact p1 | exact p2 | exact p3 | exact p4 | exact p5 | exact p6 | exact p7 | exact p8 | exact p9 | exact p10 | exact p11 | exact p12 | exact p13 | exact p14 | exact (absurd hb (by decide))) | exact p0 | exact p1 | exact p2 | exact p3 | exact p4 | exact p5 | exact p6 | exact p7 | exact p8 | exact p9 | exact p10 | exact p11 | exact p12 | exact p13 | exact p14 | exact (absurd hb (by decide)))
        have p16 := up_of_done hr hs (i := 16) rfl (fun e he hb => by
          simp at he
          (repeat' (rcases he with rfl | he)) <;> first | (subst he; first | exact p0 | exact p1 | exact p2 | exact p3 | exact p4 | exact p5 | exact p6 | exact p7 | exact p8 | exact p9 | exact p10 | exact p11 | exact p12 | exact p13 | exact p14 | exact p15 | exact (absurd hb (by decide))) | exact p0 | exact p1 | exact p2 | exact p3 | exact p4 | exact p5 | exact p6 | exact p7 | exact p8 | exact p9 | exact p10 | exact p11 | exact p12 | exact p13 | exact p14 | exact p15 | exact (absurd hb (by decide)))
        have p17 := up_of_done hr hs (i := 17) rfl (fun e he hb => by
          simp at he
          (repeat' (rcases he with rfl | he)) <;> first | (subst he; first | exact p0 | exact p1 | exact p2 | exact p3 | exact p4 | exact p5 | exact p6 | exact p7 | exact p8 | exact p9 | exact p10 | exact p11 | exact p12 | exact p13 | exact p14 | exact p15 | exact p16 | exact (absurd hb (by decide))) | exact p0 | exact p1 | exact p2 | exact p3 | exact p4 | exact p5 | exact p6 | exact p7 | exact p8 | exact p9 | exact p10 | exact p11 | exact p12 | exact p13 | exact p14 | exact p15 | exact p16 | exact (absurd hb (by decide)))
        have p18 := up_of_done hr hs (i := 18) rfl (fun e he hb => by
          simp at he
          (repeat' (rcases he with rfl | he)) <;> first | (subst he; first | exact p0 | exact p1 | exact p2 | exact p3 | exact p4 | exact p5 | exact p6 | exact p7 | exact p8 | exact p9 | exact p10 | exact p11 | exact p12 | exact p13 | exact p14 | exact p15 | exact p16 | exact p17 | exact (absurd hb (by decide))) | exact p0 | exact p1 | exact p2 | exact p3 | exact p4 | exact p5 | exact p6 | exact p7 | exact p8 | exact p9 | exact p10 | exact p11 | exact p12 | exact p13 | exact p14 | exact p15 | exact p16 | exact p17 | exact (absurd hb (by decide)))
        have p19 := up_of_done hr hs (i := 19) rfl (fun e he hb => by
          simp at he
          (repeat' (rcases he with rfl | he)) <;> first | (subst he; first | exact p0 | exact p1 | exact p2 | exact p3 | exact p4 | exact p5 | exact p6 | exact p7 | exact p8 | exact p9 | exact p10 | exact p11 | exact p12 | exact p13 | exact p14 | exact p15 | exact p16 | exact p17 | exact p18 | exact (absurd hb (by decide))) | exact p0 | exact p1 | exact p2 | exact p3 | exact p4 | exact p5 | exact p6 | exact p7 | exact p8 | exact p9 | exact p10 | exact p11 | exact p12 | exact p13 | exact p14 | exact p15 | exact p16 | exact p17 | exact p18 | exact (absurd hb (by decide)))
        have p20 := up_of_done hr hs (i := 20) rfl (fun e he hb => by
          simp at he
          (repeat' (rcases he with rfl | he)) <;> first | (subst he; first | exact p0 | exact p1 | exact p2 | exact p3 | exact p4 | exact p5 | exact p6 | exact p7 | exact p8 | exact p9 | exact p10 | exact p11 | exact p12 | exact p13 | exact p14 | exact p15 | exact p16 | exact p17 | exact p18 | exact p19 | exact (absurd hb (by decide))) | exact p0 | exact p1 | exact p2 | exact p3 | exact p4 | exact p5 | exact p6 | exact p7 | exact p8 | exact p9 | exact p10 | exact p11 | exact p12 | exact p13 | exact p14 | exact p15 | exact p16 | exact p17 | exact p18 | exact p19 | exact (absurd hb (by decide)))
        have p21 := up_of_done hr hs (i := 21) rfl (fun e he hb => by
          simp at he
          (repeat' (rcases he with rfl | he)) <;> first | (subst he; first | exact p0 | exact p1 | exact p2 | exact p3 | exact p4 | exact p5 | exact p6 | exact p7 | exact p8 | exact p9 | exact p10 | exact p11 | exact p12 | exact p13 | exact p14 | exact p15 | exact p16 | exact p17 | exact p18 | exact p19 | exact p20 | exact (absurd hb (by decide))) | exact p0 | exact p1 | exact p2 | exact p3 | exact p4 | exact p5 | exact p6 | exact p7 | exact p8 | exact p9 | exact p10 | exact p11 | exact p12 | exact p13 | exact p14 | exact p15 | exact p16 | exact p17 | exact p18 | exact p19 | exact p20 | exact (absurd hb (by decide)))
        have p22 := up_of_done hr hs (i := 22) rfl (fun e he hb => by
          simp at he
          (repeat' (rcases he with rfl | he)) <;> first | (subst he; first | exact p0 | exact p1 | exact p2 | exact p3 | exact p4 | exact p5 | exact p6 | exact p7 | exact p8 | exact p9 | exact p10 | exact p11 | exact p12 | exact p13 | exact p14 | exact p15 | exact p16 | exact p17 | exact p18 | exact p19 | exact p20 | exact p21 | exact (absurd hb (by decide))) | exact p0 | exact p1 | exact p2 | exact p3 | exact p4 | exact p5 | exact p6 | exact p7 | exact p8 | exact p9 | exact p10 | exact p11 | exact p12 | exact p13 | exact p14 | exact p15 | exact p16 | exact p17 | exact p18 | exact p19 | exact p20 | exact p21 | exact (absurd hb (by decide)))
        have p23 := up_of_done hr hs (i := 23) rfl (fun e he hb => by
          simp at he
          (repeat' (rcases he with rfl | he)) <;> first | (subst he; first | exact p0 | exact p1 | exact p2 | exact p3 | exact p4 | exact p5 | exact p6 | exact p7 | exact p8 | exact p9 | exact p10 | exact p11 | exact p12 | exact p13 | exact p14 | exact p15 | exact p16 | exact p17 | exact p18 | exact p19 | exact p20 | exact p21 | exact p22 | exact (absurd hb (by decide))) | exact p0 | exact p1 | exact p2 | exact p3 | exact p4 | exact p5 | exact p6 | exact p7 | exact p8 | exact p9 | exact p10 | exact p11 | exact p12 | exact p13 | exact p14 | exact p15 | exact p16 | exact p17 | exact p18 | exact p19 | exact p20 | exact p21 | exact p22 | exact (absurd hb (by decide)))
        have p24 := up_of_done hr hs (i := 24) rfl (fun e he hb => by
          simp at he
          (repeat' (rcases he with rfl | he)) <;> first | (subst he; first | exact p0 | exact p1 | exact p2 | exact p3 | exact p4 | exact p5 | exact p6 | exact p7 | exact p8 | exact p9 | exact p10 | exact p11 | exact p12 | exact p13 | exact p14 | exact p15 | exact p16 | exact p17 | exact p18 | exact p19 | exact p20 | exact p21 | exact p22 | exact p23 | exact (absurd hb (by decide))) | exact p0 | exact p1 | exact p2 | exact p3 | exact p4 | exact p5 | exact p6 | exact p7 | exact p8 | exact p9 | exact p10 | exact p11 | exact p12 | exact p13 | exact p14 | exact p15 | exact p16 | exact p17 | exact p18 | exact p19 | exact p20 | exact p21 | exact p22 | exact p23 | exact (absurd hb (by decide)))
        have p25 := up_of_done hr hs (i := 25) rfl (fun e he hb => by
          simp at he
          (repeat' (rcases he with rfl | he)) <;> first | (subst he; first | exact p0 | exact p1 | exact p2 | exact p3 | exact p4 | exact p5 | exact p6 | exact p7 | exact p8 | exact p9 | exact p10 | exact p11 | exact p12 | exact p13 | exact p14 | exact p15 | exact p16 | exact p17 | exact p18 | exact p19 | exact p20 | exact p21 | exact p22 | exact p23 | exact p24 | exact (absurd hb (by decide))) | exact p0 | exact p1 | exact p2 | exact p3 | exact p4 | exact p5 | exact p6 | exact p7 | exact p8 | exact p9 | exact p10 | exact p11 | exact p12 | exact p13 | exact p14 | exact p15 | exact p16 | exact p17 | exact p18 | exact p19 | exact p20 | exact p21 | exact p22 | exact p23 | exact p24 | exact (absurd hb (by decide)))
        have p26 := up_of_done hr hs (i := 26) rfl (fun e he hb => by
          simp at he
          (repeat' (rcases he with rfl | he)) <;> first | (subst he; first | exact p0 | exact p1 | exact p2 | exact p3 | exact p4 | exact p5 | exact p6 | exact p7 | exact p8 | exact p9 | exact p10 | exact p11 | exact p12 | exact p13 | exact p14 | exact p15 | exact p16 | exact p17 | exact p18 | exact p19 | exact p20 | exact p21 | exact p22 | exact p23 | exact p24 | exact p25 | exact (absurd hb (by decide))) | exact p0 | exact p1 | exact p2 | exact p3 | exact p4 | exact p5 | exact p6 | exact p7 | exact p8 | exact p9 | exact p10 | exact p11 | exact p12 | exact p13 | exact p14 | exact p15 | exact p16 | exact p17 | exact p18 | exact p19 | exact p20 | exact p21 | exact p22 | exact p23 | exact p24 | exact p25 | exact (absurd hb (by decide)))
        have p27 := up_of_done hr hs (i := 27) rfl (fun e he hb => by
          simp at he
          (repeat' (rcases he with rfl | he)) <;> first | (subst he; first | exact p0 | exact p1 | exact p2 | exact p3 | exact p4 | exact p5 | exact p6 | exact p7 | exact p8 | exact p9 | exact p10 | exact p11 | exact p12 | exact p13 | exact p14 | exact p15 | exact p16 | exact p17 | exact p18 | exact p19 | exact p20 | exact p21 | exact p22 | exact p23 | exact p24 | exact p25 | exact p26 | exact (absurd hb (by decide))) | exact p0 | exact p1 | exact p2 | exact p3 | exact p4 | exact p5 | exact p6 | exact p7 | exact p8 | exact p9 | exact p10 | exact p11 | exact p12 | exact p13 | exact p14 | exact p15 | exact p16 | exact p17 | exact p18 | exact p19 | exact p20 | exact p21 | exact p22 | exact p23 | exact p24 | exact p25 | exact p26 | exact (absurd hb (by decide)))
        have p28 := up_of_done hr hs (i := 28) rfl (fun e he hb => by
          simp at he
          (repeat' (rcases he with rfl | he)) <;> first | (subst he; first | exact p0 | exact p1 | exact p2 | exact p3 | exact p4 | exact p5 | exact p6 | exact p7 | exact p8 | exact p9 | exact p10 | exact p11 | exact p12 | exact p13 | exact p14 | exact p15 | exact p16 | exact p17 | exact p18 | exact p19 | exact p20 | exact p21 | exact p22 | exact p23 | exact p24 | exact p25 | exact p26 | exact p27 | exact (absurd hb (by decide))) | exact p0 | exact p1 | exact p2 | exact p3 | exact p4 | exact p5 | exact p6 | exact p7 | exact p8 | exact p9 | exact p10 | exact p11 | exact p12 | exact p13 | exact p14 | exact p15 | exact p16 | exact p17 | exact p18 | exact p19 | exact p20 | exact p21 | exact p22 | exact p23 | exact p24 | exact p25 | exact p26 | exact p27 | exact (absurd hb (by decide)))
        obtain ⟨v33, v34, v35, v36, v37, v38, v39, v40, v41, v42, v43, v44, v45, v46, v47, v48, v49, v50, v51, v52, v53, v54, v55, v56, v57, v58, v59, v60, v61, rfl, hE, -, -, -, -, -, -, -, -, -, -, -, -, -, -, -, -, -, -, -, -, -, -, -, -, -, -, -, -, f28⟩ := hI
        have e28 := f28 p28 trivial
        subst e28
        clear f28 hs hr p0 p1 p2 p3 p4 p5 p6 p7 p8 p9 p10 p11 p12 p13 p14 p15 p16 p17 p18 p19 p20 p21 p22 p23 p24 p25 p26 p27 p28
        have HX := Hid.mk' (HEw.out.trans hE)
        obtain ⟨hc, hf⟩ := hE.cells
        clear hE
        go_wp2
        go_upto_region 7 with (fail)
        have HS7 : Hid (∀ w', Ext (wx.alloc (.cells #[.int .u8 3, .int .i64 0, .int .u64 9223372036854775808, .int .u64 0, .string ⟨#[]⟩] 42)) w' → Ext (wx.alloc (.cells #[.int .u8 3, .int .i64 0, .int .u64 9223372036854775808, .int .u64 0, .string ⟨#[]⟩] 42)) w' ∧ (∀ o, w'.cell? ⟨wx.heap.size, o, none⟩ = (#[.int .u8 3, .int .i64 0, .int .u64 9223372036854775808, .int .u64 0, .string ⟨#[]⟩] : Array Value)[o]?)) := Hid.mk' (fun w' hx => ⟨hx, ((Blk.new wx #[.int .u8 3, .int .i64 0, .int .u64 9223372036854775808, .int .u64 0, .string ⟨#[]⟩] 42).ext hx).cell⟩)
        have HW : Hid (Ext w (wx.alloc (.cells #[.int .u8 3, .int .i64 0, .int .u64 9223372036854775808, .int .u64 0, .string ⟨#[]⟩] 42))) := Hid.mk' (HX.out.alloc _)
        clear HX HEw HS HE0 Hg Hh Hi HA HB HC HXX HXY HYX HYZ HXZ HXZ2
        go_region_held3 (fun w' => Ext (wx.alloc (.cells #[.int .u8 3, .int .i64 0, .int .u64 9223372036854775808, .int .u64 0, .string ⟨#[]⟩] 42)) w' ∧ (∀ o, w'.cell? ⟨wx.heap.size, o, none⟩ = (#[.int .u8 3, .int .i64 0, .int .u64 9223372036854775808, .int .u64 0, .string ⟨#[]⟩] : Array Value)[o]?)) (exact HS7.out _ (by (repeat (with_reducible (first | exact Ext.refl _ | assumption | exact held_left (by assumption) | apply Ext.drewN | apply Ext.drew | apply Ext.alloc | (refine Ext.setCell ?_ (by first | (simp; done) | (simp; omega) | omega) _) | (refine Ext.trans ?_ (by assumption)) | (refine Ext.trans ?_ (held_left (by assumption))))))))
          (first
            | (go_at_call 32; (with_reducible refine (HM.out _).mono ?_); rintro e w2 ⟨rfl, hb2⟩)
            | (go_at_call 34; (with_reducible refine (HMF.out _).mono ?_); rintro e w3 ⟨rfl, hb3⟩)
            | (go_at_call 34; (with_reducible refine (HMM.out _).mono ?_); rintro e w4 ⟨rfl, hb4⟩)
            | (go_at_call 35; (with_reducible refine (awake06_any _).mono ?_); rintro e w5 ⟨rfl, hb5⟩))
        go_wp2
        go_ret
        exact ⟨rfl, HW.out.trans (by (repeat (with_reducible (first | exact Ext.refl _ | assumption | exact held_left (by assumption) | apply Ext.drewN | apply Ext.drew | apply Ext.alloc | (refine Ext.setCell ?_ (by first | (simp; done) | (simp; omega) | omega) _) | (refine Ext.trans ?_ (by assumption)) | (refine Ext.trans ?_ (held_left (by assumption)))))))⟩
      case step =>
        intro L a wx ix hs hI hi
        have hlt := ready_lt hi
        obtain ⟨v33, v34, v35, v36, v37, v38, v39, v40, v41, v42, v43, v44, v45, v46, v47, v48, v49, v50, v51, v52, v53, v54, v55, v56, v57, v58, v59, v60, v61, rfl, hE, f0, f1, f2, f3, f4, f5, f6, f7, f8, f9, f10, f11, f12, f13, f14, f15, f16, f17, f18, f19, f20, f21, f22, f23, f24, f25, f26, f27, f28⟩ := hI
        obtain ⟨K, hK⟩ : ∃ K : Act → World → Prop, ∀ a' w', K a' w' ↔ VInv4 wc (fun v33 v34 v35 v36 v37 v38 v39 v40 v41 v42 v43 v44 v45 v46 v47 v48 v49 v50 v51 v52 v53 v54 v55 v56 v57 v58 v59 v60 v61 => #[.agg #[.int .u8 ta, .int .i64 na, .int .u64 xa, .int .u64 ya, .string sa], .agg #[.int .u8 tb, .int .i64 nb, .int .u64 xb, .int .u64 yb, .string sb], .agg #[.int .u8 tc, .int .i64 nc, .int .u64 xc, .int .u64 yc, .string sc], .pointer (some ⟨w.heap.size, 0, none⟩), .pointer (some ⟨w.heap.size + 1, 0, none⟩), .pointer (some ⟨w.heap.size + 1 + 1, 0, none⟩), .bool false, .pointer (some ⟨g, 0, none⟩), .pointer (some ⟨h, 0, none⟩), .pointer (some ⟨i, 0, none⟩), undef, u11, u12, u13, u14, u15, u16, u17, u18, u19, u20, u21, u22, u23, u24, u25, u26, u27, u28, u29, u30, u31, u32, v33, v34, v35, v36, v37, v38, v39, v40, v41, v42, v43, v44, v45, v46, v47, v48, v49, v50, v51, v52, v53, v54, v55, v56, v57, v58, v59, v60, v61, u62, u63, u64, u65, u66, u67, u68, u69, u70, u71, u72, u73, u74, u75, u76, u77]) #[.int .u8 ta, .int .i64 na, .complex .f64 xa ya, .string sa] #[.int .u8 tb, .int .i64 nb, .complex .f64 xb yb, .string sb] #[.int .u8 tc, .int .i64 nc, .complex .f64 xc yc, .string sc] S1 S2 S3 (L.setIfInBounds ix true) a' w' := ⟨_, fun _ _ => Iff.rfl⟩
        refine wpOp_mono (fun a' w' h => (hK a' w').1 h) ?_
        have HK := Hid.mk' hK
        have kg := (Hg.out.ext hE).cell
        have kh := (Hh.out.ext hE).cell
        have ki := (Hi.out.ext hE).cell
        have HE := Hid.mk' hE
        have old : ∀ {j : Nat}, j ≠ ix → up (L.setIfInBounds ix true) j → up L j := fun hj h => ((up_set (by rw [hs]; exact hlt)).1 h).resolve_left hj
        clear hK hE
        have hi29 : ix = 0 ∨ ix = 1 ∨ ix = 2 ∨ ix = 3 ∨ ix = 4 ∨ ix = 5 ∨ ix = 6 ∨ ix = 7 ∨ ix = 8 ∨ ix = 9 ∨ ix = 10 ∨ ix = 11 ∨ ix = 12 ∨ ix = 13 ∨ ix = 14 ∨ ix = 15 ∨ ix = 16 ∨ ix = 17 ∨ ix = 18 ∨ ix = 19 ∨ ix = 20 ∨ ix = 21 ∨ ix = 22 ∨ ix = 23 ∨ ix = 24 ∨ ix = 25 ∨ ix = 26 ∨ ix = 27 ∨ ix = 28 := by
          have : ix < 29 := hlt
          omega
        rcases hi29 with rfl | rfl | rfl | rfl | rfl | rfl | rfl | rfl | rfl | rfl | rfl | rfl | rfl | rfl | rfl | rfl | rfl | rfl | rfl | rfl | rfl | rfl | rfl | rfl | rfl | rfl | rfl | rfl | rfl
        · skip
          refine wpOp_ok rfl rfl ?_
          go_simp
          exact (HK.out _ _).2 ⟨_, _, _, _, _, _, _, _, _, _, _, _, _, _, _, _, _, _, _, _, _, _, _, _, _, _, _, _, _, rfl, HE.out, fun _ _ => rfl, fun q c => f1 (old (by decide) q) c, fun q c => f2 (old (by decide) q) c, fun q c => f3 (old (by decide) q) c, fun q c => f4 (old (by decide) q) c, fun q c => f5 (old (by decide) q) c, fun q c => f6 (old (by decide) q) c, fun q c => f7 (old (by decide) q) c, fun q c => f8 (old (by decide) q) c, fun q c => f9 (old (by decide) q) c, fun q c => f10 (old (by decide) q) c, fun q c => f11 (old (by decide) q) c, fun q c => f12 (old (by decide) q) c, fun q c => f13 (old (by decide) q) c, fun q c => f14 (old (by decide) q) c, fun q c => f15 (old (by decide) q) c, fun q c => f16 (old (by decide) q) c, fun q c => f17 (old (by decide) q) c, fun q c => f18 (old (by decide) q) c, fun q c => f19 (old (by decide) q) c, fun q c => f20 (old (by decide) q) c, fun q c => f21 (old (by decide) q) c, fun q c => f22 (old (by decide) q) c, fun q c => f23 (old (by decide) q) c, fun q c => f24 (old (by decide) q) c, fun q c => f25 (old (by decide) q) c, fun q c => f26 (old (by decide) q) c, fun q c => f27 (old (by decide) q) c, fun q c => f28 (old (by decide) q) c⟩
        · skip
          refine wpOp_ok rfl rfl ?_
          go_simp
          exact (HK.out _ _).2 ⟨_, _, _, _, _, _, _, _, _, _, _, _, _, _, _, _, _, _, _, _, _, _, _, _, _, _, _, _, _, rfl, HE.out, fun q c => f0 (old (by decide) q) c, fun _ _ => rfl, fun q c => f2 (old (by decide) q) c, fun q c => f3 (old (by decide) q) c, fun q c => f4 (old (by decide) q) c, fun q c => f5 (old (by decide) q) c, fun q c => f6 (old (by decide) q) c, fun q c => f7 (old (by decide) q) c, fun q c => f8 (old (by decide) q) c, fun q c => f9 (old (by decide) q) c, fun q c => f10 (old (by decide) q) c, fun q c => f11 (old (by decide) q) c, fun q c => f12 (old (by decide) q) c, fun q c => f13 (old (by decide) q) c, fun q c => f14 (old (by decide) q) c, fun q c => f15 (old (by decide) q) c, fun q c => f16 (old (by decide) q) c, fun q c => f17 (old (by decide) q) c, fun q c => f18 (old (by decide) q) c, fun q c => f19 (old (by decide) q) c, fun q c => f20 (old (by decide) q) c, fun q c => f21 (old (by decide) q) c, fun q c => f22 (old (by decide) q) c, fun q c => f23 (old (by decide) q) c, fun q c => f24 (old (by decide) q) c, fun q c => f25 (old (by decide) q) c, fun q c => f26 (old (by decide) q) c, fun q c => f27 (old (by decide) q) c, fun q c => f28 (old (by decide) q) c⟩
        · skip
          have e0 := f0 (ready_dep hi rfl (e := ⟨0, .data⟩) (by simp) rfl) trivial
          subst e0
          have e1 := f1 (ready_dep hi rfl (e := ⟨1, .data⟩) (by simp) rfl) trivial
          subst e1
          refine wpOp_ok rfl rfl ?_
          go_simp
          refine (HXX.out _).mono ?_
          rintro e w1 ⟨rfl, hb1⟩
          exact (HK.out _ _).2 ⟨_, _, _, _, _, _, _, _, _, _, _, _, _, _, _, _, _, _, _, _, _, _, _, _, _, _, _, _, _, rfl, HE.out.trans hb1, fun q c => f0 (old (by decide) q) c, fun q c => f1 (old (by decide) q) c, fun _ _ => rfl, fun q c => f3 (old (by decide) q) c, fun q c => f4 (old (by decide) q) c, fun q c => f5 (old (by decide) q) c, fun q c => f6 (old (by decide) q) c, fun q c => f7 (old (by decide) q) c, fun q c => f8 (old (by decide) q) c, fun q c => f9 (old (by decide) q) c, fun q c => f10 (old (by decide) q) c, fun q c => f11 (old (by decide) q) c, fun q c => f12 (old (by decide) q) c, fun q c => f13 (old (by decide) q) c, fun q c => f14 (old (by decide) q) c, fun q c => f15 (old (by decide) q) c, fun q c => f16 (old (by decide) q) c, fun q c => f17 (old (by decide) q) c, fun q c => f18 (old (by decide) q) c, fun q c => f19 (old (by decide) q) c, fun q c => f20 (old (by decide) q) c, fun q c => f21 (old (by decide) q) c, fun q c => f22 (old (by decide) q) c, fun q c => f23 (old (by decide) q) c, fun q c => f24 (old (by decide) q) c, fun q c => f25 (old (by decide) q) c, fun q c => f26 (old (by decide) q) c, fun q c => f27 (old (by decide) q) c, fun q c => f28 (old (by decide) q) c⟩
        · skip
          have e0 := f2 (ready_dep hi rfl (e := ⟨2, .data⟩) (by simp) rfl) trivial
          subst e0
          refine wpOp_ok rfl rfl ?_
          go_simp
          exact (HK.out _ _).2 ⟨_, _, _, _, _, _, _, _, _, _, _, _, _, _, _, _, _, _, _, _, _, _, _, _, _, _, _, _, _, rfl, HE.out, fun q c => f0 (old (by decide) q) c, fun q c => f1 (old (by decide) q) c, fun q c => f2 (old (by decide) q) c, fun _ _ => rfl, fun q c => f4 (old (by decide) q) c, fun q c => f5 (old (by decide) q) c, fun q c => f6 (old (by decide) q) c, fun q c => f7 (old (by decide) q) c, fun q c => f8 (old (by decide) q) c, fun q c => f9 (old (by decide) q) c, fun q c => f10 (old (by decide) q) c, fun q c => f11 (old (by decide) q) c, fun q c => f12 (old (by decide) q) c, fun q c => f13 (old (by decide) q) c, fun q c => f14 (old (by decide) q) c, fun q c => f15 (old (by decide) q) c, fun q c => f16 (old (by decide) q) c, fun q c => f17 (old (by decide) q) c, fun q c => f18 (old (by decide) q) c, fun q c => f19 (old (by decide) q) c, fun q c => f20 (old (by decide) q) c, fun q c => f21 (old (by decide) q) c, fun q c => f22 (old (by decide) q) c, fun q c => f23 (old (by decide) q) c, fun q c => f24 (old (by decide) q) c, fun q c => f25 (old (by decide) q) c, fun q c => f26 (old (by decide) q) c, fun q c => f27 (old (by decide) q) c, fun q c => f28 (old (by decide) q) c⟩
        · skip
          have e0 := f3 (ready_dep hi rfl (e := ⟨3, .data⟩) (by simp) rfl) trivial
          subst e0
          refine wpOp_ok rfl rfl ?_
          go_simp
          exact (HK.out _ _).2 ⟨_, _, _, _, _, _, _, _, _, _, _, _, _, _, _, _, _, _, _, _, _, _, _, _, _, _, _, _, _, rfl, HE.out, fun q c => f0 (old (by decide) q) c, fun q c => f1 (old (by decide) q) c, fun q c => f2 (old (by decide) q) c, fun q c => f3 (old (by decide) q) c, fun _ _ => rfl, fun q c => f5 (old (by decide) q) c, fun q c => f6 (old (by decide) q) c, fun q c => f7 (old (by decide) q) c, fun q c => f8 (old (by decide) q) c, fun q c => f9 (old (by decide) q) c, fun q c => f10 (old (by decide) q) c, fun q c => f11 (old (by decide) q) c, fun q c => f12 (old (by decide) q) c, fun q c => f13 (old (by decide) q) c, fun q c => f14 (old (by decide) q) c, fun q c => f15 (old (by decide) q) c, fun q c => f16 (old (by decide) q) c, fun q c => f17 (old (by decide) q) c, fun q c => f18 (old (by decide) q) c, fun q c => f19 (old (by decide) q) c, fun q c => f20 (old (by decide) q) c, fun q c => f21 (old (by decide) q) c, fun q c => f22 (old (by decide) q) c, fun q c => f23 (old (by decide) q) c, fun q c => f24 (old (by decide) q) c, fun q c => f25 (old (by decide) q) c, fun q c => f26 (old (by decide) q) c, fun q c => f27 (old (by decide) q) c, fun q c => f28 (old (by decide) q) c⟩
        · skip
          have eg := f4 (ready_dep hi rfl (e := ⟨4, .guard⟩) (by simp) rfl) trivial
          subst eg
          refine wpOp_on rfl rfl ?_
          go_simp
          exact (HK.out _ _).2 ⟨_, _, _, _, _, _, _, _, _, _, _, _, _, _, _, _, _, _, _, _, _, _, _, _, _, _, _, _, _, rfl, HE.out, fun q c => f0 (old (by decide) q) c, fun q c => f1 (old (by decide) q) c, fun q c => f2 (old (by decide) q) c, fun q c => f3 (old (by decide) q) c, fun q c => f4 (old (by decide) q) c, fun _ _ => rfl, fun q c => f6 (old (by decide) q) c, fun q c => f7 (old (by decide) q) c, fun q c => f8 (old (by decide) q) c, fun q c => f9 (old (by decide) q) c, fun q c => f10 (old (by decide) q) c, fun q c => f11 (old (by decide) q) c, fun q c => f12 (old (by decide) q) c, fun q c => f13 (old (by decide) q) c, fun q c => f14 (old (by decide) q) c, fun q c => f15 (old (by decide) q) c, fun q c => f16 (old (by decide) q) c, fun q c => f17 (old (by decide) q) c, fun q c => f18 (old (by decide) q) c, fun q c => f19 (old (by decide) q) c, fun q c => f20 (old (by decide) q) c, fun q c => f21 (old (by decide) q) c, fun q c => f22 (old (by decide) q) c, fun q c => f23 (old (by decide) q) c, fun q c => f24 (old (by decide) q) c, fun q c => f25 (old (by decide) q) c, fun q c => f26 (old (by decide) q) c, fun q c => f27 (old (by decide) q) c, fun q c => f28 (old (by decide) q) c⟩
        · skip
          have eg := f4 (ready_dep hi rfl (e := ⟨4, .guard⟩) (by simp) rfl) trivial
          subst eg
          refine wpOp_on rfl rfl ?_
          go_simp
          exact (HK.out _ _).2 ⟨_, _, _, _, _, _, _, _, _, _, _, _, _, _, _, _, _, _, _, _, _, _, _, _, _, _, _, _, _, rfl, HE.out, fun q c => f0 (old (by decide) q) c, fun q c => f1 (old (by decide) q) c, fun q c => f2 (old (by decide) q) c, fun q c => f3 (old (by decide) q) c, fun q c => f4 (old (by decide) q) c, fun q c => f5 (old (by decide) q) c, fun _ _ => rfl, fun q c => f7 (old (by decide) q) c, fun q c => f8 (old (by decide) q) c, fun q c => f9 (old (by decide) q) c, fun q c => f10 (old (by decide) q) c, fun q c => f11 (old (by decide) q) c, fun q c => f12 (old (by decide) q) c, fun q c => f13 (old (by decide) q) c, fun q c => f14 (old (by decide) q) c, fun q c => f15 (old (by decide) q) c, fun q c => f16 (old (by decide) q) c, fun q c => f17 (old (by decide) q) c, fun q c => f18 (old (by decide) q) c, fun q c => f19 (old (by decide) q) c, fun q c => f20 (old (by decide) q) c, fun q c => f21 (old (by decide) q) c, fun q c => f22 (old (by decide) q) c, fun q c => f23 (old (by decide) q) c, fun q c => f24 (old (by decide) q) c, fun q c => f25 (old (by decide) q) c, fun q c => f26 (old (by decide) q) c, fun q c => f27 (old (by decide) q) c, fun q c => f28 (old (by decide) q) c⟩
        · skip
          have eg := f4 (ready_dep hi rfl (e := ⟨4, .guard⟩) (by simp) rfl) trivial
          subst eg
          have e0 := f5 (ready_dep hi rfl (e := ⟨5, .data⟩) (by simp) rfl) trivial
          subst e0
          have e1 := f6 (ready_dep hi rfl (e := ⟨6, .data⟩) (by simp) rfl) trivial
          subst e1
          refine wpOp_on rfl rfl ?_
          go_simp
          refine (HXY.out _).mono ?_
          rintro e w1 ⟨rfl, hb1⟩
          exact (HK.out _ _).2 ⟨_, _, _, _, _, _, _, _, _, _, _, _, _, _, _, _, _, _, _, _, _, _, _, _, _, _, _, _, _, rfl, HE.out.trans hb1, fun q c => f0 (old (by decide) q) c, fun q c => f1 (old (by decide) q) c, fun q c => f2 (old (by decide) q) c, fun q c => f3 (old (by decide) q) c, fun q c => f4 (old (by decide) q) c, fun q c => f5 (old (by decide) q) c, fun q c => f6 (old (by decide) q) c, fun _ _ => rfl, fun q c => f8 (old (by decide) q) c, fun q c => f9 (old (by decide) q) c, fun q c => f10 (old (by decide) q) c, fun q c => f11 (old (by decide) q) c, fun q c => f12 (old (by decide) q) c, fun q c => f13 (old (by decide) q) c, fun q c => f14 (old (by decide) q) c, fun q c => f15 (old (by decide) q) c, fun q c => f16 (old (by decide) q) c, fun q c => f17 (old (by decide) q) c, fun q c => f18 (old (by decide) q) c, fun q c => f19 (old (by decide) q) c, fun q c => f20 (old (by decide) q) c, fun q c => f21 (old (by decide) q) c, fun q c => f22 (old (by decide) q) c, fun q c => f23 (old (by decide) q) c, fun q c => f24 (old (by decide) q) c, fun q c => f25 (old (by decide) q) c, fun q c => f26 (old (by decide) q) c, fun q c => f27 (old (by decide) q) c, fun q c => f28 (old (by decide) q) c⟩
        · skip
          have eg := f4 (ready_dep hi rfl (e := ⟨4, .guard⟩) (by simp) rfl) trivial
          subst eg
          refine wpOp_on rfl rfl ?_
          go_simp
          exact (HK.out _ _).2 ⟨_, _, _, _, _, _, _, _, _, _, _, _, _, _, _, _, _, _, _, _, _, _, _, _, _, _, _, _, _, rfl, HE.out, fun q c => f0 (old (by decide) q) c, fun q c => f1 (old (by decide) q) c, fun q c => f2 (old (by decide) q) c, fun q c => f3 (old (by decide) q) c, fun q c => f4 (old (by decide) q) c, fun q c => f5 (old (by decide) q) c, fun q c => f6 (old (by decide) q) c, fun q c => f7 (old (by decide) q) c, fun _ _ => rfl, fun q c => f9 (old (by decide) q) c, fun q c => f10 (old (by decide) q) c, fun q c => f11 (old (by decide) q) c, fun q c => f12 (old (by decide) q) c, fun q c => f13 (old (by decide) q) c, fun q c => f14 (old (by decide) q) c, fun q c => f15 (old (by decide) q) c, fun q c => f16 (old (by decide) q) c, fun q c => f17 (old (by decide) q) c, fun q c => f18 (old (by decide) q) c, fun q c => f19 (old (by decide) q) c, fun q c => f20 (old (by decide) q) c, fun q c => f21 (old (by decide) q) c, fun q c => f22 (old (by decide) q) c, fun q c => f23 (old (by decide) q) c, fun q c => f24 (old (by decide) q) c, fun q c => f25 (old (by decide) q) c, fun q c => f26 (old (by decide) q) c, fun q c => f27 (old (by decide) q) c, fun q c => f28 (old (by decide) q) c⟩
        · skip
          have eg := f4 (ready_dep hi rfl (e := ⟨4, .guard⟩) (by simp) rfl) trivial
          subst eg
          refine wpOp_on rfl rfl ?_
          go_simp
          exact (HK.out _ _).2 ⟨_, _, _, _, _, _, _, _, _, _, _, _, _, _, _, _, _, _, _, _, _, _, _, _, _, _, _, _, _, rfl, HE.out, fun q c => f0 (old (by decide) q) c, fun q c => f1 (old (by decide) q) c, fun q c => f2 (old (by decide) q) c, fun q c => f3 (old (by decide) q) c, fun q c => f4 (old (by decide) q) c, fun q c => f5 (old (by decide) q) c, fun q c => f6 (old (by decide) q) c, fun q c => f7 (old (by decide) q) c, fun q c => f8 (old (by decide) q) c, fun _ _ => rfl, fun q c => f10 (old (by decide) q) c, fun q c => f11 (old (by decide) q) c, fun q c => f12 (old (by decide) q) c, fun q c => f13 (old (by decide) q) c, fun q c => f14 (old (by decide) q) c, fun q c => f15 (old (by decide) q) c, fun q c => f16 (old (by decide) q) c, fun q c => f17 (old (by decide) q) c, fun q c => f18 (old (by decide) q) c, fun q c => f19 (old (by decide) q) c, fun q c => f20 (old (by decide) q) c, fun q c => f21 (old (by decide) q) c, fun q c => f22 (old (by decide) q) c, fun q c => f23 (old (by decide) q) c, fun q c => f24 (old (by decide) q) c, fun q c => f25 (old (by decide) q) c, fun q c => f26 (old (by decide) q) c, fun q c => f27 (old (by decide) q) c, fun q c => f28 (old (by decide) q) c⟩
        · skip
          have eg := f4 (ready_dep hi rfl (e := ⟨4, .guard⟩) (by simp) rfl) trivial
          subst eg
          have e0 := f8 (ready_dep hi rfl (e := ⟨8, .data⟩) (by simp) rfl) trivial
          subst e0
          have e1 := f9 (ready_dep hi rfl (e := ⟨9, .data⟩) (by simp) rfl) trivial
          subst e1
          refine wpOp_on rfl rfl ?_
          go_simp
          refine (HYX.out _).mono ?_
          rintro e w1 ⟨rfl, hb1⟩
          exact (HK.out _ _).2 ⟨_, _, _, _, _, _, _, _, _, _, _, _, _, _, _, _, _, _, _, _, _, _, _, _, _, _, _, _, _, rfl, HE.out.trans hb1, fun q c => f0 (old (by decide) q) c, fun q c => f1 (old (by decide) q) c, fun q c => f2 (old (by decide) q) c, fun q c => f3 (old (by decide) q) c, fun q c => f4 (old (by decide) q) c, fun q c => f5 (old (by decide) q) c, fun q c => f6 (old (by decide) q) c, fun q c => f7 (old (by decide) q) c, fun q c => f8 (old (by decide) q) c, fun q c => f9 (old (by decide) q) c, fun _ _ => rfl, fun q c => f11 (old (by decide) q) c, fun q c => f12 (old (by decide) q) c, fun q c => f13 (old (by decide) q) c, fun q c => f14 (old (by decide) q) c, fun q c => f15 (old (by decide) q) c, fun q c => f16 (old (by decide) q) c, fun q c => f17 (old (by decide) q) c, fun q c => f18 (old (by decide) q) c, fun q c => f19 (old (by decide) q) c, fun q c => f20 (old (by decide) q) c, fun q c => f21 (old (by decide) q) c, fun q c => f22 (old (by decide) q) c, fun q c => f23 (old (by decide) q) c, fun q c => f24 (old (by decide) q) c, fun q c => f25 (old (by decide) q) c, fun q c => f26 (old (by decide) q) c, fun q c => f27 (old (by decide) q) c, fun q c => f28 (old (by decide) q) c⟩
        · skip
          have eg := f4 (ready_dep hi rfl (e := ⟨4, .guard⟩) (by simp) rfl) trivial
          subst eg
          have e0 := f7 (ready_dep hi rfl (e := ⟨7, .data⟩) (by simp) rfl) trivial
          subst e0
          have e1 := f10 (ready_dep hi rfl (e := ⟨10, .data⟩) (by simp) rfl) trivial
          subst e1
          refine wpOp_on rfl rfl ?_
          go_simp
          exact (HK.out _ _).2 ⟨_, _, _, _, _, _, _, _, _, _, _, _, _, _, _, _, _, _, _, _, _, _, _, _, _, _, _, _, _, rfl, HE.out, fun q c => f0 (old (by decide) q) c, fun q c => f1 (old (by decide) q) c, fun q c => f2 (old (by decide) q) c, fun q c => f3 (old (by decide) q) c, fun q c => f4 (old (by decide) q) c, fun q c => f5 (old (by decide) q) c, fun q c => f6 (old (by decide) q) c, fun q c => f7 (old (by decide) q) c, fun q c => f8 (old (by decide) q) c, fun q c => f9 (old (by decide) q) c, fun q c => f10 (old (by decide) q) c, fun _ _ => by simp, fun q c => f12 (old (by decide) q) c, fun q c => f13 (old (by decide) q) c, fun q c => f14 (old (by decide) q) c, fun q c => f15 (old (by decide) q) c, fun q c => f16 (old (by decide) q) c, fun q c => f17 (old (by decide) q) c, fun q c => f18 (old (by decide) q) c, fun q c => f19 (old (by decide) q) c, fun q c => f20 (old (by decide) q) c, fun q c => f21 (old (by decide) q) c, fun q c => f22 (old (by decide) q) c, fun q c => f23 (old (by decide) q) c, fun q c => f24 (old (by decide) q) c, fun q c => f25 (old (by decide) q) c, fun q c => f26 (old (by decide) q) c, fun q c => f27 (old (by decide) q) c, fun q c => f28 (old (by decide) q) c⟩
        · skip
          have e0 := f4 (ready_dep hi rfl (e := ⟨4, .data⟩) (by simp) rfl) trivial
          subst e0
          have e1 := f11 (ready_dep hi rfl (e := ⟨11, .data⟩) (by simp) rfl) trivial
          subst e1
          refine wpOp_ok rfl rfl ?_
          go_simp
          exact (HK.out _ _).2 ⟨_, _, _, _, _, _, _, _, _, _, _, _, _, _, _, _, _, _, _, _, _, _, _, _, _, _, _, _, _, rfl, HE.out, fun q c => f0 (old (by decide) q) c, fun q c => f1 (old (by decide) q) c, fun q c => f2 (old (by decide) q) c, fun q c => f3 (old (by decide) q) c, fun q c => f4 (old (by decide) q) c, fun q c => f5 (old (by decide) q) c, fun q c => f6 (old (by decide) q) c, fun q c => f7 (old (by decide) q) c, fun q c => f8 (old (by decide) q) c, fun q c => f9 (old (by decide) q) c, fun q c => f10 (old (by decide) q) c, fun q c => f11 (old (by decide) q) c, fun _ _ => rfl, fun q c => f13 (old (by decide) q) c, fun q c => f14 (old (by decide) q) c, fun q c => f15 (old (by decide) q) c, fun q c => f16 (old (by decide) q) c, fun q c => f17 (old (by decide) q) c, fun q c => f18 (old (by decide) q) c, fun q c => f19 (old (by decide) q) c, fun q c => f20 (old (by decide) q) c, fun q c => f21 (old (by decide) q) c, fun q c => f22 (old (by decide) q) c, fun q c => f23 (old (by decide) q) c, fun q c => f24 (old (by decide) q) c, fun q c => f25 (old (by decide) q) c, fun q c => f26 (old (by decide) q) c, fun q c => f27 (old (by decide) q) c, fun q c => f28 (old (by decide) q) c⟩
        · skip
          have e0 := f12 (ready_dep hi rfl (e := ⟨12, .data⟩) (by simp) rfl) trivial
          subst e0
          refine wpOp_ok rfl rfl ?_
          go_simp
          exact (HK.out _ _).2 ⟨_, _, _, _, _, _, _, _, _, _, _, _, _, _, _, _, _, _, _, _, _, _, _, _, _, _, _, _, _, rfl, HE.out, fun q c => f0 (old (by decide) q) c, fun q c => f1 (old (by decide) q) c, fun q c => f2 (old (by decide) q) c, fun q c => f3 (old (by decide) q) c, fun q c => f4 (old (by decide) q) c, fun q c => f5 (old (by decide) q) c, fun q c => f6 (old (by decide) q) c, fun q c => f7 (old (by decide) q) c, fun q c => f8 (old (by decide) q) c, fun q c => f9 (old (by decide) q) c, fun q c => f10 (old (by decide) q) c, fun q c => f11 (old (by decide) q) c, fun q c => f12 (old (by decide) q) c, fun _ _ => rfl, fun q c => f14 (old (by decide) q) c, fun q c => f15 (old (by decide) q) c, fun q c => f16 (old (by decide) q) c, fun q c => f17 (old (by decide) q) c, fun q c => f18 (old (by decide) q) c, fun q c => f19 (old (by decide) q) c, fun q c => f20 (old (by decide) q) c, fun q c => f21 (old (by decide) q) c, fun q c => f22 (old (by decide) q) c, fun q c => f23 (old (by decide) q) c, fun q c => f24 (old (by decide) q) c, fun q c => f25 (old (by decide) q) c, fun q c => f26 (old (by decide) q) c, fun q c => f27 (old (by decide) q) c, fun q c => f28 (old (by decide) q) c⟩
        · skip
          have eg := f13 (ready_dep hi rfl (e := ⟨13, .guard⟩) (by simp) rfl) trivial
          subst eg
          refine wpOp_on rfl rfl ?_
          go_simp
          exact (HK.out _ _).2 ⟨_, _, _, _, _, _, _, _, _, _, _, _, _, _, _, _, _, _, _, _, _, _, _, _, _, _, _, _, _, rfl, HE.out, fun q c => f0 (old (by decide) q) c, fun q c => f1 (old (by decide) q) c, fun q c => f2 (old (by decide) q) c, fun q c => f3 (old (by decide) q) c, fun q c => f4 (old (by decide) q) c, fun q c => f5 (old (by decide) q) c, fun q c => f6 (old (by decide) q) c, fun q c => f7 (old (by decide) q) c, fun q c => f8 (old (by decide) q) c, fun q c => f9 (old (by decide) q) c, fun q c => f10 (old (by decide) q) c, fun q c => f11 (old (by decide) q) c, fun q c => f12 (old (by decide) q) c, fun q c => f13 (old (by decide) q) c, fun _ _ => rfl, fun q c => f15 (old (by decide) q) c, fun q c => f16 (old (by decide) q) c, fun q c => f17 (old (by decide) q) c, fun q c => f18 (old (by decide) q) c, fun q c => f19 (old (by decide) q) c, fun q c => f20 (old (by decide) q) c, fun q c => f21 (old (by decide) q) c, fun q c => f22 (old (by decide) q) c, fun q c => f23 (old (by decide) q) c, fun q c => f24 (old (by decide) q) c, fun q c => f25 (old (by decide) q) c, fun q c => f26 (old (by decide) q) c, fun q c => f27 (old (by decide) q) c, fun q c => f28 (old (by decide) q) c⟩
        · skip
          have eg := f13 (ready_dep hi rfl (e := ⟨13, .guard⟩) (by simp) rfl) trivial
          subst eg
          refine wpOp_on rfl rfl ?_
          go_simp
          exact (HK.out _ _).2 ⟨_, _, _, _, _, _, _, _, _, _, _, _, _, _, _, _, _, _, _, _, _, _, _, _, _, _, _, _, _, rfl, HE.out, fun q c => f0 (old (by decide) q) c, fun q c => f1 (old (by decide) q) c, fun q c => f2 (old (by decide) q) c, fun q c => f3 (old (by decide) q) c, fun q c => f4 (old (by decide) q) c, fun q c => f5 (old (by decide) q) c, fun q c => f6 (old (by decide) q) c, fun q c => f7 (old (by decide) q) c, fun q c => f8 (old (by decide) q) c, fun q c => f9 (old (by decide) q) c, fun q c => f10 (old (by decide) q) c, fun q c => f11 (old (by decide) q) c, fun q c => f12 (old (by decide) q) c, fun q c => f13 (old (by decide) q) c, fun q c => f14 (old (by decide) q) c, fun _ _ => rfl, fun q c => f16 (old (by decide) q) c, fun q c => f17 (old (by decide) q) c, fun q c => f18 (old (by decide) q) c, fun q c => f19 (old (by decide) q) c, fun q c => f20 (old (by decide) q) c, fun q c => f21 (old (by decide) q) c, fun q c => f22 (old (by decide) q) c, fun q c => f23 (old (by decide) q) c, fun q c => f24 (old (by decide) q) c, fun q c => f25 (old (by decide) q) c, fun q c => f26 (old (by decide) q) c, fun q c => f27 (old (by decide) q) c, fun q c => f28 (old (by decide) q) c⟩
        · skip
          have eg := f13 (ready_dep hi rfl (e := ⟨13, .guard⟩) (by simp) rfl) trivial
          subst eg
          have e0 := f14 (ready_dep hi rfl (e := ⟨14, .data⟩) (by simp) rfl) trivial
          subst e0
          have e1 := f15 (ready_dep hi rfl (e := ⟨15, .data⟩) (by simp) rfl) trivial
          subst e1
          refine wpOp_on rfl rfl ?_
          go_simp
          refine (HXY.out _).mono ?_
          rintro e w1 ⟨rfl, hb1⟩
          exact (HK.out _ _).2 ⟨_, _, _, _, _, _, _, _, _, _, _, _, _, _, _, _, _, _, _, _, _, _, _, _, _, _, _, _, _, rfl, HE.out.trans hb1, fun q c => f0 (old (by decide) q) c, fun q c => f1 (old (by decide) q) c, fun q c => f2 (old (by decide) q) c, fun q c => f3 (old (by decide) q) c, fun q c => f4 (old (by decide) q) c, fun q c => f5 (old (by decide) q) c, fun q c => f6 (old (by decide) q) c, fun q c => f7 (old (by decide) q) c, fun q c => f8 (old (by decide) q) c, fun q c => f9 (old (by decide) q) c, fun q c => f10 (old (by decide) q) c, fun q c => f11 (old (by decide) q) c, fun q c => f12 (old (by decide) q) c, fun q c => f13 (old (by decide) q) c, fun q c => f14 (old (by decide) q) c, fun q c => f15 (old (by decide) q) c, fun _ _ => rfl, fun q c => f17 (old (by decide) q) c, fun q c => f18 (old (by decide) q) c, fun q c => f19 (old (by decide) q) c, fun q c => f20 (old (by decide) q) c, fun q c => f21 (old (by decide) q) c, fun q c => f22 (old (by decide) q) c, fun q c => f23 (old (by decide) q) c, fun q c => f24 (old (by decide) q) c, fun q c => f25 (old (by decide) q) c, fun q c => f26 (old (by decide) q) c, fun q c => f27 (old (by decide) q) c, fun q c => f28 (old (by decide) q) c⟩
        · skip
          have eg := f13 (ready_dep hi rfl (e := ⟨13, .guard⟩) (by simp) rfl) trivial
          subst eg
          have e0 := f16 (ready_dep hi rfl (e := ⟨16, .data⟩) (by simp) rfl) trivial
          subst e0
          refine wpOp_on rfl rfl ?_
          go_simp
          exact (HK.out _ _).2 ⟨_, _, _, _, _, _, _, _, _, _, _, _, _, _, _, _, _, _, _, _, _, _, _, _, _, _, _, _, _, rfl, HE.out, fun q c => f0 (old (by decide) q) c, fun q c => f1 (old (by decide) q) c, fun q c => f2 (old (by decide) q) c, fun q c => f3 (old (by decide) q) c, fun q c => f4 (old (by decide) q) c, fun q c => f5 (old (by decide) q) c, fun q c => f6 (old (by decide) q) c, fun q c => f7 (old (by decide) q) c, fun q c => f8 (old (by decide) q) c, fun q c => f9 (old (by decide) q) c, fun q c => f10 (old (by decide) q) c, fun q c => f11 (old (by decide) q) c, fun q c => f12 (old (by decide) q) c, fun q c => f13 (old (by decide) q) c, fun q c => f14 (old (by decide) q) c, fun q c => f15 (old (by decide) q) c, fun q c => f16 (old (by decide) q) c, fun _ _ => rfl, fun q c => f18 (old (by decide) q) c, fun q c => f19 (old (by decide) q) c, fun q c => f20 (old (by decide) q) c, fun q c => f21 (old (by decide) q) c, fun q c => f22 (old (by decide) q) c, fun q c => f23 (old (by decide) q) c, fun q c => f24 (old (by decide) q) c, fun q c => f25 (old (by decide) q) c, fun q c => f26 (old (by decide) q) c, fun q c => f27 (old (by decide) q) c, fun q c => f28 (old (by decide) q) c⟩
        · skip
          have eg := f17 (ready_dep hi rfl (e := ⟨17, .guard⟩) (by simp) rfl) trivial
          subst eg
          cases S1
          · refine wpOp_off rfl rfl ?_
            go_simp
            exact (HK.out _ _).2 ⟨_, _, _, _, _, _, _, _, _, _, _, _, _, _, _, _, _, _, _, _, _, _, _, _, _, _, _, _, _, rfl, HE.out, fun q c => f0 (old (by decide) q) c, fun q c => f1 (old (by decide) q) c, fun q c => f2 (old (by decide) q) c, fun q c => f3 (old (by decide) q) c, fun q c => f4 (old (by decide) q) c, fun q c => f5 (old (by decide) q) c, fun q c => f6 (old (by decide) q) c, fun q c => f7 (old (by decide) q) c, fun q c => f8 (old (by decide) q) c, fun q c => f9 (old (by decide) q) c, fun q c => f10 (old (by decide) q) c, fun q c => f11 (old (by decide) q) c, fun q c => f12 (old (by decide) q) c, fun q c => f13 (old (by decide) q) c, fun q c => f14 (old (by decide) q) c, fun q c => f15 (old (by decide) q) c, fun q c => f16 (old (by decide) q) c, fun q c => f17 (old (by decide) q) c, fun _ c => absurd c (by simp), fun q c => f19 (old (by decide) q) c, fun q c => f20 (old (by decide) q) c, fun q c => f21 (old (by decide) q) c, fun q c => f22 (old (by decide) q) c, fun q c => f23 (old (by decide) q) c, fun q c => f24 (old (by decide) q) c, fun q c => f25 (old (by decide) q) c, fun q c => f26 (old (by decide) q) c, fun q c => f27 (old (by decide) q) c, fun q c => f28 (old (by decide) q) c⟩
          refine wpOp_on rfl rfl ?_
          go_simp
          exact (HK.out _ _).2 ⟨_, _, _, _, _, _, _, _, _, _, _, _, _, _, _, _, _, _, _, _, _, _, _, _, _, _, _, _, _, rfl, HE.out, fun q c => f0 (old (by decide) q) c, fun q c => f1 (old (by decide) q) c, fun q c => f2 (old (by decide) q) c, fun q c => f3 (old (by decide) q) c, fun q c => f4 (old (by decide) q) c, fun q c => f5 (old (by decide) q) c, fun q c => f6 (old (by decide) q) c, fun q c => f7 (old (by decide) q) c, fun q c => f8 (old (by decide) q) c, fun q c => f9 (old (by decide) q) c, fun q c => f10 (old (by decide) q) c, fun q c => f11 (old (by decide) q) c, fun q c => f12 (old (by decide) q) c, fun q c => f13 (old (by decide) q) c, fun q c => f14 (old (by decide) q) c, fun q c => f15 (old (by decide) q) c, fun q c => f16 (old (by decide) q) c, fun q c => f17 (old (by decide) q) c, fun _ _ => rfl, fun q c => f19 (old (by decide) q) c, fun q c => f20 (old (by decide) q) c, fun q c => f21 (old (by decide) q) c, fun q c => f22 (old (by decide) q) c, fun q c => f23 (old (by decide) q) c, fun q c => f24 (old (by decide) q) c, fun q c => f25 (old (by decide) q) c, fun q c => f26 (old (by decide) q) c, fun q c => f27 (old (by decide) q) c, fun q c => f28 (old (by decide) q) c⟩
        · skip
          have eg := f17 (ready_dep hi rfl (e := ⟨17, .guard⟩) (by simp) rfl) trivial
          subst eg
          cases S1
          · refine wpOp_off rfl rfl ?_
            go_simp
            exact (HK.out _ _).2 ⟨_, _, _, _, _, _, _, _, _, _, _, _, _, _, _, _, _, _, _, _, _, _, _, _, _, _, _, _, _, rfl, HE.out, fun q c => f0 (old (by decide) q) c, fun q c => f1 (old (by decide) q) c, fun q c => f2 (old (by decide) q) c, fun q c => f3 (old (by decide) q) c, fun q c => f4 (old (by decide) q) c, fun q c => f5 (old (by decide) q) c, fun q c => f6 (old (by decide) q) c, fun q c => f7 (old (by decide) q) c, fun q c => f8 (old (by decide) q) c, fun q c => f9 (old (by decide) q) c, fun q c => f10 (old (by decide) q) c, fun q c => f11 (old (by decide) q) c, fun q c => f12 (old (by decide) q) c, fun q c => f13 (old (by decide) q) c, fun q c => f14 (old (by decide) q) c, fun q c => f15 (old (by decide) q) c, fun q c => f16 (old (by decide) q) c, fun q c => f17 (old (by decide) q) c, fun q c => f18 (old (by decide) q) c, fun _ c => absurd c (by simp), fun q c => f20 (old (by decide) q) c, fun q c => f21 (old (by decide) q) c, fun q c => f22 (old (by decide) q) c, fun q c => f23 (old (by decide) q) c, fun q c => f24 (old (by decide) q) c, fun q c => f25 (old (by decide) q) c, fun q c => f26 (old (by decide) q) c, fun q c => f27 (old (by decide) q) c, fun q c => f28 (old (by decide) q) c⟩
          refine wpOp_on rfl rfl ?_
          go_simp
          exact (HK.out _ _).2 ⟨_, _, _, _, _, _, _, _, _, _, _, _, _, _, _, _, _, _, _, _, _, _, _, _, _, _, _, _, _, rfl, HE.out, fun q c => f0 (old (by decide) q) c, fun q c => f1 (old (by decide) q) c, fun q c => f2 (old (by decide) q) c, fun q c => f3 (old (by decide) q) c, fun q c => f4 (old (by decide) q) c, fun q c => f5 (old (by decide) q) c, fun q c => f6 (old (by decide) q) c, fun q c => f7 (old (by decide) q) c, fun q c => f8 (old (by decide) q) c, fun q c => f9 (old (by decide) q) c, fun q c => f10 (old (by decide) q) c, fun q c => f11 (old (by decide) q) c, fun q c => f12 (old (by decide) q) c, fun q c => f13 (old (by decide) q) c, fun q c => f14 (old (by decide) q) c, fun q c => f15 (old (by decide) q) c, fun q c => f16 (old (by decide) q) c, fun q c => f17 (old (by decide) q) c, fun q c => f18 (old (by decide) q) c, fun _ _ => rfl, fun q c => f20 (old (by decide) q) c, fun q c => f21 (old (by decide) q) c, fun q c => f22 (old (by decide) q) c, fun q c => f23 (old (by decide) q) c, fun q c => f24 (old (by decide) q) c, fun q c => f25 (old (by decide) q) c, fun q c => f26 (old (by decide) q) c, fun q c => f27 (old (by decide) q) c, fun q c => f28 (old (by decide) q) c⟩
        · skip
          have eg := f17 (ready_dep hi rfl (e := ⟨17, .guard⟩) (by simp) rfl) trivial
          subst eg
          cases S1
          · refine wpOp_off rfl rfl ?_
            go_simp
            exact (HK.out _ _).2 ⟨_, _, _, _, _, _, _, _, _, _, _, _, _, _, _, _, _, _, _, _, _, _, _, _, _, _, _, _, _, rfl, HE.out, fun q c => f0 (old (by decide) q) c, fun q c => f1 (old (by decide) q) c, fun q c => f2 (old (by decide) q) c, fun q c => f3 (old (by decide) q) c, fun q c => f4 (old (by decide) q) c, fun q c => f5 (old (by decide) q) c, fun q c => f6 (old (by decide) q) c, fun q c => f7 (old (by decide) q) c, fun q c => f8 (old (by decide) q) c, fun q c => f9 (old (by decide) q) c, fun q c => f10 (old (by decide) q) c, fun q c => f11 (old (by decide) q) c, fun q c => f12 (old (by decide) q) c, fun q c => f13 (old (by decide) q) c, fun q c => f14 (old (by decide) q) c, fun q c => f15 (old (by decide) q) c, fun q c => f16 (old (by decide) q) c, fun q c => f17 (old (by decide) q) c, fun q c => f18 (old (by decide) q) c, fun q c => f19 (old (by decide) q) c, fun _ c => absurd c (by simp), fun q c => f21 (old (by decide) q) c, fun q c => f22 (old (by decide) q) c, fun q c => f23 (old (by decide) q) c, fun q c => f24 (old (by decide) q) c, fun q c => f25 (old (by decide) q) c, fun q c => f26 (old (by decide) q) c, fun q c => f27 (old (by decide) q) c, fun q c => f28 (old (by decide) q) c⟩
          have e0 := f18 (ready_dep hi rfl (e := ⟨18, .data⟩) (by simp) rfl) rfl
          subst e0
          have e1 := f19 (ready_dep hi rfl (e := ⟨19, .data⟩) (by simp) rfl) rfl
          subst e1
          refine wpOp_on rfl rfl ?_
          go_simp
          refine (HYZ.out _).mono ?_
          rintro e w1 ⟨rfl, hb1⟩
          exact (HK.out _ _).2 ⟨_, _, _, _, _, _, _, _, _, _, _, _, _, _, _, _, _, _, _, _, _, _, _, _, _, _, _, _, _, rfl, HE.out.trans hb1, fun q c => f0 (old (by decide) q) c, fun q c => f1 (old (by decide) q) c, fun q c => f2 (old (by decide) q) c, fun q c => f3 (old (by decide) q) c, fun q c => f4 (old (by decide) q) c, fun q c => f5 (old (by decide) q) c, fun q c => f6 (old (by decide) q) c, fun q c => f7 (old (by decide) q) c, fun q c => f8 (old (by decide) q) c, fun q c => f9 (old (by decide) q) c, fun q c => f10 (old (by decide) q) c, fun q c => f11 (old (by decide) q) c, fun q c => f12 (old (by decide) q) c, fun q c => f13 (old (by decide) q) c, fun q c => f14 (old (by decide) q) c, fun q c => f15 (old (by decide) q) c, fun q c => f16 (old (by decide) q) c, fun q c => f17 (old (by decide) q) c, fun q c => f18 (old (by decide) q) c, fun q c => f19 (old (by decide) q) c, fun _ _ => rfl, fun q c => f21 (old (by decide) q) c, fun q c => f22 (old (by decide) q) c, fun q c => f23 (old (by decide) q) c, fun q c => f24 (old (by decide) q) c, fun q c => f25 (old (by decide) q) c, fun q c => f26 (old (by decide) q) c, fun q c => f27 (old (by decide) q) c, fun q c => f28 (old (by decide) q) c⟩
        · skip
          have eg := f13 (ready_dep hi rfl (e := ⟨13, .guard⟩) (by simp) rfl) trivial
          subst eg
          have e0 := f17 (ready_dep hi rfl (e := ⟨17, .data⟩) (by simp) rfl) trivial
          subst e0
          cases S1
          · refine wpOp_on rfl rfl ?_
            go_simp
            exact (HK.out _ _).2 ⟨_, _, _, _, _, _, _, _, _, _, _, _, _, _, _, _, _, _, _, _, _, _, _, _, _, _, _, _, _, rfl, HE.out, fun q c => f0 (old (by decide) q) c, fun q c => f1 (old (by decide) q) c, fun q c => f2 (old (by decide) q) c, fun q c => f3 (old (by decide) q) c, fun q c => f4 (old (by decide) q) c, fun q c => f5 (old (by decide) q) c, fun q c => f6 (old (by decide) q) c, fun q c => f7 (old (by decide) q) c, fun q c => f8 (old (by decide) q) c, fun q c => f9 (old (by decide) q) c, fun q c => f10 (old (by decide) q) c, fun q c => f11 (old (by decide) q) c, fun q c => f12 (old (by decide) q) c, fun q c => f13 (old (by decide) q) c, fun q c => f14 (old (by decide) q) c, fun q c => f15 (old (by decide) q) c, fun q c => f16 (old (by decide) q) c, fun q c => f17 (old (by decide) q) c, fun q c => f18 (old (by decide) q) c, fun q c => f19 (old (by decide) q) c, fun q c => f20 (old (by decide) q) c, fun _ _ => rfl, fun q c => f22 (old (by decide) q) c, fun q c => f23 (old (by decide) q) c, fun q c => f24 (old (by decide) q) c, fun q c => f25 (old (by decide) q) c, fun q c => f26 (old (by decide) q) c, fun q c => f27 (old (by decide) q) c, fun q c => f28 (old (by decide) q) c⟩
          · have e1 := f20 (ready_dep hi rfl (e := ⟨20, .data⟩) (by simp) rfl) rfl
            subst e1
            refine wpOp_on rfl rfl ?_
            go_simp
            exact (HK.out _ _).2 ⟨_, _, _, _, _, _, _, _, _, _, _, _, _, _, _, _, _, _, _, _, _, _, _, _, _, _, _, _, _, rfl, HE.out, fun q c => f0 (old (by decide) q) c, fun q c => f1 (old (by decide) q) c, fun q c => f2 (old (by decide) q) c, fun q c => f3 (old (by decide) q) c, fun q c => f4 (old (by decide) q) c, fun q c => f5 (old (by decide) q) c, fun q c => f6 (old (by decide) q) c, fun q c => f7 (old (by decide) q) c, fun q c => f8 (old (by decide) q) c, fun q c => f9 (old (by decide) q) c, fun q c => f10 (old (by decide) q) c, fun q c => f11 (old (by decide) q) c, fun q c => f12 (old (by decide) q) c, fun q c => f13 (old (by decide) q) c, fun q c => f14 (old (by decide) q) c, fun q c => f15 (old (by decide) q) c, fun q c => f16 (old (by decide) q) c, fun q c => f17 (old (by decide) q) c, fun q c => f18 (old (by decide) q) c, fun q c => f19 (old (by decide) q) c, fun q c => f20 (old (by decide) q) c, fun _ _ => by simp, fun q c => f22 (old (by decide) q) c, fun q c => f23 (old (by decide) q) c, fun q c => f24 (old (by decide) q) c, fun q c => f25 (old (by decide) q) c, fun q c => f26 (old (by decide) q) c, fun q c => f27 (old (by decide) q) c, fun q c => f28 (old (by decide) q) c⟩
        · skip
          have eg := f13 (ready_dep hi rfl (e := ⟨13, .guard⟩) (by simp) rfl) trivial
          subst eg
          have e0 := f21 (ready_dep hi rfl (e := ⟨21, .data⟩) (by simp) rfl) trivial
          subst e0
          refine wpOp_on rfl rfl ?_
          go_simp
          exact (HK.out _ _).2 ⟨_, _, _, _, _, _, _, _, _, _, _, _, _, _, _, _, _, _, _, _, _, _, _, _, _, _, _, _, _, rfl, HE.out, fun q c => f0 (old (by decide) q) c, fun q c => f1 (old (by decide) q) c, fun q c => f2 (old (by decide) q) c, fun q c => f3 (old (by decide) q) c, fun q c => f4 (old (by decide) q) c, fun q c => f5 (old (by decide) q) c, fun q c => f6 (old (by decide) q) c, fun q c => f7 (old (by decide) q) c, fun q c => f8 (old (by decide) q) c, fun q c => f9 (old (by decide) q) c, fun q c => f10 (old (by decide) q) c, fun q c => f11 (old (by decide) q) c, fun q c => f12 (old (by decide) q) c, fun q c => f13 (old (by decide) q) c, fun q c => f14 (old (by decide) q) c, fun q c => f15 (old (by decide) q) c, fun q c => f16 (old (by decide) q) c, fun q c => f17 (old (by decide) q) c, fun q c => f18 (old (by decide) q) c, fun q c => f19 (old (by decide) q) c, fun q c => f20 (old (by decide) q) c, fun q c => f21 (old (by decide) q) c, fun _ _ => rfl, fun q c => f23 (old (by decide) q) c, fun q c => f24 (old (by decide) q) c, fun q c => f25 (old (by decide) q) c, fun q c => f26 (old (by decide) q) c, fun q c => f27 (old (by decide) q) c, fun q c => f28 (old (by decide) q) c⟩
        · skip
          have eg := f22 (ready_dep hi rfl (e := ⟨22, .guard⟩) (by simp) rfl) trivial
          subst eg
          cases S1
          · refine wpOp_off rfl rfl ?_
            go_simp
            exact (HK.out _ _).2 ⟨_, _, _, _, _, _, _, _, _, _, _, _, _, _, _, _, _, _, _, _, _, _, _, _, _, _, _, _, _, rfl, HE.out, fun q c => f0 (old (by decide) q) c, fun q c => f1 (old (by decide) q) c, fun q c => f2 (old (by decide) q) c, fun q c => f3 (old (by decide) q) c, fun q c => f4 (old (by decide) q) c, fun q c => f5 (old (by decide) q) c, fun q c => f6 (old (by decide) q) c, fun q c => f7 (old (by decide) q) c, fun q c => f8 (old (by decide) q) c, fun q c => f9 (old (by decide) q) c, fun q c => f10 (old (by decide) q) c, fun q c => f11 (old (by decide) q) c, fun q c => f12 (old (by decide) q) c, fun q c => f13 (old (by decide) q) c, fun q c => f14 (old (by decide) q) c, fun q c => f15 (old (by decide) q) c, fun q c => f16 (old (by decide) q) c, fun q c => f17 (old (by decide) q) c, fun q c => f18 (old (by decide) q) c, fun q c => f19 (old (by decide) q) c, fun q c => f20 (old (by decide) q) c, fun q c => f21 (old (by decide) q) c, fun q c => f22 (old (by decide) q) c, fun _ c => absurd c (by simp), fun q c => f24 (old (by decide) q) c, fun q c => f25 (old (by decide) q) c, fun q c => f26 (old (by decide) q) c, fun q c => f27 (old (by decide) q) c, fun q c => f28 (old (by decide) q) c⟩
          cases S2
          · refine wpOp_off rfl rfl ?_
            go_simp
            exact (HK.out _ _).2 ⟨_, _, _, _, _, _, _, _, _, _, _, _, _, _, _, _, _, _, _, _, _, _, _, _, _, _, _, _, _, rfl, HE.out, fun q c => f0 (old (by decide) q) c, fun q c => f1 (old (by decide) q) c, fun q c => f2 (old (by decide) q) c, fun q c => f3 (old (by decide) q) c, fun q c => f4 (old (by decide) q) c, fun q c => f5 (old (by decide) q) c, fun q c => f6 (old (by decide) q) c, fun q c => f7 (old (by decide) q) c, fun q c => f8 (old (by decide) q) c, fun q c => f9 (old (by decide) q) c, fun q c => f10 (old (by decide) q) c, fun q c => f11 (old (by decide) q) c, fun q c => f12 (old (by decide) q) c, fun q c => f13 (old (by decide) q) c, fun q c => f14 (old (by decide) q) c, fun q c => f15 (old (by decide) q) c, fun q c => f16 (old (by decide) q) c, fun q c => f17 (old (by decide) q) c, fun q c => f18 (old (by decide) q) c, fun q c => f19 (old (by decide) q) c, fun q c => f20 (old (by decide) q) c, fun q c => f21 (old (by decide) q) c, fun q c => f22 (old (by decide) q) c, fun _ c => absurd c (by simp), fun q c => f24 (old (by decide) q) c, fun q c => f25 (old (by decide) q) c, fun q c => f26 (old (by decide) q) c, fun q c => f27 (old (by decide) q) c, fun q c => f28 (old (by decide) q) c⟩
          refine wpOp_on rfl rfl ?_
          go_simp
          exact (HK.out _ _).2 ⟨_, _, _, _, _, _, _, _, _, _, _, _, _, _, _, _, _, _, _, _, _, _, _, _, _, _, _, _, _, rfl, HE.out, fun q c => f0 (old (by decide) q) c, fun q c => f1 (old (by decide) q) c, fun q c => f2 (old (by decide) q) c, fun q c => f3 (old (by decide) q) c, fun q c => f4 (old (by decide) q) c, fun q c => f5 (old (by decide) q) c, fun q c => f6 (old (by decide) q) c, fun q c => f7 (old (by decide) q) c, fun q c => f8 (old (by decide) q) c, fun q c => f9 (old (by decide) q) c, fun q c => f10 (old (by decide) q) c, fun q c => f11 (old (by decide) q) c, fun q c => f12 (old (by decide) q) c, fun q c => f13 (old (by decide) q) c, fun q c => f14 (old (by decide) q) c, fun q c => f15 (old (by decide) q) c, fun q c => f16 (old (by decide) q) c, fun q c => f17 (old (by decide) q) c, fun q c => f18 (old (by decide) q) c, fun q c => f19 (old (by decide) q) c, fun q c => f20 (old (by decide) q) c, fun q c => f21 (old (by decide) q) c, fun q c => f22 (old (by decide) q) c, fun _ _ => rfl, fun q c => f24 (old (by decide) q) c, fun q c => f25 (old (by decide) q) c, fun q c => f26 (old (by decide) q) c, fun q c => f27 (old (by decide) q) c, fun q c => f28 (old (by decide) q) c⟩
        · skip
          have eg := f22 (ready_dep hi rfl (e := ⟨22, .guard⟩) (by simp) rfl) trivial
          subst eg
          cases S1
          · refine wpOp_off rfl rfl ?_
            go_simp
            exact (HK.out _ _).2 ⟨_, _, _, _, _, _, _, _, _, _, _, _, _, _, _, _, _, _, _, _, _, _, _, _, _, _, _, _, _, rfl, HE.out, fun q c => f0 (old (by decide) q) c, fun q c => f1 (old (by decide) q) c, fun q c => f2 (old (by decide) q) c, fun q c => f3 (old (by decide) q) c, fun q c => f4 (old (by decide) q) c, fun q c => f5 (old (by decide) q) c, fun q c => f6 (old (by decide) q) c, fun q c => f7 (old (by decide) q) c, fun q c => f8 (old (by decide) q) c, fun q c => f9 (old (by decide) q) c, fun q c => f10 (old (by decide) q) c, fun q c => f11 (old (by decide) q) c, fun q c => f12 (old (by decide) q) c, fun q c => f13 (old (by decide) q) c, fun q c => f14 (old (by decide) q) c, fun q c => f15 (old (by decide) q) c, fun q c => f16 (old (by decide) q) c, fun q c => f17 (old (by decide) q) c, fun q c => f18 (old (by decide) q) c, fun q c => f19 (old (by decide) q) c, fun q c => f20 (old (by decide) q) c, fun q c => f21 (old (by decide) q) c, fun q c => f22 (old (by decide) q) c, fun q c => f23 (old (by decide) q) c, fun _ c => absurd c (by simp), fun q c => f25 (old (by decide) q) c, fun q c => f26 (old (by decide) q) c, fun q c => f27 (old (by decide) q) c, fun q c => f28 (old (by decide) q) c⟩
          cases S2
          · refine wpOp_off rfl rfl ?_
            go_simp
            exact (HK.out _ _).2 ⟨_, _, _, _, _, _, _, _, _, _, _, _, _, _, _, _, _, _, _, _, _, _, _, _, _, _, _, _, _, rfl, HE.out, fun q c => f0 (old (by decide) q) c, fun q c => f1 (old (by decide) q) c, fun q c => f2 (old (by decide) q) c, fun q c => f3 (old (by decide) q) c, fun q c => f4 (old (by decide) q) c, fun q c => f5 (old (by decide) q) c, fun q c => f6 (old (by decide) q) c, fun q c => f7 (old (by decide) q) c, fun q c => f8 (old (by decide) q) c, fun q c => f9 (old (by decide) q) c, fun q c => f10 (old (by decide) q) c, fun q c => f11 (old (by decide) q) c, fun q c => f12 (old (by decide) q) c, fun q c => f13 (old (by decide) q) c, fun q c => f14 (old (by decide) q) c, fun q c => f15 (old (by decide) q) c, fun q c => f16 (old (by decide) q) c, fun q c => f17 (old (by decide) q) c, fun q c => f18 (old (by decide) q) c, fun q c => f19 (old (by decide) q) c, fun q c => f20 (old (by decide) q) c, fun q c => f21 (old (by decide) q) c, fun q c => f22 (old (by decide) q) c, fun q c => f23 (old (by decide) q) c, fun _ c => absurd c (by simp), fun q c => f25 (old (by decide) q) c, fun q c => f26 (old (by decide) q) c, fun q c => f27 (old (by decide) q) c, fun q c => f28 (old (by decide) q) c⟩
          refine wpOp_on rfl rfl ?_
          go_simp
          exact (HK.out _ _).2 ⟨_, _, _, _, _, _, _, _, _, _, _, _, _, _, _, _, _, _, _, _, _, _, _, _, _, _, _, _, _, rfl, HE.out, fun q c => f0 (old (by decide) q) c, fun q c => f1 (old (by decide) q) c, fun q c => f2 (old (by decide) q) c, fun q c => f3 (old (by decide) q) c, fun q c => f4 (old (by decide) q) c, fun q c => f5 (old (by decide) q) c, fun q c => f6 (old (by decide) q) c, fun q c => f7 (old (by decide) q) c, fun q c => f8 (old (by decide) q) c, fun q c => f9 (old (by decide) q) c, fun q c => f10 (old (by decide) q) c, fun q c => f11 (old (by decide) q) c, fun q c => f12 (old (by decide) q) c, fun q c => f13 (old (by decide) q) c, fun q c => f14 (old (by decide) q) c, fun q c => f15 (old (by decide) q) c, fun q c => f16 (old (by decide) q) c, fun q c => f17 (old (by decide) q) c, fun q c => f18 (old (by decide) q) c, fun q c => f19 (old (by decide) q) c, fun q c => f20 (old (by decide) q) c, fun q c => f21 (old (by decide) q) c, fun q c => f22 (old (by decide) q) c, fun q c => f23 (old (by decide) q) c, fun _ _ => rfl, fun q c => f25 (old (by decide) q) c, fun q c => f26 (old (by decide) q) c, fun q c => f27 (old (by decide) q) c, fun q c => f28 (old (by decide) q) c⟩
        · skip
          have eg := f22 (ready_dep hi rfl (e := ⟨22, .guard⟩) (by simp) rfl) trivial
          subst eg
          cases S1
          · refine wpOp_off rfl rfl ?_
            go_simp
            exact (HK.out _ _).2 ⟨_, _, _, _, _, _, _, _, _, _, _, _, _, _, _, _, _, _, _, _, _, _, _, _, _, _, _, _, _, rfl, HE.out, fun q c => f0 (old (by decide) q) c, fun q c => f1 (old (by decide) q) c, fun q c => f2 (old (by decide) q) c, fun q c => f3 (old (by decide) q) c, fun q c => f4 (old (by decide) q) c, fun q c => f5 (old (by decide) q) c, fun q c => f6 (old (by decide) q) c, fun q c => f7 (old (by decide) q) c, fun q c => f8 (old (by decide) q) c, fun q c => f9 (old (by decide) q) c, fun q c => f10 (old (by decide) q) c, fun q c => f11 (old (by decide) q) c, fun q c => f12 (old (by decide) q) c, fun q c => f13 (old (by decide) q) c, fun q c => f14 (old (by decide) q) c, fun q c => f15 (old (by decide) q) c, fun q c => f16 (old (by decide) q) c, fun q c => f17 (old (by decide) q) c, fun q c => f18 (old (by decide) q) c, fun q c => f19 (old (by decide) q) c, fun q c => f20 (old (by decide) q) c, fun q c => f21 (old (by decide) q) c, fun q c => f22 (old (by decide) q) c, fun q c => f23 (old (by decide) q) c, fun q c => f24 (old (by decide) q) c, fun _ c => absurd c (by simp), fun q c => f26 (old (by decide) q) c, fun q c => f27 (old (by decide) q) c, fun q c => f28 (old (by decide) q) c⟩
          cases S2
          · refine wpOp_off rfl rfl ?_
            go_simp
            exact (HK.out _ _).2 ⟨_, _, _, _, _, _, _, _, _, _, _, _, _, _, _, _, _, _, _, _, _, _, _, _, _, _, _, _, _, rfl, HE.out, fun q c => f0 (old (by decide) q) c, fun q c => f1 (old (by decide) q) c, fun q c => f2 (old (by decide) q) c, fun q c => f3 (old (by decide) q) c, fun q c => f4 (old (by decide) q) c, fun q c => f5 (old (by decide) q) c, fun q c => f6 (old (by decide) q) c, fun q c => f7 (old (by decide) q) c, fun q c => f8 (old (by decide) q) c, fun q c => f9 (old (by decide) q) c, fun q c => f10 (old (by decide) q) c, fun q c => f11 (old (by decide) q) c, fun q c => f12 (old (by decide) q) c, fun q c => f13 (old (by decide) q) c, fun q c => f14 (old (by decide) q) c, fun q c => f15 (old (by decide) q) c, fun q c => f16 (old (by decide) q) c, fun q c => f17 (old (by decide) q) c, fun q c => f18 (old (by decide) q) c, fun q c => f19 (old (by decide) q) c, fun q c => f20 (old (by decide) q) c, fun q c => f21 (old (by decide) q) c, fun q c => f22 (old (by decide) q) c, fun q c => f23 (old (by decide) q) c, fun q c => f24 (old (by decide) q) c, fun _ c => absurd c (by simp), fun q c => f26 (old (by decide) q) c, fun q c => f27 (old (by decide) q) c, fun q c => f28 (old (by decide) q) c⟩
          have e0 := f23 (ready_dep hi rfl (e := ⟨23, .data⟩) (by simp) rfl) rfl
          subst e0
          have e1 := f24 (ready_dep hi rfl (e := ⟨24, .data⟩) (by simp) rfl) rfl
          subst e1
          refine wpOp_on rfl rfl ?_
          go_simp
          refine (HXZ.out _).mono ?_
          rintro e w1 ⟨rfl, hb1⟩
          exact (HK.out _ _).2 ⟨_, _, _, _, _, _, _, _, _, _, _, _, _, _, _, _, _, _, _, _, _, _, _, _, _, _, _, _, _, rfl, HE.out.trans hb1, fun q c => f0 (old (by decide) q) c, fun q c => f1 (old (by decide) q) c, fun q c => f2 (old (by decide) q) c, fun q c => f3 (old (by decide) q) c, fun q c => f4 (old (by decide) q) c, fun q c => f5 (old (by decide) q) c, fun q c => f6 (old (by decide) q) c, fun q c => f7 (old (by decide) q) c, fun q c => f8 (old (by decide) q) c, fun q c => f9 (old (by decide) q) c, fun q c => f10 (old (by decide) q) c, fun q c => f11 (old (by decide) q) c, fun q c => f12 (old (by decide) q) c, fun q c => f13 (old (by decide) q) c, fun q c => f14 (old (by decide) q) c, fun q c => f15 (old (by decide) q) c, fun q c => f16 (old (by decide) q) c, fun q c => f17 (old (by decide) q) c, fun q c => f18 (old (by decide) q) c, fun q c => f19 (old (by decide) q) c, fun q c => f20 (old (by decide) q) c, fun q c => f21 (old (by decide) q) c, fun q c => f22 (old (by decide) q) c, fun q c => f23 (old (by decide) q) c, fun q c => f24 (old (by decide) q) c, fun _ _ => rfl, fun q c => f26 (old (by decide) q) c, fun q c => f27 (old (by decide) q) c, fun q c => f28 (old (by decide) q) c⟩
        · skip
          have eg := f22 (ready_dep hi rfl (e := ⟨22, .guard⟩) (by simp) rfl) trivial
          subst eg
          cases S1
          · refine wpOp_off rfl rfl ?_
            go_simp
            exact (HK.out _ _).2 ⟨_, _, _, _, _, _, _, _, _, _, _, _, _, _, _, _, _, _, _, _, _, _, _, _, _, _, _, _, _, rfl, HE.out, fun q c => f0 (old (by decide) q) c, fun q c => f1 (old (by decide) q) c, fun q c => f2 (old (by decide) q) c, fun q c => f3 (old (by decide) q) c, fun q c => f4 (old (by decide) q) c, fun q c => f5 (old (by decide) q) c, fun q c => f6 (old (by decide) q) c, fun q c => f7 (old (by decide) q) c, fun q c => f8 (old (by decide) q) c, fun q c => f9 (old (by decide) q) c, fun q c => f10 (old (by decide) q) c, fun q c => f11 (old (by decide) q) c, fun q c => f12 (old (by decide) q) c, fun q c => f13 (old (by decide) q) c, fun q c => f14 (old (by decide) q) c, fun q c => f15 (old (by decide) q) c, fun q c => f16 (old (by decide) q) c, fun q c => f17 (old (by decide) q) c, fun q c => f18 (old (by decide) q) c, fun q c => f19 (old (by decide) q) c, fun q c => f20 (old (by decide) q) c, fun q c => f21 (old (by decide) q) c, fun q c => f22 (old (by decide) q) c, fun q c => f23 (old (by decide) q) c, fun q c => f24 (old (by decide) q) c, fun q c => f25 (old (by decide) q) c, fun _ c => absurd c (by simp), fun q c => f27 (old (by decide) q) c, fun q c => f28 (old (by decide) q) c⟩
          cases S2
          · refine wpOp_off rfl rfl ?_
            go_simp
            exact (HK.out _ _).2 ⟨_, _, _, _, _, _, _, _, _, _, _, _, _, _, _, _, _, _, _, _, _, _, _, _, _, _, _, _, _, rfl, HE.out, fun q c => f0 (old (by decide) q) c, fun q c => f1 (old (by decide) q) c, fun q c => f2 (old (by decide) q) c, fun q c => f3 (old (by decide) q) c, fun q c => f4 (old (by decide) q) c, fun q c => f5 (old (by decide) q) c, fun q c => f6 (old (by decide) q) c, fun q c => f7 (old (by decide) q) c, fun q c => f8 (old (by decide) q) c, fun q c => f9 (old (by decide) q) c, fun q c => f10 (old (by decide) q) c, fun q c => f11 (old (by decide) q) c, fun q c => f12 (old (by decide) q) c, fun q c => f13 (old (by decide) q) c, fun q c => f14 (old (by decide) q) c, fun q c => f15 (old (by decide) q) c, fun q c => f16 (old (by decide) q) c, fun q c => f17 (old (by decide) q) c, fun q c => f18 (old (by decide) q) c, fun q c => f19 (old (by decide) q) c, fun q c => f20 (old (by decide) q) c, fun q c => f21 (old (by decide) q) c, fun q c => f22 (old (by decide) q) c, fun q c => f23 (old (by decide) q) c, fun q c => f24 (old (by decide) q) c, fun q c => f25 (old (by decide) q) c, fun _ c => absurd c (by simp), fun q c => f27 (old (by decide) q) c, fun q c => f28 (old (by decide) q) c⟩
          have e0 := f25 (ready_dep hi rfl (e := ⟨25, .data⟩) (by simp) rfl) rfl
          subst e0
          refine wpOp_on rfl rfl ?_
          go_simp
          exact (HK.out _ _).2 ⟨_, _, _, _, _, _, _, _, _, _, _, _, _, _, _, _, _, _, _, _, _, _, _, _, _, _, _, _, _, rfl, HE.out, fun q c => f0 (old (by decide) q) c, fun q c => f1 (old (by decide) q) c, fun q c => f2 (old (by decide) q) c, fun q c => f3 (old (by decide) q) c, fun q c => f4 (old (by decide) q) c, fun q c => f5 (old (by decide) q) c, fun q c => f6 (old (by decide) q) c, fun q c => f7 (old (by decide) q) c, fun q c => f8 (old (by decide) q) c, fun q c => f9 (old (by decide) q) c, fun q c => f10 (old (by decide) q) c, fun q c => f11 (old (by decide) q) c, fun q c => f12 (old (by decide) q) c, fun q c => f13 (old (by decide) q) c, fun q c => f14 (old (by decide) q) c, fun q c => f15 (old (by decide) q) c, fun q c => f16 (old (by decide) q) c, fun q c => f17 (old (by decide) q) c, fun q c => f18 (old (by decide) q) c, fun q c => f19 (old (by decide) q) c, fun q c => f20 (old (by decide) q) c, fun q c => f21 (old (by decide) q) c, fun q c => f22 (old (by decide) q) c, fun q c => f23 (old (by decide) q) c, fun q c => f24 (old (by decide) q) c, fun q c => f25 (old (by decide) q) c, fun _ _ => rfl, fun q c => f27 (old (by decide) q) c, fun q c => f28 (old (by decide) q) c⟩
        · skip
          have eg := f13 (ready_dep hi rfl (e := ⟨13, .guard⟩) (by simp) rfl) trivial
          subst eg
          have e0 := f22 (ready_dep hi rfl (e := ⟨22, .data⟩) (by simp) rfl) trivial
          subst e0
          cases S1
          · refine wpOp_on rfl rfl ?_
            go_simp
            exact (HK.out _ _).2 ⟨_, _, _, _, _, _, _, _, _, _, _, _, _, _, _, _, _, _, _, _, _, _, _, _, _, _, _, _, _, rfl, HE.out, fun q c => f0 (old (by decide) q) c, fun q c => f1 (old (by decide) q) c, fun q c => f2 (old (by decide) q) c, fun q c => f3 (old (by decide) q) c, fun q c => f4 (old (by decide) q) c, fun q c => f5 (old (by decide) q) c, fun q c => f6 (old (by decide) q) c, fun q c => f7 (old (by decide) q) c, fun q c => f8 (old (by decide) q) c, fun q c => f9 (old (by decide) q) c, fun q c => f10 (old (by decide) q) c, fun q c => f11 (old (by decide) q) c, fun q c => f12 (old (by decide) q) c, fun q c => f13 (old (by decide) q) c, fun q c => f14 (old (by decide) q) c, fun q c => f15 (old (by decide) q) c, fun q c => f16 (old (by decide) q) c, fun q c => f17 (old (by decide) q) c, fun q c => f18 (old (by decide) q) c, fun q c => f19 (old (by decide) q) c, fun q c => f20 (old (by decide) q) c, fun q c => f21 (old (by decide) q) c, fun q c => f22 (old (by decide) q) c, fun q c => f23 (old (by decide) q) c, fun q c => f24 (old (by decide) q) c, fun q c => f25 (old (by decide) q) c, fun q c => f26 (old (by decide) q) c, fun _ _ => rfl, fun q c => f28 (old (by decide) q) c⟩
          cases S2
          · refine wpOp_on rfl rfl ?_
            go_simp
            exact (HK.out _ _).2 ⟨_, _, _, _, _, _, _, _, _, _, _, _, _, _, _, _, _, _, _, _, _, _, _, _, _, _, _, _, _, rfl, HE.out, fun q c => f0 (old (by decide) q) c, fun q c => f1 (old (by decide) q) c, fun q c => f2 (old (by decide) q) c, fun q c => f3 (old (by decide) q) c, fun q c => f4 (old (by decide) q) c, fun q c => f5 (old (by decide) q) c, fun q c => f6 (old (by decide) q) c, fun q c => f7 (old (by decide) q) c, fun q c => f8 (old (by decide) q) c, fun q c => f9 (old (by decide) q) c, fun q c => f10 (old (by decide) q) c, fun q c => f11 (old (by decide) q) c, fun q c => f12 (old (by decide) q) c, fun q c => f13 (old (by decide) q) c, fun q c => f14 (old (by decide) q) c, fun q c => f15 (old (by decide) q) c, fun q c => f16 (old (by decide) q) c, fun q c => f17 (old (by decide) q) c, fun q c => f18 (old (by decide) q) c, fun q c => f19 (old (by decide) q) c, fun q c => f20 (old (by decide) q) c, fun q c => f21 (old (by decide) q) c, fun q c => f22 (old (by decide) q) c, fun q c => f23 (old (by decide) q) c, fun q c => f24 (old (by decide) q) c, fun q c => f25 (old (by decide) q) c, fun q c => f26 (old (by decide) q) c, fun _ _ => rfl, fun q c => f28 (old (by decide) q) c⟩
          · have e1 := f26 (ready_dep hi rfl (e := ⟨26, .data⟩) (by simp) rfl) rfl
            subst e1
            have e2 : S3 = true := HXZ2.out rfl rfl
            subst e2
            refine wpOp_on rfl rfl ?_
            go_simp
            exact (HK.out _ _).2 ⟨_, _, _, _, _, _, _, _, _, _, _, _, _, _, _, _, _, _, _, _, _, _, _, _, _, _, _, _, _, rfl, HE.out, fun q c => f0 (old (by decide) q) c, fun q c => f1 (old (by decide) q) c, fun q c => f2 (old (by decide) q) c, fun q c => f3 (old (by decide) q) c, fun q c => f4 (old (by decide) q) c, fun q c => f5 (old (by decide) q) c, fun q c => f6 (old (by decide) q) c, fun q c => f7 (old (by decide) q) c, fun q c => f8 (old (by decide) q) c, fun q c => f9 (old (by decide) q) c, fun q c => f10 (old (by decide) q) c, fun q c => f11 (old (by decide) q) c, fun q c => f12 (old (by decide) q) c, fun q c => f13 (old (by decide) q) c, fun q c => f14 (old (by decide) q) c, fun q c => f15 (old (by decide) q) c, fun q c => f16 (old (by decide) q) c, fun q c => f17 (old (by decide) q) c, fun q c => f18 (old (by decide) q) c, fun q c => f19 (old (by decide) q) c, fun q c => f20 (old (by decide) q) c, fun q c => f21 (old (by decide) q) c, fun q c => f22 (old (by decide) q) c, fun q c => f23 (old (by decide) q) c, fun q c => f24 (old (by decide) q) c, fun q c => f25 (old (by decide) q) c, fun q c => f26 (old (by decide) q) c, fun _ _ => rfl, fun q c => f28 (old (by decide) q) c⟩
        · skip
          have e0 := f13 (ready_dep hi rfl (e := ⟨13, .data⟩) (by simp) rfl) trivial
          subst e0
          have e1 := f27 (ready_dep hi rfl (e := ⟨27, .data⟩) (by simp) rfl) trivial
          subst e1
          refine wpOp_ok rfl rfl ?_
          go_simp
          exact (HK.out _ _).2 ⟨_, _, _, _, _, _, _, _, _, _, _, _, _, _, _, _, _, _, _, _, _, _, _, _, _, _, _, _, _, rfl, HE.out, fun q c => f0 (old (by decide) q) c, fun q c => f1 (old (by decide) q) c, fun q c => f2 (old (by decide) q) c, fun q c => f3 (old (by decide) q) c, fun q c => f4 (old (by decide) q) c, fun q c => f5 (old (by decide) q) c, fun q c => f6 (old (by decide) q) c, fun q c => f7 (old (by decide) q) c, fun q c => f8 (old (by decide) q) c, fun q c => f9 (old (by decide) q) c, fun q c => f10 (old (by decide) q) c, fun q c => f11 (old (by decide) q) c, fun q c => f12 (old (by decide) q) c, fun q c => f13 (old (by decide) q) c, fun q c => f14 (old (by decide) q) c, fun q c => f15 (old (by decide) q) c, fun q c => f16 (old (by decide) q) c, fun q c => f17 (old (by decide) q) c, fun q c => f18 (old (by decide) q) c, fun q c => f19 (old (by decide) q) c, fun q c => f20 (old (by decide) q) c, fun q c => f21 (old (by decide) q) c, fun q c => f22 (old (by decide) q) c, fun q c => f23 (old (by decide) q) c, fun q c => f24 (old (by decide) q) c, fun q c => f25 (old (by decide) q) c, fun q c => f26 (old (by decide) q) c, fun q c => f27 (old (by decide) q) c, fun _ _ => rfl⟩

end Go.Proofs.Ytkofnmbkfaebcaa
