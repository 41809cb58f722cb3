/-
The walk of TotalOrder.
-/
import Derived.Test.YtkofnmbkfaebcaaTells
import Derived.Maps.AppendAt
namespace Go.Proofs.Ytkofnmbkfaebcaa
open Go.RowKit

@[go_sem] theorem run_equalIn_complex {P : Program} (w : World) (d : Nat) (t : TypeId) (k k' : FloatKind) (a b c e : Nat) (h : P.underlying t = some (.complex k')) : (Op.equalIn (d + 1) t (.complex k a b) (.complex k c e)).run P w = .ok ((k.format.order a c == some .eq) && (k.format.order b e == some .eq)) w := by
  simp [Op.equalIn, run_underlying h, Op.floatEq]

theorem S.plus_comm (s t : S) : s.plus t = t.plus s := by unfold S.plus; congr 1 <;> omega
theorem S.plus_assoc (s t u : S) : (s.plus t).plus u = s.plus (t.plus u) := by unfold S.plus; congr 1 <;> dsimp only <;> omega
theorem S.zero_plus (s : S) : S.zero.plus s = s := by unfold S.plus S.zero; simp
theorem foldS_from (l : List C) : ∀ s : Go.Proofs.Ytkofnmbkfaebcaa.S, l.foldl (fun s c => s.plus c.S) s = s.plus (sumS l) := by
  induction l with
  | nil => intro s; simp [sumS, S.plus, S.zero]
  | cons c l ih =>
    intro s
    have h1 : sumS (c :: l) = (S.zero.plus c.S).plus (sumS l) := by unfold sumS; rw [List.foldl_cons]; exact ih _
    rw [List.foldl_cons, ih, h1, S.zero_plus, S.plus_assoc]
theorem sumS_append (l m : List C) : sumS (l ++ m) = (sumS l).plus (sumS m) := by
  have : sumS (l ++ m) = m.foldl (fun s c => s.plus c.S) (sumS l) := by unfold sumS; rw [List.foldl_append]
  rw [this, foldS_from]
theorem sumS_reverse (l : List C) : sumS l.reverse = sumS l := by
  induction l with
  | nil => rfl
  | cons c l ih =>
    have h : sumS (c :: l) = (sumS [c]).plus (sumS l) := sumS_append [c] l
    rw [List.reverse_cons, sumS_append, ih, h, S.plus_comm]
theorem sumS_turned (a b : List C) : sumS (b.reverse ++ a.reverse) = (sumS a).plus (sumS b) := by
  rw [sumS_append, sumS_reverse, sumS_reverse, S.plus_comm]

def cellsL (l : List C) : List (List Value) := l.map C.cells
theorem cellsL_len (l : List C) : (cellsL l).length = l.length := by simp [cellsL]

/-- The cells of one element, read from its end. -/
theorem C.revAt {w wr : World} {l : List C} {b o : Nat} (Hc : Hid (∀ i, i < l.length → ∀ j, j < 5 → w.cell? ⟨b, o + i * 5 + j, none⟩ = ((cellsL l).getD i [])[j]?)) (hE : Ext w wr) (hb : b < w.heap.size) {k : Nat} (hk : k < l.length) {c : C} (hc : c = l.reverse[k]'(by simpa using hk)) :
    wr.cell? ⟨b, o + (l.length - 1 - k) * 5, none⟩ = some (.int .u8 c.k) ∧ wr.cell? ⟨b, o + (l.length - 1 - k) * 5 + 1, none⟩ = some (.int .u8 c.ty) ∧ wr.cell? ⟨b, o + (l.length - 1 - k) * 5 + 2, none⟩ = some (.int .i64 c.n) ∧
    wr.cell? ⟨b, o + (l.length - 1 - k) * 5 + 3, none⟩ = some (.complex .f64 c.re c.im) ∧ wr.cell? ⟨b, o + (l.length - 1 - k) * 5 + 4, none⟩ = some (.string c.s) := by
  rw [List.getElem_reverse] at hc
  have h := C.cellsAt (l := l) (Hid.mk' (by simpa [cellsL] using Hc.out)) hE hb (k := l.length - 1 - k) (by omega)
  rw [← hc] at h
  exact h

theorem bothS {s t : S} {x y a b : Nat} (h : s = t) (h1 : W2 x y s.re s.im) (h2 : W2 a b t.re t.im) : (FloatKind.f64.format.order x a == some .eq) = true ∧ (FloatKind.f64.format.order y b == some .eq) = true := by
  subst h
  exact ⟨(fi_eql h1.fx h2.fx).trans (by simp), (fi_eql h1.fy h2.fy).trans (by simp)⟩

/-- What is left of both, k cells taken away. -/
noncomputable def leftS (A B : List C) (k : Nat) : S := ((sumS A).plus (sumS B)).plus (sumS (B.take k)).neg
theorem leftS_zero (A B : List C) : leftS A B 0 = (sumS A).plus (sumS B) := by
  unfold leftS; rw [List.take_zero]; simp [sumS, S.zero, S.neg, S.plus]
theorem leftS_succ (A B : List C) (k : Nat) (h : k < B.length) : leftS A B (k + 1) = (leftS A B k).plus (B[k].S).neg := by
  unfold leftS; rw [sumS_take B k h]; unfold S.plus S.neg; congr 1 <;> dsimp only <;> omega
theorem leftS_all (A B : List C) : leftS A B B.length = sumS A := by
  unfold leftS; rw [List.take_length]; generalize sumS A = s; generalize sumS B = t; cases s; cases t; unfold S.plus S.neg; dsimp only; congr 1 <;> omega
theorem leftS_small (A B : List C) (k : Nat) (ha : A.length ≤ 150) (hb : B.length ≤ 150) : (leftS A B k).re.natAbs < 2 ^ 52 ∧ (leftS A B k).im.natAbs < 2 ^ 52 := by
  have h1 := sumS_small A
  have h2 := sumS_small B
  have h3 := sumS_small (B.take k)
  have h4 := List.length_take_le' k B
  unfold leftS S.plus S.neg; dsimp only; omega

set_option maxRecDepth 100000 in set_option maxHeartbeats 1600000 in
theorem order_any (a b : List R) (va vb : Value) (w : World) (ha : Sl w va 6 (a.map R.cells)) (hb : Sl w vb 6 (b.map R.cells)) (hla : a.length ≤ 9223372036854775807) (hlb : b.length ≤ 9223372036854775807) (hwa : ∀ r ∈ a, r.tw) (hwb : ∀ r ∈ b, r.tw) :
    Calls Try.prog 6 #[va, vb] w fun e w' => e = .returned (.bool true) ∧ Ext w w' := by
  have Ha := Hid.mk' ha
  have Hb := Hid.mk' hb
  have Hla := Hid.mk' hla
  have Hlb := Hid.mk' hlb
  have Hwa := Hid.mk' hwa
  have Hwb := Hid.mk' hwb
  obtain ⟨aa, ca, rfl, -⟩ := ha
  obtain ⟨ab, cb, rfl, -⟩ := hb
  simp only [List.length_map] at Ha Hb ⊢
  clear hla hlb hwa hwb
  go_enter Try.func6, Try.ntmps6
  go_wp2_with (first
    | (go_at_call_of 22 (Value.slice aa a.length ca); refine (great_any a _ _ (Ha.out.ext (by (repeat (with_reducible (first | exact Ext.refl _ | assumption | exact held_left (by assumption) | apply Ext.drewN | apply Ext.drew | apply Ext.alloc | (refine Ext.setCell ?_ (by first | (simp; done) | (simp; omega) | omega) _) | (refine Ext.trans ?_ (by assumption)) | (refine Ext.trans ?_ (held_left (by assumption)))))))) Hla.out (fun r hr => (Hwa.out r hr).s)).mono ?_; unfold GreatPost; rintro e w1 ⟨g, rfl, hg, hb1⟩; have HG := Hid.mk' hg; clear hg; cases g)
    | (go_at_call_of 22 (Value.slice ab b.length cb); refine (great_any b _ _ (Hb.out.ext (by (repeat (with_reducible (first | exact Ext.refl _ | assumption | exact held_left (by assumption) | apply Ext.drewN | apply Ext.drew | apply Ext.alloc | (refine Ext.setCell ?_ (by first | (simp; done) | (simp; omega) | omega) _) | (refine Ext.trans ?_ (by assumption)) | (refine Ext.trans ?_ (held_left (by assumption)))))))) Hlb.out (fun r hr => (Hwb.out r hr).s)).mono ?_; unfold GreatPost; rintro e w2 ⟨g2, rfl, hg2, hb2⟩; have HG2 := Hid.mk' hg2; clear hg2; cases g2)
    | (go_at_call_of 23 (Value.slice aa a.length ca); refine (ownL_any a _ _ (Ha.out.ext (by (repeat (with_reducible (first | exact Ext.refl _ | assumption | exact held_left (by assumption) | apply Ext.drewN | apply Ext.drew | apply Ext.alloc | (refine Ext.setCell ?_ (by first | (simp; done) | (simp; omega) | omega) _) | (refine Ext.trans ?_ (by assumption)) | (refine Ext.trans ?_ (held_left (by assumption)))))))) (by have := (HG.out (by trivial)).1; omega)).mono ?_; rintro e w3 ⟨o1, rfl, hsl1, hb3⟩)
    | (go_at_call_of 23 (Value.slice ab b.length cb); refine (ownL_any b _ _ (Hb.out.ext (by (repeat (with_reducible (first | exact Ext.refl _ | assumption | exact held_left (by assumption) | apply Ext.drewN | apply Ext.drew | apply Ext.alloc | (refine Ext.setCell ?_ (by first | (simp; done) | (simp; omega) | omega) _) | (refine Ext.trans ?_ (by assumption)) | (refine Ext.trans ?_ (held_left (by assumption)))))))) (by have := (HG2.out (by trivial)).1; omega)).mono ?_; rintro e w4 ⟨o2, rfl, hsl2, hb4⟩; have hsl1' := hsl1.ext hb4; rw [ownL_eq] at hsl1' hsl2; have HS1 := Hid.mk' hsl1'; have HS2 := Hid.mk' hsl2; obtain ⟨a1, c1, rfl, h1⟩ := hsl1'.shape (n := a.length) (by simp); obtain ⟨a2, c2, rfl, h2⟩ := hsl2.shape (n := b.length) (by simp); clear hsl1 hsl1' hsl2; have H1 := Hid.mk' h1; have H2 := Hid.mk' h2; clear h1 h2))
  all_goals try (go_ret; exact ⟨rfl, by (repeat (with_reducible (first | exact Ext.refl _ | assumption | exact held_left (by assumption) | apply Ext.drewN | apply Ext.drew | apply Ext.alloc | (refine Ext.setCell ?_ (by first | (simp; done) | (simp; omega) | omega) _) | (refine Ext.trans ?_ (by assumption)) | (refine Ext.trans ?_ (held_left (by assumption))))))⟩)
  have hE4 : Ext w w4 := by (repeat (with_reducible (first | exact Ext.refl _ | assumption | exact held_left (by assumption) | apply Ext.drewN | apply Ext.drew | apply Ext.alloc | (refine Ext.setCell ?_ (by first | (simp; done) | (simp; omega) | omega) _) | (refine Ext.trans ?_ (by assumption)) | (refine Ext.trans ?_ (held_left (by assumption))))))
  have HE4 := Hid.mk' hE4
  clear hb1 hb2 hb3 hb4 hE4
  have HOA := Hid.mk' (HG.out (by trivial)).2
  have HOB := Hid.mk' (HG2.out (by trivial)).2
  clear HG HG2
  have hla3 : a.length ≤ 150 := by omega
  have hlb3 : b.length ≤ 150 := by omega
  have HWA : Hid (∀ c ∈ a.map R.own, c.wf) := by intro c hc; simp at hc; obtain ⟨r, hr, rfl⟩ := hc; exact (R.wf_of (Hwa.out r hr) (HOA.out r hr)).own
  have HWB : Hid (∀ c ∈ b.map R.own, c.wf) := by intro c hc; simp at hc; obtain ⟨r, hr, rfl⟩ := hc; exact (R.wf_of (Hwb.out r hr) (HOB.out r hr)).own
  have HLA : Hid ((a.map R.own).length = a.length) := List.length_map _
  have HLB : Hid ((b.map R.own).length = b.length) := List.length_map _
  change Hid (Sl w4 _ 5 (cellsL (a.map R.own))) at HS1
  change Hid (Sl w4 _ 5 (cellsL (b.map R.own))) at HS2
  generalize a.map R.own = A at *
  generalize b.map R.own = B at *
  clear HOA HOB Hwa Hwb Hla Hlb Ha Hb
  obtain ⟨i0, hi, hz0, hz1, hz2⟩ := info_parts Try.infoCell
  go_loopw [7, 8] (fun v i wr => ∃ k : Nat, k ≤ b.length ∧ i = .int .i64 ((b.length : Int) - 1 - k) ∧ wr.ownsRow w4.heap.size 31 5 v k (cellsL (B.reverse.take k)).flatten ∧ Ext w4 wr) (fun _ i _ => (intOf i + 1).toNat)
  case atStart => exact ⟨0, Nat.zero_le _, by simp, World.ownsRow_nil _ _ _ _, Ext.refl _⟩
  case round =>
    obtain ⟨k, hk, rfl, hown, hE⟩ := hrel
    by_cases hlt : k < b.length
    · rcases H2.out with h0 | ⟨b2, q2, ha2, hb2, hc2⟩
      · omega
      subst ha2
      obtain ⟨c, hc⟩ : ∃ c, c = B.reverse[k]'(by rw [List.length_reverse, HLB.out]; exact hlt) := ⟨_, rfl⟩
      obtain ⟨f0, f1, f2, f3, f4⟩ := C.revAt (l := B) (Hid.mk' (by rw [HLB.out]; exact hc2)) hE hb2 (by rw [HLB.out]; exact hlt) hc
      rw [HLB.out] at f0 f1 f2 f3 f4
      have HT : Hid (cellsL (B.reverse.take (k + 1)) = cellsL (B.reverse.take k) ++ [c.cells]) := by
        show cellsL _ = _
        rw [List.take_succ_eq_append_getElem (by rw [List.length_reverse, HLB.out]; exact hlt), ← hc]; simp [cellsL]
      have HE := Hid.mk' hE
      clear hc hc2 hE
      go_wp2_with (at_builtin; refine wpList_append_own_at _ rfl _ _ 27 rfl w4.heap.size 31 i0 _ 5 56 Try.underlying27 hi hz0 hz1 hz2 rfl (by decide) _ _ _ rfl (hown.alloc _) ⟨_, 0, none⟩ 1 1 c.cells rfl rfl ?c1a ?c2a ?c3a ?c4a ?c5a ?_)
      case c1a => exact cells_new _ #[.int .u8 c.k, .int .u8 c.ty, .int .i64 c.n, .complex .f64 c.re c.im, .string c.s] _
      case c2a => intro u hu; simp [C.cells] at hu; rcases hu with rfl | rfl | rfl | rfl | rfl <;> rfl
      case c3a => unfold maxLen; omega
      case c4a => omega
      case c5a => have := HE.out.size; simp; omega
      · intro v' w2 hown' hgrow _ _
        have hE2 : Ext w4 w2 := (HE.out.alloc _).grown (hown.alloc _) hgrow
        have hown2 := Hid.mk' hown'
        have HE2 := Hid.mk' hE2
        clear hown' hgrow hE2
        go_wp2
        go_roundw
        case rel => exact ⟨k + 1, by omega, by go_num, by rw [HT.out, List.flatten_append, List.flatten_cons, List.flatten_nil, List.append_nil]; exact hown2.out, HE2.out⟩
        case measure => simp [intOf]; omega
    · have hkk : k = b.length := by omega
      subst hkk
      rw [List.take_of_length_le (by rw [List.length_reverse, HLB.out]; exact Nat.le_refl _)] at hown
      have HE := Hid.mk' hE
      clear hE
      go_wp2
      go_loopw [7, 9] (fun v i wr => ∃ k : Nat, k ≤ a.length ∧ i = .int .i64 ((a.length : Int) - 1 - k) ∧ wr.ownsRow w4.heap.size 31 5 v (b.length + k) (cellsL (B.reverse ++ A.reverse.take k)).flatten ∧ Ext w4 wr) (fun _ i _ => (intOf i + 1).toNat)
      case atStart => exact ⟨0, Nat.zero_le _, by simp, by rw [List.take_zero, List.append_nil]; exact hown, HE.out⟩
      clear hown HE
      case round =>
        obtain ⟨k, hk, rfl, hown, hE⟩ := hrel
        by_cases hlt : k < a.length
        · rcases H1.out with h0 | ⟨b2, q2, ha2, hb2, hc2⟩
          · omega
          subst ha2
          obtain ⟨c, hc⟩ : ∃ c, c = A.reverse[k]'(by rw [List.length_reverse, HLA.out]; exact hlt) := ⟨_, rfl⟩
          obtain ⟨f0, f1, f2, f3, f4⟩ := C.revAt (l := A) (Hid.mk' (by rw [HLA.out]; exact hc2)) hE hb2 (by rw [HLA.out]; exact hlt) hc
          rw [HLA.out] at f0 f1 f2 f3 f4
          have HT : Hid (cellsL (B.reverse ++ A.reverse.take (k + 1)) = cellsL (B.reverse ++ A.reverse.take k) ++ [c.cells]) := by
            show cellsL _ = _
            rw [List.take_succ_eq_append_getElem (by rw [List.length_reverse, HLA.out]; exact hlt), ← hc]; simp [cellsL]
          have HE := Hid.mk' hE
          clear hc hc2 hE
          go_wp2_with (at_builtin; refine wpList_append_own_at _ rfl _ _ 27 rfl w4.heap.size 31 i0 _ 5 56 Try.underlying27 hi hz0 hz1 hz2 rfl (by decide) _ _ _ rfl (hown.alloc _) ⟨_, 0, none⟩ 1 1 c.cells rfl rfl ?c1b ?c2b ?c3b ?c4b ?c5b ?_)
          case c1b => exact cells_new _ #[.int .u8 c.k, .int .u8 c.ty, .int .i64 c.n, .complex .f64 c.re c.im, .string c.s] _
          case c2b => intro u hu; simp [C.cells] at hu; rcases hu with rfl | rfl | rfl | rfl | rfl <;> rfl
          case c3b => unfold maxLen; omega
          case c4b => omega
          case c5b => have := HE.out.size; simp; omega
          · intro v' w2 hown' hgrow _ _
            have hE2 : Ext w4 w2 := (HE.out.alloc _).grown (hown.alloc _) hgrow
            have hown2 := Hid.mk' hown'
            have HE2 := Hid.mk' hE2
            clear hown' hgrow hE2
            go_wp2
            go_roundw
            case rel => exact ⟨k + 1, by omega, by go_num, by rw [HT.out, List.flatten_append, List.flatten_cons, List.flatten_nil, List.append_nil]; exact hown2.out, HE2.out⟩
            case measure => simp [intOf]; omega
        · have hkk : k = a.length := by omega
          subst hkk
          rw [List.take_of_length_le (by rw [List.length_reverse, HLA.out]; exact Nat.le_refl _)] at hown
          have HSL := Hid.mk' (Sl.of_owns (xss := cellsL (B.reverse ++ A.reverse)) (by rw [cellsL_len, List.length_append, List.length_reverse, List.length_reverse, HLA.out, HLB.out]; exact hown) (by intro xs hxs; simp [cellsL] at hxs; rcases hxs with ⟨c, _, rfl⟩ | ⟨c, _, rfl⟩ <;> rfl))
          have HE := Hid.mk' hE
          clear hE hown
          have hsa := sumS_small A
          have hsb := sumS_small B
          rw [HLA.out] at hsa
          rw [HLB.out] at hsb
          have hsa2 : (sumS A).re.natAbs ≤ 157286400 ∧ (sumS A).im.natAbs ≤ 157286400 := by omega
          have hsb2 : (sumS B).re.natAbs ≤ 157286400 ∧ (sumS B).im.natAbs ≤ 157286400 := by omega
          have HSA := Hid.mk' hsa2
          have HSB := Hid.mk' hsb2
          clear hsa hsb hsa2 hsb2
          go_wp2_with (first
            | (go_at_call_of 16 (Value.slice a1 a.length c1); refine (of_S A _ _ (HS1.out.ext (HE.out.trans (by (repeat (with_reducible (first | exact Ext.refl _ | assumption | exact held_left (by assumption) | apply Ext.drewN | apply Ext.drew | apply Ext.alloc | (refine Ext.setCell ?_ (by first | (simp; done) | (simp; omega) | omega) _) | (refine Ext.trans ?_ (by assumption)) | (refine Ext.trans ?_ (held_left (by assumption))))))))) (by rw [HLA.out]; omega) HWA.out).mono ?_; rintro e w5 ⟨v5, rfl, ⟨sx, sy, rfl, hw5⟩, hb5⟩)
            | (go_at_call_of 16 (Value.slice a2 b.length c2); refine (of_S B _ _ (HS2.out.ext (HE.out.trans (by (repeat (with_reducible (first | exact Ext.refl _ | assumption | exact held_left (by assumption) | apply Ext.drewN | apply Ext.drew | apply Ext.alloc | (refine Ext.setCell ?_ (by first | (simp; done) | (simp; omega) | omega) _) | (refine Ext.trans ?_ (by assumption)) | (refine Ext.trans ?_ (held_left (by assumption))))))))) (by rw [HLB.out]; omega) HWB.out).mono ?_; rintro e w6 ⟨v6, rfl, ⟨tx, ty, rfl, hw6⟩, hb6⟩)
            | (go_at_call 29; refine (join_S (s := sumS A) (t := sumS B) _ hw5 hw6 (by have := HSA.out; have := HSB.out; omega) (by have := HSA.out; have := HSB.out; omega)).mono ?_; rintro e w7 ⟨v7, rfl, ⟨bx, bY, rfl, hw7⟩, hb7⟩))
          have hE5 : Ext w4 w5 := HE.out.trans (by (repeat (with_reducible (first | exact Ext.refl _ | assumption | exact held_left (by assumption) | apply Ext.drewN | apply Ext.drew | apply Ext.alloc | (refine Ext.setCell ?_ (by first | (simp; done) | (simp; omega) | omega) _) | (refine Ext.trans ?_ (by assumption)) | (refine Ext.trans ?_ (held_left (by assumption)))))))
          have hE6 : Ext w4 w6 := hE5.trans hb6
          have hB10 := ((Blk.new w6 (encA (sumS A) sx sy) 34).alloc (.cells (encA (sumS B) tx ty) 34)).ext hb7
          have hB11 := (Blk.new' (w := w6.alloc (.cells (encA (sumS A) sx sy) 34)) (b := w6.heap.size + 1) (encA (sumS B) tx ty) 34 (by simp)).ext hb7
          have hE7 : Ext w4 w7 := ((hE6.alloc _).alloc _).trans hb7
          have k10 := hB10.cell
          have k11 := hB11.cell
          simp only [encA] at k10 k11
          have z10 := hB10.lt
          have z11 := hB11.lt
          have HZ10 := Hid.mk' z10
          have y10 : w6.heap.size ≤ w7.heap.size := by omega
          have y11 : w6.heap.size + 1 ≤ w7.heap.size := by omega
          have x11 : w6.heap.size + 1 < w7.heap.size + 1 := by omega
          have HR7 := Hid.mk' ((((hb5.trans hb6).alloc _).alloc _).trans hb7)
          have HE6 := Hid.mk' hE6
          have HE7 := Hid.mk' hE7
          clear hE5 hE6 hE7 hb5 hb6 hb7
          have hpc := S.plus_comm (sumS B) (sumS A)
          have HPC := Hid.mk' hpc
          clear hpc
          go_region_held3 (fun w' => Ext (w7.alloc (.cells #[.int .i64 (wrap64 ((sumS A).plus (sumS B)).c), .int .i64 (wrap64 ((sumS A).plus (sumS B)).n), .int .i64 (wrap64 ((sumS A).plus (sumS B)).o), .int .i64 (wrap64 ((sumS A).plus (sumS B)).b), .int .i64 (wrap64 ((sumS A).plus (sumS B)).i), .complex .f64 bx bY] 34)) w' ∧ (∀ b o, b < (w7.alloc (.cells #[.int .i64 (wrap64 ((sumS A).plus (sumS B)).c), .int .i64 (wrap64 ((sumS A).plus (sumS B)).n), .int .i64 (wrap64 ((sumS A).plus (sumS B)).o), .int .i64 (wrap64 ((sumS A).plus (sumS B)).b), .int .i64 (wrap64 ((sumS A).plus (sumS B)).i), .complex .f64 bx bY] 34)).heap.size → w'.cell? ⟨b, o, none⟩ = (w7.alloc (.cells #[.int .i64 (wrap64 ((sumS A).plus (sumS B)).c), .int .i64 (wrap64 ((sumS A).plus (sumS B)).n), .int .i64 (wrap64 ((sumS A).plus (sumS B)).o), .int .i64 (wrap64 ((sumS A).plus (sumS B)).b), .int .i64 (wrap64 ((sumS A).plus (sumS B)).i), .complex .f64 bx bY] 34)).cell? ⟨b, o, none⟩) ∧ (∀ b o, b < (w7.alloc (.cells #[.int .i64 (wrap64 ((sumS A).plus (sumS B)).c), .int .i64 (wrap64 ((sumS A).plus (sumS B)).n), .int .i64 (wrap64 ((sumS A).plus (sumS B)).o), .int .i64 (wrap64 ((sumS A).plus (sumS B)).b), .int .i64 (wrap64 ((sumS A).plus (sumS B)).i), .complex .f64 bx bY] 34)).heap.size → w'.frozen? ⟨b, o, none⟩ = (w7.alloc (.cells #[.int .i64 (wrap64 ((sumS A).plus (sumS B)).c), .int .i64 (wrap64 ((sumS A).plus (sumS B)).n), .int .i64 (wrap64 ((sumS A).plus (sumS B)).o), .int .i64 (wrap64 ((sumS A).plus (sumS B)).b), .int .i64 (wrap64 ((sumS A).plus (sumS B)).i), .complex .f64 bx bY] 34)).frozen? ⟨b, o, none⟩)) ((exact held_of (by (repeat (with_reducible (first | exact Ext.refl _ | assumption | exact held_left (by assumption) | apply Ext.drewN | apply Ext.drew | apply Ext.alloc | (refine Ext.setCell ?_ (by first | (simp; done) | (simp; omega) | omega) _) | (refine Ext.trans ?_ (by assumption)) | (refine Ext.trans ?_ (held_left (by assumption)))))))))
            (first
              | (go_at_call 29; refine (join_S (s := sumS B) (t := sumS A) _ hw6 hw5 (by have := HSA.out; have := HSB.out; omega) (by have := HSA.out; have := HSB.out; omega)).mono ?_; rw [HPC.out]; rintro e w8 ⟨v8, rfl, ⟨jx, jy, rfl, hw8⟩, hb8⟩; obtain ⟨t1, t2⟩ := bothS rfl hw7 hw8)
              | (go_at_call 16; refine (of_S (B.reverse ++ A.reverse) _ _ (HSL.out.ext (HR7.out.trans (by (repeat (with_reducible (first | exact Ext.refl _ | assumption | exact held_left (by assumption) | apply Ext.drewN | apply Ext.drew | apply Ext.alloc | (refine Ext.setCell ?_ (by first | (simp; done) | (simp; omega) | omega) _) | (refine Ext.trans ?_ (by assumption)) | (refine Ext.trans ?_ (held_left (by assumption))))))))) (by rw [List.length_append, List.length_reverse, List.length_reverse, HLA.out, HLB.out]; omega) (by intro c hc; simp at hc; rcases hc with hc | hc; exact HWB.out c hc; exact HWA.out c hc)).mono ?_; rw [sumS_turned]; rintro e w9 ⟨v9, rfl, ⟨ox, oy, rfl, hw9⟩, hb9⟩; obtain ⟨t3, t4⟩ := bothS rfl hw7 hw9))
          have hE9 := ((HE7.out.alloc _).trans (held_left (by assumption)))
          have hB10' := (hB10.alloc (.cells #[.int .i64 (wrap64 ((sumS A).plus (sumS B)).c), .int .i64 (wrap64 ((sumS A).plus (sumS B)).n), .int .i64 (wrap64 ((sumS A).plus (sumS B)).o), .int .i64 (wrap64 ((sumS A).plus (sumS B)).b), .int .i64 (wrap64 ((sumS A).plus (sumS B)).i), .complex .f64 bx bY] 34)).ext (held_left (by assumption))
          have hB12 := (Blk.new w7 (encA (leftS A B 0) bx bY) 34)
          rw [leftS_zero] at hB12
          have hB12' : Blk w9 w7.heap.size (encA (leftS A B 0) bx bY) 34 := by rw [leftS_zero]; exact hB12.ext (held_left (by assumption))
          have hw12 : W2 bx bY (leftS A B 0).re (leftS A B 0).im := by rw [leftS_zero]; exact hw7
          have hz7 : w4.heap.size ≤ w7.heap.size := HE7.out.size
          have HEw := Hid.mk' (HE4.out.trans hE9)
          have hz4 : w.heap.size ≤ w4.heap.size := HE4.out.size
          have hw10 := hw5
          clear hB10 hB11 hB12 k10 k11 z10 z11 y10 y11 x11 hw6 hw7 hw8 hw9 hb8 hb9 t1 t2 t3 t4
          go_wp2
          go_loopw [13] (fun i wr => ∃ k x y : Nat, k ≤ b.length ∧ i = .int .i64 k ∧ Hid (W2 x y (leftS A B k).re (leftS A B k).im) ∧ Blk wr w6.heap.size (encA (sumS A) sx sy) 34 ∧ Blk wr w7.heap.size (encA (leftS A B k) x y) 34 ∧ Ext w4 wr) (fun i _ => b.length - (intOf i).toNat)
          case atStart => exact ⟨0, bx, bY, Nat.zero_le _, rfl, hw12, hB10', hB12', hE9⟩
          clear hB10' hB12' hE9 hw12
          case round =>
            obtain ⟨k, x, y, hk, rfl, hw2, hB10, hB12, hE⟩ := hrel
            by_cases hlt : k < b.length
            · rcases H2.out with h0 | ⟨b2, q2, ha2, hb2, hc2⟩
              · omega
              subst ha2
              have hltB : k < B.length := by rw [HLB.out]; exact hlt
              obtain ⟨f0, f1, f2, f3, f4⟩ := C.cellsAt (l := B) (Hid.mk' (by rw [HLB.out]; exact hc2)) hE hb2 hltB
              have HCW := Hid.mk' (HWB.out B[k] (List.getElem_mem hltB))
              have HST := Hid.mk' (leftS_succ A B k hltB)
              have HSML := Hid.mk' (leftS_small A B k (by rw [HLA.out]; exact hla3) (by rw [HLB.out]; exact hlb3))
              obtain ⟨c, hc⟩ : ∃ c, c = B[k] := ⟨_, rfl⟩
              rw [← hc] at f0 f1 f2 f3 f4 HCW HST
              clear hc hc2 hltB
              have HE := Hid.mk' hE
              clear hE
              generalize hD : leftS A B k = D at *
              clear hD
              have g12 := hB12.cell
              have g12f := hB12.frozen
              simp only [encA] at g12
              have l12 := hB12.lt
              go_wp2
              go_still_tail 5, (by kernel_rfl)
              change wpList _ _ _ _ _ wr.drew
              go_wp2_with (go_at_call 28; refine (sub_S D c.k c.ty c.n x y c.re c.im c.s _ HCW.out.re HCW.out.im HCW.out.n HCW.out.s hw2.out HSML.out.1 HSML.out.2).mono ?_; rintro e w10 ⟨v, rfl, ⟨x1, y1, rfl, hw1⟩, hb10⟩; have q0 := hB10.drew.ext hb10; have q1 := hB12.drew.ext hb10; have q1c := q1.cell; have q1f := q1.frozen; simp only [encA] at q1c)
              go_roundw
              case rel =>
                have hE := HE.out
                refine ⟨k + 1, x1, y1, by omega, by go_num, by rw [HST.out]; exact hw1, ?_, ?_, ?_⟩
                · repeat (with_reducible (first | exact q0 | refine Blk.other ?_ _ _ (by have := HZ10.out; simp; omega)))
                · rw [HST.out]; exact (((((q1.set 0 _).set 1 _).set 2 _).set 3 _).set 4 _).set 5 _
                · (repeat (with_reducible (first | exact Ext.refl _ | assumption | exact held_left (by assumption) | apply Ext.drewN | apply Ext.drew | apply Ext.alloc | (refine Ext.setCell ?_ (by first | (simp; done) | (simp; omega) | omega) _) | (refine Ext.trans ?_ (by assumption)) | (refine Ext.trans ?_ (held_left (by assumption))))))
              case measure => simp [intOf]; omega
            · have hkk : k = b.length := by omega
              subst hkk
              have hlA : leftS A B b.length = sumS A := by rw [← HLB.out]; exact leftS_all A B
              rw [hlA] at hw2 hB12
              obtain ⟨t5, t6⟩ := bothS rfl hw2.out hw10
              have k10 := hB10.cell
              have k12 := hB12.cell
              have z10 := hB10.lt
              have z12 := hB12.lt
              simp only [encA] at k10 k12
              have HE := Hid.mk' hE
              clear hE
              go_wp2_with (go_at_call 18; refine (awake23_any _).mono ?_; rintro e w12 ⟨rfl, hb12⟩)
              have hE0 := HE4.out
              have hE := HE.out
              go_ret
              exact ⟨rfl, by (repeat (with_reducible (first | exact Ext.refl _ | assumption | exact held_left (by assumption) | apply Ext.drewN | apply Ext.drew | apply Ext.alloc | (refine Ext.setCell ?_ (by first | (simp; done) | (simp; omega) | omega) _) | (refine Ext.trans ?_ (by assumption)) | (refine Ext.trans ?_ (held_left (by assumption))))))⟩

end Go.Proofs.Ytkofnmbkfaebcaa
