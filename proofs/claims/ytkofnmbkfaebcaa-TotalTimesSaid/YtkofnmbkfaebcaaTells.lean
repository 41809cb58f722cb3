/-
The walk of TotalTells.
-/
import Derived.Test.YtkofnmbkfaebcaaGreat
import Derived.Test.YtkofnmbkfaebcaaAwake23
import Derived.Test.YtkofnmbkfaebcaaSub
import Derived.Test.YtkofnmbkfaebcaaOwnL
namespace Go.Proofs.Ytkofnmbkfaebcaa
open Go.RowKit

def R.arr (r : R) : Array Value := #[.int .u8 r.k, .int .u8 r.ty, .int .i64 r.n, .int .u64 r.x, .int .u64 r.y, .string r.s]

theorem R.slNew (k ty n x y : Int) (s : ByteArray) (w : World) : Sl (w.alloc (.cells #[.int .u8 k, .int .u8 ty, .int .i64 n, .int .u64 x, .int .u64 y, .string s] 51)) (.slice (some ⟨w.heap.size, 0, none⟩) 1 1) 6 ([(⟨k, ty, n, x, y, s⟩ : R)].map R.cells) :=
  Sl.new _ _ _ 6 1 1 _ rfl (by intro xs h; simp at h; subst h; rfl) rfl

/-- A cell as its type has it. -/
structure R.tw (r : R) : Prop where
  k : 0 ≤ r.k
  x : 0 ≤ r.x ∧ r.x < 2 ^ 64
  y : 0 ≤ r.y ∧ r.y < 2 ^ 64
  n : wrap64 r.n = r.n
  s : r.s.size ≤ 9223372036854775807

theorem R.wf_of {r : R} (h : r.tw) (g : okR r) : r.wf := ⟨by have := h.k; have := g.k; omega, h.x, h.y, h.n, h.s⟩
theorem ownL_eq (l : List R) : ownL l = (l.map R.own).map C.cells := by simp [ownL]
theorem S.scale_neg (d : S) : d.scale (-1) = d.neg := by unfold S.scale S.neg; simp
theorem plus_small {s d : S} {a b : Nat} (h1 : s.re.natAbs ≤ a ∧ s.im.natAbs ≤ a) (h2 : d.re.natAbs ≤ b ∧ d.im.natAbs ≤ b) : (s.plus d).re.natAbs ≤ a + b ∧ (s.plus d).im.natAbs ≤ a + b := by
  unfold S.plus; dsimp only; omega
theorem neg_small {d : S} {b : Nat} (h2 : d.re.natAbs ≤ b ∧ d.im.natAbs ≤ b) : d.neg.re.natAbs ≤ b ∧ d.neg.im.natAbs ≤ b := by
  unfold S.neg; dsimp only; omega

set_option maxRecDepth 100000 in set_option maxHeartbeats 1600000 in
theorem tells_any (l : List R) (v : Value) (k ty n : Int) (x y : Nat) (s : ByteArray) (w : World) (hl : Sl w v 6 (l.map R.cells)) (hlen : l.length ≤ 9223372036854775807) (hwf : ∀ r ∈ l, r.tw)
    (hs : (⟨k, ty, n, x, y, s⟩ : R).tw) :
    Calls Try.prog 5 #[v, .agg #[.int .u8 k, .int .u8 ty, .int .i64 n, .int .u64 x, .int .u64 y, .string s]] w fun e w' =>
      e = .returned (.bool true) ∧ Ext w w' := by
  have Hl := Hid.mk' hl
  have Hlen := Hid.mk' hlen
  have Hwf := Hid.mk' hwf
  have Hs := Hid.mk' hs
  clear hl hlen hwf hs
  obtain ⟨r, hr⟩ : ∃ r : R, r = ⟨k, ty, n, x, y, s⟩ := ⟨_, rfl⟩
  have HR := Hid.mk' hr
  clear hr
  go_enter Try.func5, Try.ntmps5
  go_wp2_with (first
    | (go_at_call_of 22 v; refine (great_any l v _ (Hl.out.ext (by (repeat (with_reducible (first | exact Ext.refl _ | assumption | exact held_left (by assumption) | apply Ext.drewN | apply Ext.drew | apply Ext.alloc | (refine Ext.setCell ?_ (by first | (simp; done) | (simp; omega) | omega) _) | (refine Ext.trans ?_ (by assumption)) | (refine Ext.trans ?_ (held_left (by assumption)))))))) Hlen.out (fun r hr => (Hwf.out r hr).s)).mono ?_; unfold GreatPost; rintro e w1 ⟨g, rfl, hg, hb⟩; have HG := Hid.mk' hg; clear hg; have hB := (Blk.new w #[.int .u8 k, .int .u8 ty, .int .i64 n, .int .u64 x, .int .u64 y, .string s] 51).ext hb; have kc := hB.cell; cases g)
    | (go_at_call 22; refine (great_any [r] _ _ (by rw [HR.out]; exact R.slNew k ty n x y s _) (by simp) (by rw [HR.out]; simpa using Hs.out.s)).mono ?_; unfold GreatPost; rintro e w2 ⟨g2, rfl, hg2, hb2⟩; have HG2 := Hid.mk' hg2; clear hg2; cases g2))
  all_goals try (go_ret; exact ⟨rfl, by (repeat (with_reducible (first | exact Ext.refl _ | assumption | exact held_left (by assumption) | apply Ext.drewN | apply Ext.drew | apply Ext.alloc | (refine Ext.setCell ?_ (by first | (simp; done) | (simp; omega) | omega) _) | (refine Ext.trans ?_ (by assumption)) | (refine Ext.trans ?_ (held_left (by assumption))))))⟩)
  have hE2 : Ext w w2 := by (repeat (with_reducible (first | exact Ext.refl _ | assumption | exact held_left (by assumption) | apply Ext.drewN | apply Ext.drew | apply Ext.alloc | (refine Ext.setCell ?_ (by first | (simp; done) | (simp; omega) | omega) _) | (refine Ext.trans ?_ (by assumption)) | (refine Ext.trans ?_ (held_left (by assumption))))))
  have hB2 := (hB.alloc _).ext hb2
  have kc2 := hB2.cell
  have z2 := hB2.lt
  clear kc
  have ⟨hl3, hok⟩ := HG.out (by trivial)
  have ⟨_, hok2⟩ := HG2.out (by trivial)
  have HL3 := Hid.mk' hl3
  have HOK := Hid.mk' hok
  have HOK2 := Hid.mk' (hok2 r (by simp))
  clear hl3 hok hok2 HG HG2
  have Hl2 := Hid.mk' (Hl.out.ext hE2)
  go_region_held3 (fun w' => Ext (w2) w' ∧ (∀ b o, b < (w2).heap.size → w'.cell? ⟨b, o, none⟩ = (w2).cell? ⟨b, o, none⟩) ∧ (∀ b o, b < (w2).heap.size → w'.frozen? ⟨b, o, none⟩ = (w2).frozen? ⟨b, o, none⟩)) ((exact held_of (by (repeat (with_reducible (first | exact Ext.refl _ | assumption | exact held_left (by assumption) | apply Ext.drewN | apply Ext.drew | apply Ext.alloc | (refine Ext.setCell ?_ (by first | (simp; done) | (simp; omega) | omega) _) | (refine Ext.trans ?_ (by assumption)) | (refine Ext.trans ?_ (held_left (by assumption)))))))))
    (first
      | (go_at_call_of 23 v; refine (ownL_any l v _ (Hl2.out.ext (by (repeat (with_reducible (first | exact Ext.refl _ | assumption | exact held_left (by assumption) | apply Ext.drewN | apply Ext.drew | apply Ext.alloc | (refine Ext.setCell ?_ (by first | (simp; done) | (simp; omega) | omega) _) | (refine Ext.trans ?_ (by assumption)) | (refine Ext.trans ?_ (held_left (by assumption)))))))) (by have := HL3.out; omega)).mono ?_; rintro e w3 ⟨o1, rfl, hsl1, hb3⟩)
      | (go_at_call 23; refine (ownL_any [r] _ _ (by rw [HR.out]; first | exact R.slNew k ty n x y s _ | exact (R.slNew k ty n x y s w2).ext (by (repeat (with_reducible (first | exact Ext.refl _ | assumption | exact held_left (by assumption) | apply Ext.drewN | apply Ext.drew | apply Ext.alloc | (refine Ext.setCell ?_ (by first | (simp; done) | (simp; omega) | omega) _) | (refine Ext.trans ?_ (by assumption)) | (refine Ext.trans ?_ (held_left (by assumption)))))))) (by simp)).mono ?_; rintro e w4 ⟨o2, rfl, hsl2, hb4⟩))
  all_goals
    have hsl2' : Sl w4 o2 5 [[.int .u8 k, .int .u8 ty, .int .i64 n, .complex .f64 x y, .string s]] := by rw [HR.out] at hsl2; exact hsl2
    obtain ⟨b2, q2, cap2, rfl, hq2, hc2⟩ := hsl2'.one
    have c0 := hc2 0 (by omega)
    have c1 := hc2 1 (by omega)
    have c2 := hc2 2 (by omega)
    have c3 := hc2 3 (by omega)
    have c4 := hc2 4 (by omega)
    clear hc2 hsl2 hsl2'
    simp at c0 c1 c2 c3 c4
    have Hsl1 := Hid.mk' (hsl1.ext (by (repeat (with_reducible (first | exact Ext.refl _ | assumption | exact held_left (by assumption) | apply Ext.drewN | apply Ext.drew | apply Ext.alloc | (refine Ext.setCell ?_ (by first | (simp; done) | (simp; omega) | omega) _) | (refine Ext.trans ?_ (by assumption)) | (refine Ext.trans ?_ (held_left (by assumption))))))) : Sl w4 o1 5 (ownL l))
    have hE4 : Ext w2 w4 := by (repeat (with_reducible (first | exact Ext.refl _ | assumption | exact held_left (by assumption) | apply Ext.drewN | apply Ext.drew | apply Ext.alloc | (refine Ext.setCell ?_ (by first | (simp; done) | (simp; omega) | omega) _) | (refine Ext.trans ?_ (by assumption)) | (refine Ext.trans ?_ (held_left (by assumption))))))
    have hB4 := hB2.ext hE4
    have kc4 := hB4.cell
    have z4 := hB4.lt
    have HE24 := Hid.mk' (hE2.trans hE4)
    have Hl4 := Hid.mk' (Hl2.out.ext hE4)
    have HWF := Hid.mk' (fun r hr => R.wf_of (Hwf.out r hr) (HOK.out r hr))
    clear kc2 z2 hE4 hsl1
    have hsm := sumS_small (l.map R.own)
    rw [List.length_map] at hsm
    have hsm2 : (sumS (l.map R.own)).re.natAbs ≤ 314572800 ∧ (sumS (l.map R.own)).im.natAbs ≤ 314572800 := by have := HL3.out; omega
    have HSM := Hid.mk' hsm2
    clear hsm2
    clear hsm
    go_wp2_with (first
      | (go_at_call 16; refine (of_S (l.map R.own) o1 _ (by rw [← ownL_eq]; exact Hsl1.out) (by rw [List.length_map]; have := HL3.out; omega) (by intro c hc; simp at hc; obtain ⟨r, hr, rfl⟩ := hc; exact (HWF.out r hr).own)).mono ?_; rintro e w5 ⟨v5, rfl, ⟨sx, sy, rfl, hw5⟩, hb5⟩)
      | (go_at_call 24; refine (rof_any l v _ (Hl4.out.ext (by (repeat (with_reducible (first | exact Ext.refl _ | assumption | exact held_left (by assumption) | apply Ext.drewN | apply Ext.drew | apply Ext.alloc | (refine Ext.setCell ?_ (by first | (simp; done) | (simp; omega) | omega) _) | (refine Ext.trans ?_ (by assumption)) | (refine Ext.trans ?_ (held_left (by assumption)))))))) (by have := HL3.out; omega) HWF.out).mono ?_; simp only [encT]; rintro e w6 ⟨rfl, hb6⟩))
    generalize sumS (l.map R.own) = S0 at *
    have HD := Hid.mk' (contrib_small k ty n x y s.size)
    have hB6 := hB4.ext (hb5.trans hb6)
    have kc6 := hB6.cell
    have z6 := hB6.lt
    have y6 := Nat.le_of_lt z6
    have y61 : w.heap.size ≤ w6.heap.size + 1 := by omega
    have y62 : w.heap.size < w6.heap.size + 1 + 1 := by omega
    have E46 := (hb5.trans hb6)
    have q6 : b2 < w6.heap.size := Nat.lt_of_lt_of_le hq2 E46.size
    have p6 := Nat.le_of_lt q6
    have p61 : b2 ≤ w6.heap.size + 1 := by omega
    have p62 : b2 < w6.heap.size + 1 + 1 := by omega
    have d0 := (E46.cells.1 b2 _ hq2).trans c0
    have d1 := (E46.cells.1 b2 _ hq2).trans c1
    have d2 := (E46.cells.1 b2 _ hq2).trans c2
    have d3 := (E46.cells.1 b2 _ hq2).trans c3
    have d4 := (E46.cells.1 b2 _ hq2).trans c4
    have HE6 := Hid.mk' (HE24.out.trans E46)
    clear E46 c0 c1 c2 c3 c4 kc4 z4 hB4 hb5 hb6 hq2 hB hB2 hb hb2 hE2 hB6
    try clear hb3
    try clear hb4
    have HHx := Hs.out.x.2
    have HHy := Hs.out.y.2
    have HX := Hid.mk' (show x < 2 ^ 64 from by dsimp only at HHx; omega)
    have HY := Hid.mk' (show y < 2 ^ 64 from by dsimp only at HHy; omega)
    clear HHx HHy
    have HADD := Hid.mk' (fun w => add_S S0 k ty n sx sy x y s w HX HY Hs.out.n Hs.out.s hw5 (by have := HSM.out; omega) (by have := HSM.out; omega))
    have HSUB := Hid.mk' (fun w => sub_S S0 k ty n sx sy x y s w HX HY Hs.out.n Hs.out.s hw5 (by have := HSM.out; omega) (by have := HSM.out; omega))
    have HP := Hid.mk' (fun w => radd_any S0 k ty n x y s 1 w (R.wf_of Hs.out (by rw [HR.out] at HOK2; exact HOK2.out)).k)
    have HM := Hid.mk' (fun w => radd_any S0 k ty n x y s (-1) w (R.wf_of Hs.out (by rw [HR.out] at HOK2; exact HOK2.out)).k)
    have HB1 := Hid.mk' (plus_small HSM.out HD.out)
    have HB2 := Hid.mk' (plus_small HSM.out (neg_small HD.out))
    simp only [S.scale_one, S.scale_neg] at HP HM
    generalize contrib k ty n x y s.size = D at *
    go_region_held3 (fun w' => Ext ((w6.alloc (.cells #[.int .i64 (wrap64 S0.c), .int .i64 (wrap64 S0.n), .int .i64 (wrap64 S0.o), .int .i64 (wrap64 S0.b), .int .i64 (wrap64 S0.i), .complex .f64 sx sy] 34)).alloc (.cells #[.int .i64 (wrap64 S0.c), .int .i64 (wrap64 S0.n), .int .i64 (wrap64 S0.o), .int .i64 (wrap64 S0.b), .int .i64 (wrap64 S0.i), .int .i64 (wrap64 S0.re), .int .i64 (wrap64 S0.im)] 56)) w' ∧ (∀ b o, b < ((w6.alloc (.cells #[.int .i64 (wrap64 S0.c), .int .i64 (wrap64 S0.n), .int .i64 (wrap64 S0.o), .int .i64 (wrap64 S0.b), .int .i64 (wrap64 S0.i), .complex .f64 sx sy] 34)).alloc (.cells #[.int .i64 (wrap64 S0.c), .int .i64 (wrap64 S0.n), .int .i64 (wrap64 S0.o), .int .i64 (wrap64 S0.b), .int .i64 (wrap64 S0.i), .int .i64 (wrap64 S0.re), .int .i64 (wrap64 S0.im)] 56)).heap.size → w'.cell? ⟨b, o, none⟩ = ((w6.alloc (.cells #[.int .i64 (wrap64 S0.c), .int .i64 (wrap64 S0.n), .int .i64 (wrap64 S0.o), .int .i64 (wrap64 S0.b), .int .i64 (wrap64 S0.i), .complex .f64 sx sy] 34)).alloc (.cells #[.int .i64 (wrap64 S0.c), .int .i64 (wrap64 S0.n), .int .i64 (wrap64 S0.o), .int .i64 (wrap64 S0.b), .int .i64 (wrap64 S0.i), .int .i64 (wrap64 S0.re), .int .i64 (wrap64 S0.im)] 56)).cell? ⟨b, o, none⟩) ∧ (∀ b o, b < ((w6.alloc (.cells #[.int .i64 (wrap64 S0.c), .int .i64 (wrap64 S0.n), .int .i64 (wrap64 S0.o), .int .i64 (wrap64 S0.b), .int .i64 (wrap64 S0.i), .complex .f64 sx sy] 34)).alloc (.cells #[.int .i64 (wrap64 S0.c), .int .i64 (wrap64 S0.n), .int .i64 (wrap64 S0.o), .int .i64 (wrap64 S0.b), .int .i64 (wrap64 S0.i), .int .i64 (wrap64 S0.re), .int .i64 (wrap64 S0.im)] 56)).heap.size → w'.frozen? ⟨b, o, none⟩ = ((w6.alloc (.cells #[.int .i64 (wrap64 S0.c), .int .i64 (wrap64 S0.n), .int .i64 (wrap64 S0.o), .int .i64 (wrap64 S0.b), .int .i64 (wrap64 S0.i), .complex .f64 sx sy] 34)).alloc (.cells #[.int .i64 (wrap64 S0.c), .int .i64 (wrap64 S0.n), .int .i64 (wrap64 S0.o), .int .i64 (wrap64 S0.b), .int .i64 (wrap64 S0.i), .int .i64 (wrap64 S0.re), .int .i64 (wrap64 S0.im)] 56)).frozen? ⟨b, o, none⟩)) ((exact held_of (by (repeat (with_reducible (first | exact Ext.refl _ | assumption | exact held_left (by assumption) | apply Ext.drewN | apply Ext.drew | apply Ext.alloc | (refine Ext.setCell ?_ (by first | (simp; done) | (simp; omega) | omega) _) | (refine Ext.trans ?_ (by assumption)) | (refine Ext.trans ?_ (held_left (by assumption)))))))))
      (first
        | (go_at_call 25; with_reducible refine (like_any _ _ _ _ (by assumption) (by first | (have := HSM.out; omega) | (have := HB1.out; omega) | (have := HB2.out; omega)) (by first | (have := HSM.out; omega) | (have := HB1.out; omega) | (have := HB2.out; omega))).mono ?_; rintro e w7 ⟨rfl, hb7⟩)
        | (go_at_call 26; refine (HADD.out _).mono ?_; rintro e w8 ⟨v8, rfl, ⟨ax, ay, rfl, hw8⟩, hb8⟩)
        | (go_at_call 28; refine (HSUB.out _).mono ?_; rintro e w9 ⟨v9, rfl, ⟨bx, bY, rfl, hw9⟩, hb9⟩)
        | (go_at_call_of 27 (Value.int IntKind.i64 1); refine (HP.out _).mono ?_; simp only [encT]; rintro e w10 ⟨rfl, hb10⟩)
        | (go_at_call 27; refine (HM.out _).mono ?_; simp only [encT]; rintro e w11 ⟨rfl, hb11⟩)
        | (go_at_call 18; refine (awake23_any _).mono ?_; rintro e w12 ⟨rfl, hb12⟩))
    go_wp2
    have hE6 := HE6.out
    go_ret
    exact ⟨rfl, by (repeat (with_reducible (first | exact Ext.refl _ | assumption | exact held_left (by assumption) | apply Ext.drewN | apply Ext.drew | apply Ext.alloc | (refine Ext.setCell ?_ (by first | (simp; done) | (simp; omega) | omega) _) | (refine Ext.trans ?_ (by assumption)) | (refine Ext.trans ?_ (held_left (by assumption))))))⟩

end Go.Proofs.Ytkofnmbkfaebcaa
