/-
The reference's Put of a complex number.
-/
import Derived.Test.YtmpnopjkpamhaaaRefPutB
import Derived.Test.YtmpnopjkpamhaaaRefRight
import Derived.Deep.AppendLies
namespace Go.Proofs.Ytmpnopjkpamhaaa
open Go.RowKit

theorem OB.of_blk {w : World} {g : Nat} {l : List Int} {base n : Nat} (h : Blk w g (bs l).toArray 5) (hb : base ≤ g) (hn : n = l.length) (hl : l.length ≤ 1000000) : OB w base (.slice (some ⟨g, 0, none⟩) n n) l := by
  subst hn
  refine ⟨by rw [bs_len, Nat.mul_one], .inr ⟨g, l.length, (bs l).toArray, rfl, hb, h, Nat.le_refl _, by unfold maxLen; omega, by simp [bs], ?_⟩⟩
  rw [Nat.mul_one, List.toList_toArray, ← bs_len l, List.take_length]

/-- A store into what a call owns. -/
theorem OB.stored {w : World} {base g cap n : Nat} {l : List Int} (h : OB w base (.slice (some ⟨g, 0, none⟩) n cap) l) (j : Nat) (x : Int) : OB (w.setCell ⟨g, j, none⟩ (.int .u8 x)) base (.slice (some ⟨g, 0, none⟩) n cap) (l.set j x) := by
  obtain ⟨a, c, hv⟩ := h.shape
  simp only [Value.slice.injEq] at hv
  obtain ⟨_, rfl, _⟩ := hv
  have := (World.ownsRow.stored h j (.int .u8 x)).1
  unfold OB
  rw [List.length_set]
  have e : bs (l.set j x) = (bs l).set j (.int .u8 x) := by simp [bs, List.map_set]
  rw [e]; exact this
theorem OB.form {w : World} {base : Nat} {v : Value} {l : List Int} (h : OB w base v l) (hl : 0 < l.length) : ∃ g cap, v = .slice (some ⟨g, 0, none⟩) l.length cap ∧ base ≤ g ∧ g < w.heap.size ∧ (∀ j, w.frozen? ⟨g, j, none⟩ = false) ∧ (∀ j, j < l.length → w.cell? ⟨g, j, none⟩ = some (.int .u8 (l.getD j 0))) := by
  obtain ⟨g, cap, rfl, hb, hlt⟩ := World.ownsRow.form h hl
  refine ⟨g, cap, rfl, hb, hlt, fun j => World.ownsRow.frozenAt h j, fun j hj => ?_⟩
  rw [World.ownsRow.cellAt h j (by omega)]
  simp [bs, List.getD, List.getElem?_map, List.getElem?_eq_getElem hj]


theorem OB.news {w : World} {base : Nat} {v : Value} {l : List Int} (h : OB w base v l) : ∀ g, v.ownBlock = some g → ∀ j u, (bs l)[j]? = some u → w.cell? ((⟨g, 0, none⟩ : Addr).add j) = some u := fun _ hg => World.ownsRow.cells h hg

theorem sevens_pos (x : Nat) : 0 < (sevens x).length := by
  by_cases h : x < 128
  · rw [sevens_lt h]; simp
  · rw [sevens_ge h]; simp
theorem floatL_pos {x : Nat} {ver : Int} : 0 < (floatL x ver).length := by
  unfold floatL; split
  · rw [wordL_len]; omega
  · exact sevens_pos _
theorem floatL_1 (x : Nat) : (floatL x 1).length = 8 := by unfold floatL; rw [if_pos rfl, wordL_len]

set_option maxRecDepth 100000 in set_option maxHeartbeats 1600000 in
theorem rput41_any (n : Int) (x y : Nat) (s : ByteArray) (w : World) (hx : x < 2 ^ 64) (hy : y < 2 ^ 64)
    (HR : Hid (∀ w, Calls Try.prog 36 #[.agg #[.int .u8 4, .int .i64 n, .int .u64 x, .int .u64 y, .string s]] w fun e w' => e = .returned (.int .i64 0) ∧ Ext w w')) :
    Calls Try.prog 34 #[.agg #[.int .u8 4, .int .i64 n, .int .u64 x, .int .u64 y, .string s], .int .u8 1] w fun e w' => ∃ v', e = .returned (.tuple #[v', .int .i64 0]) ∧ OB w' w.heap.size v' (complexL x y 1) ∧ Ext w w' := by
  obtain ⟨i0, hi, hz0, hz1, hz2⟩ := info_parts Try.infoU8
  have HX := Hid.mk' (And.intro hx hy)
  have HFX := Hid.mk' (fun (z : Nat) (ver : Int) => floatL_len (x := z) (ver := ver))
  clear hx hy
  go_enter Try.func34, Try.ntmps34
  go_upto_region 17 with (first
    | (go_at_call 36; refine (HR.out _).mono ?_; rintro e w1 ⟨rfl, hb1⟩; have h1 := (Blk.new w #[.int .u8 4, .int .i64 n, .int .u64 x, .int .u64 y, .string s] 24).ext hb1; have hE1 : Ext w w1 := (by (repeat (with_reducible (first | exact Ext.refl _ | assumption | exact held_left (by assumption) | apply Ext.drewN | apply Ext.drew | apply Ext.alloc | (refine Ext.setCell ?_ (by first | (simp; done) | (simp; omega) | omega) _) | (refine Ext.trans ?_ (by assumption)) | (refine Ext.trans ?_ (held_left (by assumption))))))); have k1 := h1.cell; have z1 := h1.lt))
  go_region_held3 (fun w' => Ext (w1) w' ∧ (∀ b o, b < (w1).heap.size → w'.cell? ⟨b, o, none⟩ = (w1).cell? ⟨b, o, none⟩) ∧ (∀ b o, b < (w1).heap.size → w'.frozen? ⟨b, o, none⟩ = (w1).frozen? ⟨b, o, none⟩)) ((exact held_of (by (repeat (with_reducible (first | exact Ext.refl _ | assumption | exact held_left (by assumption) | apply Ext.drewN | apply Ext.drew | apply Ext.alloc | (refine Ext.setCell ?_ (by first | (simp; done) | (simp; omega) | omega) _) | (refine Ext.trans ?_ (by assumption)) | (refine Ext.trans ?_ (held_left (by assumption)))))))))
    (first
      | ((refine step_append_lies _ (by rfl) _ _ 29 (by rfl) w1.heap.size 5 i0 _ 1 1 Try.underlying29 hi hz0 hz1 hz2 rfl (by decide) _ _ _ (by rfl) (HO2.out.ext HB3.out) ⟨g3, 0, none⟩ _ cap3 (bs (floatL y 1)) (by rfl) (by rw [bs_len, Nat.mul_one]) (HO3.out.news _ rfl) (bs_one _) floatL_pos (by unfold maxLen; rw [floatL_1, floatL_1]; omega) (by rw [floatL_1, floatL_1]; omega) (HE2.out.trans HB3.out).size _ rfl ?_; intro g4 cap4 w4 hown hgrow hat hlt; have hE4 : Ext w1 w4 := OB.grown (HE2.out.trans HB3.out) (HO2.out.ext HB3.out) hgrow; have HO4 := Hid.mk' hown; clear hown hgrow hat hlt))
      | (go_at_call_of 56 (Value.int IntKind.u64 (x : Int)); refine (rfloat_any x 1 _ HX.out.1).mono ?_; rintro e w2 ⟨v2, rfl, ho2, hb2⟩; have hE2' : Ext w1 w2 := (by (repeat (with_reducible (first | exact Ext.refl _ | assumption | exact held_left (by assumption) | apply Ext.drewN | apply Ext.drew | apply Ext.alloc | (refine Ext.setCell ?_ (by first | (simp; done) | (simp; omega) | omega) _) | (refine Ext.trans ?_ (by assumption)) | (refine Ext.trans ?_ (held_left (by assumption))))))); have HE2 := Hid.mk' hE2'; clear hE2'; have HO2 : Hid (OB w2 w1.heap.size v2 (floatL x 1)) := ho2; clear ho2)
      | (go_at_call_of 56 (Value.int IntKind.u64 (y : Int)); refine (rfloat_any y 1 _ HX.out.2).mono ?_; rintro e w3 ⟨v3, rfl, ho3, hb3⟩; obtain ⟨g3, cap3, rfl, -, hg3, -, -⟩ := OB.form ho3 floatL_pos; have HO3 := Hid.mk' ho3; have hE3' : Ext w2 w3 := (by (repeat (with_reducible (first | exact Ext.refl _ | assumption | exact held_left (by assumption) | apply Ext.drewN | apply Ext.drew | apply Ext.alloc | (refine Ext.setCell ?_ (by first | (simp; done) | (simp; omega) | omega) _) | (refine Ext.trans ?_ (by assumption)) | (refine Ext.trans ?_ (held_left (by assumption))))))); have HB3 := Hid.mk' hE3'; clear hE3'; clear ho3))
  go_wp2
  go_ret2
  refine ⟨_, rfl, ?_, hE1.trans hE4⟩
  unfold complexL
  rw [if_neg (by decide)]
  exact OB.base (OB.push HO4.out rfl) hE1.size

set_option maxRecDepth 100000 in set_option maxHeartbeats 1600000 in
theorem rput400_any (n : Int) (s : ByteArray) (w : World)
    (HR : Hid (∀ w, Calls Try.prog 36 #[.agg #[.int .u8 4, .int .i64 n, .int .u64 (0 : Nat), .int .u64 (0 : Nat), .string s]] w fun e w' => e = .returned (.int .i64 0) ∧ Ext w w')) :
    Calls Try.prog 34 #[.agg #[.int .u8 4, .int .i64 n, .int .u64 (0 : Nat), .int .u64 (0 : Nat), .string s], .int .u8 2] w fun e w' => ∃ v', e = .returned (.tuple #[v', .int .i64 0]) ∧ OB w' w.heap.size v' (complexL 0 0 2) ∧ Ext w w' := by
  go_enter Try.func34, Try.ntmps34
  go_wp2_with (first
    | (go_at_call 36; refine (HR.out _).mono ?_; rintro e w1 ⟨rfl, hb1⟩; have h1 := (Blk.new w #[.int .u8 4, .int .i64 n, .int .u64 (0 : Nat), .int .u64 (0 : Nat), .string s] 24).ext hb1; have hE1 : Ext w w1 := (by (repeat (with_reducible (first | exact Ext.refl _ | assumption | exact held_left (by assumption) | apply Ext.drewN | apply Ext.drew | apply Ext.alloc | (refine Ext.setCell ?_ (by first | (simp; done) | (simp; omega) | omega) _) | (refine Ext.trans ?_ (by assumption)) | (refine Ext.trans ?_ (held_left (by assumption))))))); have k1 := h1.cell; have z1 := h1.lt))
  go_ret2
  refine ⟨_, rfl, ?_, hE1.alloc _⟩
  exact OB.of_blk (l := [0]) (Blk.new _ _ _) hE1.size rfl (by decide)

set_option maxRecDepth 100000 in set_option maxHeartbeats 1600000 in
theorem rput401_any (n : Int) (y : Nat) (s : ByteArray) (w : World) (hy0 : 1 ≤ y) (hy : y < 2 ^ 64)
    (HR : Hid (∀ w, Calls Try.prog 36 #[.agg #[.int .u8 4, .int .i64 n, .int .u64 (0 : Nat), .int .u64 y, .string s]] w fun e w' => e = .returned (.int .i64 0) ∧ Ext w w')) :
    Calls Try.prog 34 #[.agg #[.int .u8 4, .int .i64 n, .int .u64 (0 : Nat), .int .u64 y, .string s], .int .u8 2] w fun e w' => ∃ v', e = .returned (.tuple #[v', .int .i64 0]) ∧ OB w' w.heap.size v' (complexL 0 y 2) ∧ Ext w w' := by
  obtain ⟨i0, hi, hz0, hz1, hz2⟩ := info_parts Try.infoU8
  have HX := Hid.mk' (And.intro hy hy)
  have HFX := Hid.mk' (fun (z : Nat) (ver : Int) => floatL_len (x := z) (ver := ver))
  clear hy
  have HOUT : Hid (complexL 0 y 2 = [2] ++ floatL y 2) := Hid.mk' (by unfold complexL markOf; simp [show ¬ y = 0 by omega])
  go_enter Try.func34, Try.ntmps34
  go_wp2_with (first
    | (go_at_call 36; refine (HR.out _).mono ?_; rintro e w1 ⟨rfl, hb1⟩; have h1 := (Blk.new w #[.int .u8 4, .int .i64 n, .int .u64 (0 : Nat), .int .u64 y, .string s] 24).ext hb1; have hE1 : Ext w w1 := (by (repeat (with_reducible (first | exact Ext.refl _ | assumption | exact held_left (by assumption) | apply Ext.drewN | apply Ext.drew | apply Ext.alloc | (refine Ext.setCell ?_ (by first | (simp; done) | (simp; omega) | omega) _) | (refine Ext.trans ?_ (by assumption)) | (refine Ext.trans ?_ (held_left (by assumption))))))); have k1 := h1.cell; have z1 := h1.lt)
    | (go_at_call_of 56 (Value.int IntKind.u64 (y : Int)); refine (rfloat_any y 2 _ HX.out.2).mono ?_; rintro e w2 ⟨v2, rfl, ho2, hb2⟩; have HB2 := Hid.mk' hb2; obtain ⟨g2, cap2, rfl, -, hg2, -, -⟩ := OB.form ho2 floatL_pos; have HO2 := Hid.mk' ho2; clear ho2 hb2)
    | (at_builtin; refine wpList_append_own _ rfl _ _ 29 rfl w.heap.size 5 i0 _ 1 1 Try.underlying29 hi hz0 hz1 hz2 rfl (by decide) _ 1 _ rfl ((OB.of_blk (l := [2]) (base := w.heap.size) (Blk.new w1 _ _) hE1.size rfl (by decide)).ext HB2.out) ⟨g2, 0, none⟩ _ cap2 (bs (floatL y 2)) rfl (by rw [bs_len, Nat.mul_one]) (HO2.out.news _ rfl) (bs_one _) ?c3 ?c4 ?c5 ?_))
  case c3 => have := HFX.out y 2; unfold maxLen; omega
  case c4 => have := HFX.out y 2; omega
  case c5 => exact ((hE1.alloc _).trans HB2.out).size
  intro v3 w3 hown hgrow _
  have hE3 := OB.grown ((hE1.alloc _).trans HB2.out) ((OB.of_blk (l := [2]) (base := w.heap.size) (Blk.new w1 _ _) hE1.size rfl (by decide)).ext HB2.out) hgrow
  have HO3 := Hid.mk' (OB.push hown rfl)
  have HE3 := Hid.mk' hE3
  clear hown hgrow hE3
  go_wp2
  go_ret2
  exact ⟨_, rfl, by rw [HOUT.out]; exact HO3.out, HE3.out⟩

set_option maxRecDepth 100000 in set_option maxHeartbeats 1600000 in
theorem rput410_any (n : Int) (x : Nat) (s : ByteArray) (w : World) (hx0 : 1 ≤ x) (hx : x < 2 ^ 64)
    (HR : Hid (∀ w, Calls Try.prog 36 #[.agg #[.int .u8 4, .int .i64 n, .int .u64 x, .int .u64 (0 : Nat), .string s]] w fun e w' => e = .returned (.int .i64 0) ∧ Ext w w')) :
    Calls Try.prog 34 #[.agg #[.int .u8 4, .int .i64 n, .int .u64 x, .int .u64 (0 : Nat), .string s], .int .u8 2] w fun e w' => ∃ v', e = .returned (.tuple #[v', .int .i64 0]) ∧ OB w' w.heap.size v' (complexL x 0 2) ∧ Ext w w' := by
  obtain ⟨i0, hi, hz0, hz1, hz2⟩ := info_parts Try.infoU8
  have HX := Hid.mk' (And.intro hx hx)
  have HFX := Hid.mk' (fun (z : Nat) (ver : Int) => floatL_len (x := z) (ver := ver))
  clear hx
  have HOUT : Hid (complexL x 0 2 = [1] ++ floatL x 2) := Hid.mk' (by unfold complexL markOf; simp [show ¬ x = 0 by omega])
  go_enter Try.func34, Try.ntmps34
  go_wp2_with (first
    | (go_at_call 36; refine (HR.out _).mono ?_; rintro e w1 ⟨rfl, hb1⟩; have h1 := (Blk.new w #[.int .u8 4, .int .i64 n, .int .u64 x, .int .u64 (0 : Nat), .string s] 24).ext hb1; have hE1 : Ext w w1 := (by (repeat (with_reducible (first | exact Ext.refl _ | assumption | exact held_left (by assumption) | apply Ext.drewN | apply Ext.drew | apply Ext.alloc | (refine Ext.setCell ?_ (by first | (simp; done) | (simp; omega) | omega) _) | (refine Ext.trans ?_ (by assumption)) | (refine Ext.trans ?_ (held_left (by assumption))))))); have k1 := h1.cell; have z1 := h1.lt)
    | (go_at_call_of 56 (Value.int IntKind.u64 (x : Int)); refine (rfloat_any x 2 _ HX.out.1).mono ?_; rintro e w2 ⟨v2, rfl, ho2, hb2⟩; have HB2 := Hid.mk' hb2; obtain ⟨g2, cap2, rfl, -, hg2, -, -⟩ := OB.form ho2 floatL_pos; have HO2 := Hid.mk' ho2; clear ho2 hb2)
    | (at_builtin; refine wpList_append_own _ rfl _ _ 29 rfl w.heap.size 5 i0 _ 1 1 Try.underlying29 hi hz0 hz1 hz2 rfl (by decide) _ 1 _ rfl ((OB.of_blk (l := [1]) (base := w.heap.size) (Blk.new w1 _ _) hE1.size rfl (by decide)).ext HB2.out) ⟨g2, 0, none⟩ _ cap2 (bs (floatL x 2)) rfl (by rw [bs_len, Nat.mul_one]) (HO2.out.news _ rfl) (bs_one _) ?c3 ?c4 ?c5 ?_))
  case c3 => have := HFX.out x 2; unfold maxLen; omega
  case c4 => have := HFX.out x 2; omega
  case c5 => exact ((hE1.alloc _).trans HB2.out).size
  intro v3 w3 hown hgrow _
  have hE3 : Ext w1 w3 := OB.grown (W := w1) (((Ext.refl w1).alloc _).trans HB2.out) ((OB.of_blk (l := [1]) (base := w1.heap.size) (Blk.new w1 _ _) (Nat.le_refl _) rfl (by decide)).ext HB2.out) hgrow
  have HO3 := Hid.mk' (OB.push hown rfl)
  have HE3 := Hid.mk' hE3
  have h3 := h1.ext hE3
  have k3 := h3.cell
  have z3 := h3.lt
  clear hown hgrow hE3
  go_wp2
  go_ret2
  exact ⟨_, rfl, by rw [HOUT.out]; exact HO3.out, hE1.trans HE3.out⟩

set_option maxRecDepth 100000 in set_option maxHeartbeats 1600000 in
theorem rput411_any (n : Int) (x y : Nat) (s : ByteArray) (w : World) (hx0 : 1 ≤ x) (hy0 : 1 ≤ y) (hx : x < 2 ^ 64) (hy : y < 2 ^ 64)
    (HR : Hid (∀ w, Calls Try.prog 36 #[.agg #[.int .u8 4, .int .i64 n, .int .u64 x, .int .u64 y, .string s]] w fun e w' => e = .returned (.int .i64 0) ∧ Ext w w')) :
    Calls Try.prog 34 #[.agg #[.int .u8 4, .int .i64 n, .int .u64 x, .int .u64 y, .string s], .int .u8 2] w fun e w' => ∃ v', e = .returned (.tuple #[v', .int .i64 0]) ∧ OB w' w.heap.size v' (complexL x y 2) ∧ Ext w w' := by
  obtain ⟨i0, hi, hz0, hz1, hz2⟩ := info_parts Try.infoU8
  have HX := Hid.mk' (And.intro hx hy)
  have HFX := Hid.mk' (fun (z : Nat) (ver : Int) => floatL_len (x := z) (ver := ver))
  clear hx hy
  have HOUT : Hid (complexL x y 2 = ([3] ++ floatL x 2) ++ floatL y 2) := Hid.mk' (by unfold complexL markOf; simp [show ¬ x = 0 by omega, show ¬ y = 0 by omega])
  go_enter Try.func34, Try.ntmps34
  go_wp2_with (first
    | (go_at_call 36; refine (HR.out _).mono ?_; rintro e w1 ⟨rfl, hb1⟩; have h1 := (Blk.new w #[.int .u8 4, .int .i64 n, .int .u64 x, .int .u64 y, .string s] 24).ext hb1; have hE1 : Ext w w1 := (by (repeat (with_reducible (first | exact Ext.refl _ | assumption | exact held_left (by assumption) | apply Ext.drewN | apply Ext.drew | apply Ext.alloc | (refine Ext.setCell ?_ (by first | (simp; done) | (simp; omega) | omega) _) | (refine Ext.trans ?_ (by assumption)) | (refine Ext.trans ?_ (held_left (by assumption))))))); have k1 := h1.cell; have z1 := h1.lt)
    | (go_at_call_of 56 (Value.int IntKind.u64 (x : Int)); refine (rfloat_any x 2 _ HX.out.1).mono ?_; rintro e w2 ⟨v2, rfl, ho2, hb2⟩; have HB2 := Hid.mk' hb2; obtain ⟨g2, cap2, rfl, -, hg2, -, -⟩ := OB.form ho2 floatL_pos; have HO2 := Hid.mk' ho2; clear ho2 hb2)
    | (at_builtin; refine wpList_append_own _ rfl _ _ 29 rfl w1.heap.size 5 i0 _ 1 1 Try.underlying29 hi hz0 hz1 hz2 rfl (by decide) _ 1 _ rfl ((OB.of_blk (l := [1]) (base := w1.heap.size) (Blk.new w1 _ _) (Nat.le_refl _) rfl (by decide)).ext HB2.out) ⟨g2, 0, none⟩ _ cap2 (bs (floatL x 2)) rfl (by rw [bs_len, Nat.mul_one]) (HO2.out.news _ rfl) (bs_one _) ?c3 ?c4 ?c5 ?_))
  case c3 => have := HFX.out x 2; unfold maxLen; omega
  case c4 => have := HFX.out x 2; omega
  case c5 => exact (((Ext.refl w1).alloc _).trans HB2.out).size
  intro v3 w3 hown hgrow _
  have hE3 : Ext w1 w3 := OB.grown (W := w1) (((Ext.refl w1).alloc _).trans HB2.out) ((OB.of_blk (l := [1]) (base := w1.heap.size) (Blk.new w1 _ _) (Nat.le_refl _) rfl (by decide)).ext HB2.out) hgrow
  have hob := OB.push hown rfl
  obtain ⟨g4, cap4, rfl, hb4, hl4, f4, c4⟩ := OB.form hob (by simp)
  have c40 : w3.cell? ⟨g4, 0, none⟩ = some (.int .u8 1) := c4 0 (by simp)
  have f40 := f4 0
  have HC4 := Hid.mk' c4
  have HF4 := Hid.mk' f4
  have hl3 : 1 ≤ ([1] ++ floatL x 2).length := by simp
  have HL3 : Hid (([1] ++ floatL x 2).length ≤ 20) := Hid.mk' (by have := HFX.out x 2; simp; omega)
  have h3 := h1.ext hE3
  have k3 := h3.cell
  have z3 := h3.lt
  have hne : w.heap.size ≠ g4 := by have := h1.lt; omega
  have hOS := OB.stored hob 0 3
  have hES : Ext w1 (w3.setCell ⟨g4, 0, none⟩ (.int .u8 3)) := hE3.setCell hb4 _
  have h5 := h1.ext hES
  have k5 := h5.cell
  have HE3 := Hid.mk' hE3
  have HOS := Hid.mk' hOS
  have HES := Hid.mk' hES
  clear hown hgrow hE3 hob c4 f4 hOS hES
  go_wp2_with (first
    | (go_at_call_of 56 (Value.int IntKind.u64 (y : Int)); refine (rfloat_any y 2 _ HX.out.2).mono ?_; rintro e w6 ⟨v6, rfl, ho6, hb6⟩; have HB6 := Hid.mk' hb6; obtain ⟨g6, cap6, rfl, -, hg6, -, -⟩ := OB.form ho6 floatL_pos; have HO6 := Hid.mk' ho6; clear ho6 hb6)
    | (at_builtin; refine wpList_append_own _ rfl _ _ 29 rfl w1.heap.size 5 i0 _ 1 1 Try.underlying29 hi hz0 hz1 hz2 rfl (by decide) _ _ _ rfl (HOS.out.ext HB6.out) ⟨g6, 0, none⟩ _ cap6 (bs (floatL y 2)) rfl (by rw [bs_len, Nat.mul_one]) (HO6.out.news _ rfl) (bs_one _) ?d3 ?d4 ?d5 ?_))
  case d3 => have := HFX.out y 2; have := HL3.out; unfold maxLen; simp at *; omega
  case d4 => have := HFX.out y 2; have := HL3.out; simp at *; omega
  case d5 => exact (HES.out.trans HB6.out).size
  intro v7 w7 hown hgrow _
  have hE7 : Ext w1 w7 := OB.grown (HES.out.trans HB6.out) (HOS.out.ext HB6.out) hgrow
  have HO7 := Hid.mk' (OB.push hown (by simp))
  have HE7 := Hid.mk' hE7
  clear hown hgrow hE7
  go_wp2
  go_ret2
  refine ⟨_, rfl, ?_, hE1.trans HE7.out⟩
  rw [HOUT.out]
  exact OB.base HO7.out hE1.size

theorem rput4_any (n : Int) (x y : Nat) (s : ByteArray) (ver : Int) (w : World) (hx : x < 2 ^ 64) (hy : y < 2 ^ 64) (hv : ver = 1 ∨ ver = 2)
    (HR : Hid (∀ w, Calls Try.prog 36 #[.agg #[.int .u8 4, .int .i64 n, .int .u64 x, .int .u64 y, .string s]] w fun e w' => e = .returned (.int .i64 0) ∧ Ext w w')) :
    Calls Try.prog 34 #[.agg #[.int .u8 4, .int .i64 n, .int .u64 x, .int .u64 y, .string s], .int .u8 ver] w fun e w' => ∃ v', e = .returned (.tuple #[v', .int .i64 0]) ∧ OB w' w.heap.size v' (complexL x y ver) ∧ Ext w w' := by
  rcases hv with rfl | rfl
  · exact rput41_any n x y s w hx hy HR
  · by_cases hx0 : x = 0 <;> by_cases hy0 : y = 0
    · subst hx0; subst hy0; exact rput400_any n s w HR
    · subst hx0; exact rput401_any n y s w (by omega) hy HR
    · subst hy0; exact rput410_any n x s w (by omega) hx HR
    · exact rput411_any n x y s w (by omega) (by omega) hx hy HR

end Go.Proofs.Ytmpnopjkpamhaaa
