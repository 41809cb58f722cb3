/-
The program's text of a fault.
-/
import Derived.Test.YthdjinicmnhgpaaDoorFitNum
import Derived.Test.YthdjinicmnhgpaaDoorFitLay
import Derived.Test.YthdjinicmnhgpaaDoorRow
import Derived.Lib.LaidTab
namespace Go.Proofs.YthdjinicmnhgpaaDoor
open Go.RowKit Go.Shelf Go.Sort

theorem Tryd.beX : Builder.Extra Tryd.prog Tryd.lays156_ren := {
  sizeBuilder := by kernel_rfl
  liesBuilder := by kernel_rfl
  t5 := Tryd.underlying5
  a5 := Tryd.isAgg5
  z5 := Tryd.sizeOf5
  v5 := Tryd.zeroValue5
  infoByte := by kernel_rfl
  cellsByte := by kernel_rfl
  sizeByte := by kernel_rfl
  neB5 := by decide }
theorem Tryd.infoStr : (Tryd.prog.info? 9).map (fun i => (i.zero, i.size, i.bytes)) = some (some (.string ⟨#[]⟩), 1, 16) := by kernel_rfl

/-- The table that the library's numbers' texts read. -/
def Tab (w : World) : Prop := Lib.TabIs Tryd.prog w "internal/strconv.uint64pow10" .u64 Lib.pow10Tab
theorem Tab.ext {w w' : World} (h : Tab w) (he : Ext w w') : Tab w' := by
  unfold Tab Lib.TabIs World.var? at h ⊢
  have hgn : Tryd.prog.globalNamed "internal/strconv.uint64pow10" = some 1 := by kernel_rfl
  rw [hgn] at h ⊢
  simp only [Option.bind_some] at h ⊢
  have hlt : 1 < w.heap.size := by
    rcases Nat.lt_or_ge 1 w.heap.size with h' | h'
    · exact h'
    · rw [Array.getElem?_eq_none h'] at h; cases h
  rw [he.block _ hlt]
  exact h
theorem ext_grow (w : World) (k : Nat) (os : Array Obj) : Ext w (grow (w.drewN k) os) :=
  ⟨rfl, rfl, rfl, by rw [size_grow]; exact Nat.le_add_right _ _, fun i hi => heap_grow_old (w.drewN k) os hi⟩
theorem itoa_any (v : Int) (w : World) (h0 : -9223372036854775808 ≤ v) (h1 : v ≤ 9223372036854775807) (ht : Tab w) :
    Calls Tryd.prog 7 #[.int .i64 v] w fun e w' => e = .returned (.string (txt (Lib.itoa v))) ∧ Ext w w' := by
  have h := Any.strconv_Itoa Tryd.laysM171 v h0 h1 w ht
  change Calls Tryd.prog 7 _ _ _ at h
  refine h.mono ?_
  rintro e w' ⟨he, k, os, rfl⟩
  exact ⟨he, ext_grow w k os⟩
theorem join_any (b c : Nat) (xs : List ByteArray) (w : World) (hc : ∀ (j : Nat) x, xs[j]? = some x → w.cell? ⟨b, 0 + j, none⟩ = some (.string x)) (hb : b < w.heap.size) (hcap : xs.length ≤ c) (hn : xs.length ≤ 10)
    (hlen : (Lib.join (xs.map (·.data.toList)) [32]).length ≤ 1000) :
    Calls Tryd.prog 8 #[.slice (some ⟨b, 0, none⟩) xs.length c, .string ⟨#[32]⟩] w fun e w' => e = .returned (.string (txt (Lib.join (xs.map (·.data.toList)) [32]))) ∧ Ext w w' := by
  have h := Any.strings_Join Tryd.lays156 Tryd.beX b 0 c xs ⟨#[32]⟩ w hc hb (by omega) hcap (by show (Lib.join (xs.map (·.data.toList)) [32]).length ≤ _; omega)
  change Calls Tryd.prog 8 _ _ _ at h
  exact h.mono fun e w' h => h

set_option maxRecDepth 100000 in set_option maxHeartbeats 4000000 in
theorem fault_any (tx ev er : Int) (w : World) (a0 : -9223372036854775808 ≤ tx) (a1 : tx ≤ 9223372036854775807) (b0 : -9223372036854775808 ≤ ev) (b1 : ev ≤ 9223372036854775807) (c0 : -9223372036854775808 ≤ er) (c1 : er ≤ 9223372036854775807) (ht : Tab w) :
    Calls Tryd.prog 4 #[.agg #[.int .i64 tx, .int .i64 ev, .int .i64 er]] w fun e w' => e = .returned (.string (txt (faultT tx ev er))) ∧ Ext w w' := by
  obtain ⟨i0, hi, hz0, hz1, hz2⟩ := info_parts Tryd.infoStr
  have HT := Hid.mk' ht
  have HC := Hid.mk' (fun v (h0 : -9223372036854775808 ≤ v) (h1 : v ≤ 9223372036854775807) W (h : Ext w W) => itoa_any v W h0 h1 (ht.ext h))
  have l1 := itoa_len a0 a1
  have l2 := itoa_len b0 b1
  have l3 := itoa_len c0 c1
  clear ht
  by_cases h0 : er = 0
  · have HR := Hid.mk' (show faultT tx ev er = [102, 105, 110, 101] from if_pos h0)
    subst h0
    go_enter Tryd.func4, Tryd.ntmps4
    go_wp2
    go_ret
    exact ⟨by rw [HR.out]; rfl, by (repeat (with_reducible (first | exact Ext.refl _ | assumption | exact held_left (by assumption) | apply Ext.drewN | apply Ext.drew | apply Ext.alloc | (refine Ext.setCell ?_ (by first | (simp; done) | (simp; omega) | omega) _) | (refine Ext.trans ?_ (by assumption)) | (refine Ext.trans ?_ (held_left (by assumption))))))⟩
  have h0' : (er == 0) = false := by simpa using h0
  have HC1 := Hid.mk' (HC.out tx a0 a1)
  have HC2 := Hid.mk' (HC.out ev b0 b1)
  have HC3 := Hid.mk' (HC.out er c0 c1)
  by_cases h1 : ev = -1
  · have HR := Hid.mk' (show Lib.join [wTx, Lib.itoa tx, wEr, Lib.itoa er] [32] = faultT tx ev er from by unfold faultT; rw [if_neg h0, if_pos h1])
    have HLN : Hid ((faultT tx ev er).length ≤ 1000) := Hid.mk' (by rw [← HR.out, join4]; simp [wTx, wEr]; omega)
    have h1' : (ev != -1) = false := by simpa using h1
    clear h0 h1
    obtain ⟨L1, hL1⟩ : ∃ T, T = Lib.itoa tx := ⟨_, rfl⟩
    obtain ⟨L3, hL3⟩ : ∃ T, T = Lib.itoa er := ⟨_, rfl⟩
    rw [← hL1] at HC1 HR
    rw [← hL3] at HC3 HR
    clear hL1 hL3 HC l1 l2 l3 HC2
    go_enter Tryd.func4, Tryd.ntmps4
    go_upto_region 4 with (go_at_call 7; refine (HC1.out _ (by (repeat (with_reducible (first | exact Ext.refl _ | assumption | exact held_left (by assumption) | apply Ext.drewN | apply Ext.drew | apply Ext.alloc | (refine Ext.setCell ?_ (by first | (simp; done) | (simp; omega) | omega) _) | (refine Ext.trans ?_ (by assumption)) | (refine Ext.trans ?_ (held_left (by assumption)))))))).mono ?_; rintro e w1 ⟨rfl, hb1⟩; have HB := Hid.mk' ((Blk.new w #[.int .i64 tx, .int .i64 ev, .int .i64 er] 24).ext hb1); have HE1 := Hid.mk' (show Ext w w1 by (repeat (with_reducible (first | exact Ext.refl _ | assumption | exact held_left (by assumption) | apply Ext.drewN | apply Ext.drew | apply Ext.alloc | (refine Ext.setCell ?_ (by first | (simp; done) | (simp; omega) | omega) _) | (refine Ext.trans ?_ (by assumption)) | (refine Ext.trans ?_ (held_left (by assumption))))))); clear hb1)
    have g1 := HB.out.cell
    have z1 := HB.out.lt
    have HO1 := Hid.mk' (show (w1.alloc (.cells #[.string (⟨#[116, 114, 97, 110, 115, 97, 99, 116, 105, 111, 110]⟩ : ByteArray), .string (txt L1)] 9)).ownsRow w1.heap.size 9 1 (.slice (some ⟨w1.heap.size, 0, none⟩) 2 2) 2 [.string (⟨#[116, 114, 97, 110, 115, 97, 99, 116, 105, 111, 110]⟩ : ByteArray), .string (txt L1)] from ⟨rfl, .inr ⟨w1.heap.size, 2, #[.string (⟨#[116, 114, 97, 110, 115, 97, 99, 116, 105, 111, 110]⟩ : ByteArray), .string (txt L1)], rfl, Nat.le_refl _, Blk.new w1 _ _, Nat.le_refl _, by unfold maxLen; omega, rfl, rfl⟩⟩)
    go_wp2_with (first
      | (go_at_call 7; refine (HC3.out _ (by have := HE1.out; (repeat (with_reducible (first | exact Ext.refl _ | assumption | exact held_left (by assumption) | apply Ext.drewN | apply Ext.drew | apply Ext.alloc | (refine Ext.setCell ?_ (by first | (simp; done) | (simp; omega) | omega) _) | (refine Ext.trans ?_ (by assumption)) | (refine Ext.trans ?_ (held_left (by assumption)))))))).mono ?_; rintro e w2 ⟨rfl, hb2⟩; have HE2 := Hid.mk' (show Ext (w1.alloc (.cells #[.string (⟨#[116, 114, 97, 110, 115, 97, 99, 116, 105, 111, 110]⟩ : ByteArray), .string (txt L1)] 9)) w2 by (repeat (with_reducible (first | exact Ext.refl _ | assumption | exact held_left (by assumption) | apply Ext.drewN | apply Ext.drew | apply Ext.alloc | (refine Ext.setCell ?_ (by first | (simp; done) | (simp; omega) | omega) _) | (refine Ext.trans ?_ (by assumption)) | (refine Ext.trans ?_ (held_left (by assumption))))))); clear hb2)
      | (at_builtin; refine wpList_append_own _ rfl _ _ 30 rfl w1.heap.size 9 i0 _ 1 16 Tryd.underlying30 hi hz0 hz1 hz2 rfl (by decide) (.slice (some ⟨w1.heap.size, 0, none⟩) 2 2) 2 [.string (⟨#[116, 114, 97, 110, 115, 97, 99, 116, 105, 111, 110]⟩ : ByteArray), .string (txt L1)] rfl (owns_ext HO1.out (HE2.out.alloc _)) ⟨_, 0, none⟩ 2 2 [.string (⟨#[101, 114, 114, 111, 114]⟩ : ByteArray), .string (txt L3)] rfl rfl ?c1 ?c2 ?c3 ?c4 ?c5 ?_))
    case c1 => exact cells_new _ #[.string (⟨#[101, 114, 114, 111, 114]⟩ : ByteArray), .string (txt L3)] _
    case c2 => intro u hu; simp at hu; rcases hu with rfl | rfl <;> rfl
    case c3 => unfold maxLen; omega
    case c4 => omega
    case c5 => have := HE2.out.size; simp at this ⊢; omega
    intro v' w3 hown' hgrow _
    have HE3 : Hid (Ext w w3) := Hid.mk' (by
      have h1 : Ext w (w2.alloc (.cells #[.string (⟨#[101, 114, 114, 111, 114]⟩ : ByteArray), .string (txt L3)] 9)) := by have := HE1.out; have := HE2.out; (repeat (with_reducible (first | exact Ext.refl _ | assumption | exact held_left (by assumption) | apply Ext.drewN | apply Ext.drew | apply Ext.alloc | (refine Ext.setCell ?_ (by first | (simp; done) | (simp; omega) | omega) _) | (refine Ext.trans ?_ (by assumption)) | (refine Ext.trans ?_ (held_left (by assumption))))))
      exact Below.grown h1 hgrow (by have := h1.size; exact this) (fun g hg => by have := (HO1.out.lt g hg).1; have := HE1.out.size; omega))
    have hown2 : w3.ownsRow w1.heap.size 9 1 v' 4 ([(⟨#[116, 114, 97, 110, 115, 97, 99, 116, 105, 111, 110]⟩ : ByteArray), txt L1, (⟨#[101, 114, 114, 111, 114]⟩ : ByteArray), txt L3].map Value.string) := hown'
    rcases hown2.2 with ⟨-, h00⟩ | ⟨g, cap, cur, rfl, hg, hBl, hnc, -, -, htk⟩
    · cases h00
    have hBk : Blk w3 g cur 9 := hBl
    have HJ := Hid.mk' (join_any g cap [(⟨#[116, 114, 97, 110, 115, 97, 99, 116, 105, 111, 110]⟩ : ByteArray), txt L1, (⟨#[101, 114, 114, 111, 114]⟩ : ByteArray), txt L3] w3 (fun j x hj => by
        have hj4 : j < 4 := by
          rcases Nat.lt_or_ge j 4 with h | h
          · exact h
          · rw [List.getElem?_eq_none (by simpa using h)] at hj; cases hj
        have h1 : (cur.toList.take (4 * 1))[j]? = some (.string x) := by rw [htk, List.getElem?_map, hj]; rfl
        rw [List.getElem?_take_of_lt (by omega)] at h1
        rw [hBk.cell, Nat.zero_add, ← Array.getElem?_toList]
        exact h1) hBk.lt hnc (by simp) (by have h := HLN.out; rw [← HR.out] at h; exact h))
    have HJ2 : Hid (Calls Tryd.prog 8 #[.slice (some ⟨g, 0, none⟩) 4 cap, .string ⟨#[32]⟩] w3 fun e w' => e = .returned (.string (txt (faultT tx ev er))) ∧ Ext w3 w') := Hid.mk' (by rw [← HR.out]; exact HJ.out)
    clear hown' hown2 hgrow hg hBl hBk hnc htk HJ
    go_wp2_with (go_at_call 8; refine HJ2.out.mono ?_; rintro e w4 ⟨rfl, hb4⟩)
    go_ret
    exact ⟨rfl, HE3.out.trans hb4⟩
  · have HR := Hid.mk' (show Lib.join [wTx, Lib.itoa tx, wEv, Lib.itoa ev, wEr, Lib.itoa er] [32] = faultT tx ev er from by unfold faultT; rw [if_neg h0, if_neg h1])
    have HLN : Hid ((faultT tx ev er).length ≤ 1000) := Hid.mk' (by rw [← HR.out, join6]; simp [wTx, wEv, wEr]; omega)
    have h1' : (ev != -1) = true := by simpa using h1
    clear h0 h1
    obtain ⟨L1, hL1⟩ : ∃ T, T = Lib.itoa tx := ⟨_, rfl⟩
    obtain ⟨L2, hL2⟩ : ∃ T, T = Lib.itoa ev := ⟨_, rfl⟩
    obtain ⟨L3, hL3⟩ : ∃ T, T = Lib.itoa er := ⟨_, rfl⟩
    rw [← hL1] at HC1 HR
    rw [← hL2] at HC2 HR
    rw [← hL3] at HC3 HR
    clear hL1 hL2 hL3 HC l1 l2 l3
    go_enter Tryd.func4, Tryd.ntmps4
    go_upto_region 4 with (go_at_call 7; refine (HC1.out _ (by (repeat (with_reducible (first | exact Ext.refl _ | assumption | exact held_left (by assumption) | apply Ext.drewN | apply Ext.drew | apply Ext.alloc | (refine Ext.setCell ?_ (by first | (simp; done) | (simp; omega) | omega) _) | (refine Ext.trans ?_ (by assumption)) | (refine Ext.trans ?_ (held_left (by assumption)))))))).mono ?_; rintro e w1 ⟨rfl, hb1⟩; have HB := Hid.mk' ((Blk.new w #[.int .i64 tx, .int .i64 ev, .int .i64 er] 24).ext hb1); have HE1 := Hid.mk' (show Ext w w1 by (repeat (with_reducible (first | exact Ext.refl _ | assumption | exact held_left (by assumption) | apply Ext.drewN | apply Ext.drew | apply Ext.alloc | (refine Ext.setCell ?_ (by first | (simp; done) | (simp; omega) | omega) _) | (refine Ext.trans ?_ (by assumption)) | (refine Ext.trans ?_ (held_left (by assumption))))))); clear hb1)
    have g1 := HB.out.cell
    have z1 := HB.out.lt
    have HO1 := Hid.mk' (show (w1.alloc (.cells #[.string (⟨#[116, 114, 97, 110, 115, 97, 99, 116, 105, 111, 110]⟩ : ByteArray), .string (txt L1)] 9)).ownsRow w1.heap.size 9 1 (.slice (some ⟨w1.heap.size, 0, none⟩) 2 2) 2 [.string (⟨#[116, 114, 97, 110, 115, 97, 99, 116, 105, 111, 110]⟩ : ByteArray), .string (txt L1)] from ⟨rfl, .inr ⟨w1.heap.size, 2, #[.string (⟨#[116, 114, 97, 110, 115, 97, 99, 116, 105, 111, 110]⟩ : ByteArray), .string (txt L1)], rfl, Nat.le_refl _, Blk.new w1 _ _, Nat.le_refl _, by unfold maxLen; omega, rfl, rfl⟩⟩)
    go_upto_region 6 with (first
      | (go_at_call 7; refine (HC2.out _ (by have := HE1.out; (repeat (with_reducible (first | exact Ext.refl _ | assumption | exact held_left (by assumption) | apply Ext.drewN | apply Ext.drew | apply Ext.alloc | (refine Ext.setCell ?_ (by first | (simp; done) | (simp; omega) | omega) _) | (refine Ext.trans ?_ (by assumption)) | (refine Ext.trans ?_ (held_left (by assumption)))))))).mono ?_; rintro e w2 ⟨rfl, hb2⟩; have HE2 := Hid.mk' (show Ext (w1.alloc (.cells #[.string (⟨#[116, 114, 97, 110, 115, 97, 99, 116, 105, 111, 110]⟩ : ByteArray), .string (txt L1)] 9)) w2 by (repeat (with_reducible (first | exact Ext.refl _ | assumption | exact held_left (by assumption) | apply Ext.drewN | apply Ext.drew | apply Ext.alloc | (refine Ext.setCell ?_ (by first | (simp; done) | (simp; omega) | omega) _) | (refine Ext.trans ?_ (by assumption)) | (refine Ext.trans ?_ (held_left (by assumption))))))); clear hb2)
      | (at_builtin; refine wpList_append_own _ rfl _ _ 30 rfl w1.heap.size 9 i0 _ 1 16 Tryd.underlying30 hi hz0 hz1 hz2 rfl (by decide) (.slice (some ⟨w1.heap.size, 0, none⟩) 2 2) 2 [.string (⟨#[116, 114, 97, 110, 115, 97, 99, 116, 105, 111, 110]⟩ : ByteArray), .string (txt L1)] rfl (owns_ext HO1.out (HE2.out.alloc _)) ⟨_, 0, none⟩ 2 2 [.string (⟨#[101, 118, 101, 110, 116]⟩ : ByteArray), .string (txt L2)] rfl rfl ?c1 ?c2 ?c3 ?c4 ?c5 ?_))
    case c1 => exact cells_new _ #[.string (⟨#[101, 118, 101, 110, 116]⟩ : ByteArray), .string (txt L2)] _
    case c2 => intro u hu; simp at hu; rcases hu with rfl | rfl <;> rfl
    case c3 => unfold maxLen; omega
    case c4 => omega
    case c5 => have := HE2.out.size; simp at this ⊢; omega
    intro v' w3 hown' hgrow _
    have HX3 : Hid (Ext w1 w3) := Hid.mk' (by
      have h1 : Ext w1 (w2.alloc (.cells #[.string (⟨#[101, 118, 101, 110, 116]⟩ : ByteArray), .string (txt L2)] 9)) := by have := HE2.out; (repeat (with_reducible (first | exact Ext.refl _ | assumption | exact held_left (by assumption) | apply Ext.drewN | apply Ext.drew | apply Ext.alloc | (refine Ext.setCell ?_ (by first | (simp; done) | (simp; omega) | omega) _) | (refine Ext.trans ?_ (by assumption)) | (refine Ext.trans ?_ (held_left (by assumption))))))
      exact Below.grown h1 hgrow (by have := h1.size; exact this) (fun g hg => (HO1.out.lt g hg).1))
    have HO3 : Hid (w3.ownsRow w1.heap.size 9 1 v' 4 [.string (⟨#[116, 114, 97, 110, 115, 97, 99, 116, 105, 111, 110]⟩ : ByteArray), .string (txt L1), .string (⟨#[101, 118, 101, 110, 116]⟩ : ByteArray), .string (txt L2)]) := Hid.mk' hown'
    have HE3 : Hid (Ext w w3) := Hid.mk' (HE1.out.trans HX3.out)
    clear hown' hgrow g1 z1
    have g3 := (HB.out.ext HX3.out).cell
    have z3 := (HB.out.ext HX3.out).lt
    go_wp2_with (first
      | (go_at_call 7; refine (HC3.out _ HE3.out).mono ?_; rintro e w4 ⟨rfl, hb4⟩; have HE4 := Hid.mk' hb4; clear hb4)
      | (at_builtin; refine wpList_append_own _ rfl _ _ 30 rfl w1.heap.size 9 i0 _ 1 16 Tryd.underlying30 hi hz0 hz1 hz2 rfl (by decide) v' 4 _ rfl (owns_ext HO3.out (HE4.out.alloc _)) ⟨_, 0, none⟩ 2 2 [.string (⟨#[101, 114, 114, 111, 114]⟩ : ByteArray), .string (txt L3)] rfl rfl ?d1 ?d2 ?d3 ?d4 ?d5 ?_))
    case d1 => exact cells_new _ #[.string (⟨#[101, 114, 114, 111, 114]⟩ : ByteArray), .string (txt L3)] _
    case d2 => intro u hu; simp at hu; rcases hu with rfl | rfl <;> rfl
    case d3 => unfold maxLen; omega
    case d4 => omega
    case d5 => have := HX3.out.size; have := HE4.out.size; simp; omega
    intro v5 w5 hown' hgrow _
    have HE5 : Hid (Ext w w5) := Hid.mk' (by
      have h1 : Ext w (w4.alloc (.cells #[.string (⟨#[101, 114, 114, 111, 114]⟩ : ByteArray), .string (txt L3)] 9)) := by have := HE3.out; have := HE4.out; (repeat (with_reducible (first | exact Ext.refl _ | assumption | exact held_left (by assumption) | apply Ext.drewN | apply Ext.drew | apply Ext.alloc | (refine Ext.setCell ?_ (by first | (simp; done) | (simp; omega) | omega) _) | (refine Ext.trans ?_ (by assumption)) | (refine Ext.trans ?_ (held_left (by assumption))))))
      exact Below.grown h1 hgrow (by have := h1.size; exact this) (fun g hg => by have := (HO3.out.lt g hg).1; have := HE1.out.size; omega))
    have hown2 : w5.ownsRow w1.heap.size 9 1 v5 6 ([(⟨#[116, 114, 97, 110, 115, 97, 99, 116, 105, 111, 110]⟩ : ByteArray), txt L1, (⟨#[101, 118, 101, 110, 116]⟩ : ByteArray), txt L2, (⟨#[101, 114, 114, 111, 114]⟩ : ByteArray), txt L3].map Value.string) := hown'
    rcases hown2.2 with ⟨-, h00⟩ | ⟨g, cap, cur, rfl, hg, hBl, hnc, -, -, htk⟩
    · cases h00
    have hBk : Blk w5 g cur 9 := hBl
    have HJ := Hid.mk' (join_any g cap [(⟨#[116, 114, 97, 110, 115, 97, 99, 116, 105, 111, 110]⟩ : ByteArray), txt L1, (⟨#[101, 118, 101, 110, 116]⟩ : ByteArray), txt L2, (⟨#[101, 114, 114, 111, 114]⟩ : ByteArray), txt L3] w5 (fun j x hj => by
        have hj4 : j < 6 := by
          rcases Nat.lt_or_ge j 6 with h | h
          · exact h
          · rw [List.getElem?_eq_none (by simpa using h)] at hj; cases hj
        have h1 : (cur.toList.take (6 * 1))[j]? = some (.string x) := by rw [htk, List.getElem?_map, hj]; rfl
        rw [List.getElem?_take_of_lt (by omega)] at h1
        rw [hBk.cell, Nat.zero_add, ← Array.getElem?_toList]
        exact h1) hBk.lt hnc (by simp) (by have h := HLN.out; rw [← HR.out] at h; exact h))
    have HJ2 : Hid (Calls Tryd.prog 8 #[.slice (some ⟨g, 0, none⟩) 6 cap, .string ⟨#[32]⟩] w5 fun e w' => e = .returned (.string (txt (faultT tx ev er))) ∧ Ext w5 w') := Hid.mk' (by rw [← HR.out]; exact HJ.out)
    clear hown' hown2 hgrow hg hBl hBk hnc htk HJ
    go_wp2_with (go_at_call 8; refine HJ2.out.mono ?_; rintro e w6 ⟨rfl, hb6⟩)
    go_ret
    exact ⟨rfl, HE5.out.trans hb6⟩

end Go.Proofs.YthdjinicmnhgpaaDoor
