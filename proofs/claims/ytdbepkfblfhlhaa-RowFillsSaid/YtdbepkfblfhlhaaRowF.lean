/-
The walk of RowFills.
-/
import Derived.Test.YtdbepkfblfhlhaaP16
namespace Go.Proofs.Ytdbepkfblfhlhaa
open Go.RowKit

theorem nilCols (w : World) : Sl w (.slice none 0 0) 3 (([] : List Col).map Col.cells) := ⟨none, 0, rfl, .inl rfl⟩
theorem fillW_len {l : List K} {hs : List Ho} {ts : List ByteArray} : (fillW l hs ts).length ≤ l.length := by
  unfold fillW; split
  · rw [fillUp_len]; exact Nat.le_refl _
  · exact Nat.zero_le _

set_option maxRecDepth 100000 in set_option maxHeartbeats 8000000 in
theorem rowfills_any (l : List K) (hs : List Ho) (ts : List ByteArray) (a ah at' : Option Addr) (cap ch ct : Nat) (w : World) (hl : Sl w (.slice a l.length cap) 6 (l.map K.rc)) (hnil : a = none → cap = 0) (hh : Sl w (.slice ah hs.length ch) 2 (hs.map Ho.cells)) (ht : Sl w (.slice at' ts.length ct) 1 (ts.map strC))
    (hlen : l.length ≤ 9223372036854775807) (hlen2 : hs.length ≤ 9223372036854775807) (_hlen3 : ts.length ≤ 9223372036854775807) (hs0 : ∀ c ∈ l, c.wk) (hsz : ∀ t ∈ ts, t.size ≤ 9223372036854775807) :
    Calls Try.prog 10 #[.slice a l.length cap, .slice ah hs.length ch, .slice at' ts.length ct] w fun e w' => e = .returned (.bool true) ∧ Ext w w' := by
  obtain ⟨i0, hi, hz0, hz1, hz2⟩ := info_parts Try.infoHole
  have HG := Hid.mk' (fun W (h : Ext w W) => greatK_any l a cap 0 0 ⟨#[]⟩ 0 [] none 0 W (hl.ext h) (nilCols W) hlen (Nat.zero_le _) (fun c hc => (hs0 c hc).s) (fun c hc => by cases hc) (by decide))
  have HOW := Hid.mk' (fun W (h : Ext w W) (hn : l.length ≤ 1000) => ownK_any l a cap W (hl.ext h) hn)
  obtain ⟨M, hM⟩ : ∃ M, M = fillW l hs ts := ⟨_, rfl⟩
  obtain ⟨E, hE⟩ : ∃ E, E = fillE l hs ts := ⟨_, rfl⟩
  have hml : M.length ≤ l.length := by rw [hM]; exact fillW_len
  have HFL := Hid.mk' (fun W a1 c1 ah2 ch2 (h1 : Sl W (.slice a1 l.length c1) 5 (l.map K.pc)) (h2 : Sl W (.slice ah2 hs.length ch2) 2 (hs.map Ho.cells)) (h : Ext w W) n1 n2 n3 => fill_any l hs ts a1 ah2 at' c1 ch2 ct W h1 h2 (ht.ext h) n1 n2 n3 hsz)
  have HRF := Hid.mk' (fun W (h : Ext w W) n1 n2 n3 => rfill_any l hs ts a ah at' cap ch ct W (hl.ext h) hnil (hh.ext h) (ht.ext h) n1 n2 n3 hsz)
  unfold FillPost at HFL
  unfold RFillPost at HRF
  rw [← hM, ← hE] at HFL HRF
  have HBM := Hid.mk' (fun (hm : M.length ≤ 1000) W b c (h : Sl W (.slice b M.length c) 5 (M.map K.pc)) => backK_any M b c W h hm)
  have HBL := Hid.mk' (fun (hm : l.length ≤ 1000) W b c (h : Sl W (.slice b l.length c) 5 (l.map K.pc)) => backK_any l b c W h hm)
  have HMM := Hid.mk' (fun (hm : M.length ≤ 1000) W b b' c c' (h : Sl W (.slice b M.length c) 6 (M.map K.rc)) (h' : Sl W (.slice b' M.length c') 6 (M.map K.rc)) => rsame_any M M b b' c c' W h h' hm hm)
  have HLL := Hid.mk' (fun (hm : l.length ≤ 1000) W b c (h : Sl W (.slice b l.length c) 6 (l.map K.rc)) (h' : Ext w W) => rsame_any l l b a c cap W h (hl.ext h') hm hm)
  have HLM := Hid.mk' (fun (hm : l.length ≤ 1000) (hm2 : M.length ≤ 1000) W b c (h : Sl W (.slice b M.length c) 6 (M.map K.rc)) (h' : Ext w W) => rsame_any l M a b cap c W (hl.ext h') h hm hm2)
  have HAK := Hid.mk' (fun (hm : l.length ≤ 1000) (hm2 : M.length ≤ 1000) W b b' c c' (h : Sl W (.slice b l.length c) 5 (l.map K.pc)) (h' : Sl W (.slice b' M.length c') 5 (M.map K.pc)) => alike_any l M b b' c c' W h h' hm hm2)
  rw [rowB_true.2 rfl] at HMM HLL
  obtain ⟨B, hB⟩ : ∃ B, B = rowB l M := ⟨_, rfl⟩
  rw [← hB] at HLM HAK
  have HH := Hid.mk' hh
  have HT := Hid.mk' ht
  have HSZ := Hid.mk' hsz
  clear hl hh ht hsz hs0 hM hE hB hnil
  go_enter Try.func10, Try.ntmps10
  go_upto_region 3 with (first
    | (go_at_call 14; refine (HG.out _ (by (repeat (with_reducible (first | exact Ext.refl _ | assumption | exact held_left (by assumption) | apply Ext.drewN | apply Ext.drew | apply Ext.alloc | (refine Ext.setCell ?_ (by first | (simp; done) | (simp; omega) | omega) _) | (refine Ext.trans ?_ (by assumption)) | (refine Ext.trans ?_ (held_left (by assumption)))))))).mono ?_; rintro e w1 ⟨g, rfl, hg, hb1⟩; have HB := Hid.mk' hg; clear hg; cases g))
  all_goals try (go_ret; exact ⟨rfl, by (repeat (with_reducible (first | exact Ext.refl _ | assumption | exact held_left (by assumption) | apply Ext.drewN | apply Ext.drew | apply Ext.alloc | (refine Ext.setCell ?_ (by first | (simp; done) | (simp; omega) | omega) _) | (refine Ext.trans ?_ (by assumption)) | (refine Ext.trans ?_ (held_left (by assumption))))))⟩)
  have hn1 : l.length ≤ 20 := (HB.out (by first | exact rfl | exact trivial)).2.2.1
  have HE1 := Hid.mk' hb1
  clear HB HG hb1 hlen hlen2 _hlen3
  go_wp2
  go_loopw [7, 8] (fun v i wr => ∃ k : Nat, k ≤ hs.length ∧ i = .int .i64 k ∧ Hid (wr.ownsRow w.heap.size 98 2 v k ((hs.map Ho.cells).take k).flatten) ∧ Hid (Ext w wr)) (fun _ i _ => hs.length - (intOf i).toNat)
  case atStart => exact ⟨0, Nat.zero_le _, rfl, World.ownsRow_nil _ _ _ _, HE1⟩
  case round =>
    obtain ⟨k, hk, rfl, hown, hE⟩ := hrel
    by_cases hlt : k < hs.length
    · obtain ⟨b, o, rfl, hb, hx⟩ := HH.out.at_ (i := k) (by simpa using hlt)
      obtain ⟨f0, f1⟩ := Ho.at_ hlt hx hb hE.out
      have hbw : b < wr.heap.size := Nat.lt_of_lt_of_le hb hE.out.size
      have hT := Hid.mk' (flat_snoc (f := Ho.cells) hlt)
      obtain ⟨c, hcc⟩ : ∃ c, c = hs[k] := ⟨_, rfl⟩
      rw [← hcc] at f0 f1 hT
      clear hcc hx
      go_wp2
      refine wp_region_head 13 (fun w' => Ext (wr) w' ∧ (∀ b o, b < (wr).heap.size → w'.cell? ⟨b, o, none⟩ = (wr).cell? ⟨b, o, none⟩) ∧ (∀ b o, b < (wr).heap.size → w'.frozen? ⟨b, o, none⟩ = (wr).frozen? ⟨b, o, none⟩)) (by kernel_rfl) (by decide) ?_
      have hA0 : Hid ((fun w' => Ext (wr) w' ∧ (∀ b o, b < (wr).heap.size → w'.cell? ⟨b, o, none⟩ = (wr).cell? ⟨b, o, none⟩) ∧ (∀ b o, b < (wr).heap.size → w'.frozen? ⟨b, o, none⟩ = (wr).frozen? ⟨b, o, none⟩)) wr.drew) := held_of (by (repeat (with_reducible (first | exact Ext.refl _ | assumption | exact held_left (by assumption) | apply Ext.drewN | apply Ext.drew | apply Ext.alloc | (refine Ext.setCell ?_ (by first | (simp; done) | (simp; omega) | omega) _) | (refine Ext.trans ?_ (by assumption)) | (refine Ext.trans ?_ (held_left (by assumption)))))))
      (refine wpHd_take (i := 0) (v := ?_) rfl (by kernel_rfl) (by kernel_rfl) (by kernel_rfl) (fun _ _ _ h => h) (Or.inl ⟨by rfl, ?_⟩) hA0.out ?_; rotate_left 1; · (intro w' hS'; (obtain ⟨hEs', hcs', hfs'⟩ := hS'); go_simp; try with_reducible rfl))
      (refine wpHd_take (i := 1) (v := ?_) rfl (by kernel_rfl) (by kernel_rfl) (by kernel_rfl) (fun _ _ _ h => h) (Or.inl ⟨by rfl, ?_⟩) hA0.out ?_; rotate_left 1; · (intro w' hS'; (obtain ⟨hEs', hcs', hfs'⟩ := hS'); go_simp; try with_reducible rfl))
      (refine wpHd_take (i := 2) (v := ?_) rfl (by kernel_rfl) (by kernel_rfl) (by kernel_rfl) (fun _ _ _ h => h) (Or.inl ⟨by rfl, ?_⟩) hA0.out ?_; rotate_left 1; · (intro w' hS'; (obtain ⟨hEs', hcs', hfs'⟩ := hS'); go_simp; try with_reducible rfl))
      (refine wpHd_take (i := 3) (v := ?_) rfl (by kernel_rfl) (by kernel_rfl) (by kernel_rfl) (fun _ _ _ h => h) (Or.inl ⟨by rfl, ?_⟩) hA0.out ?_; rotate_left 1; · (intro w' hS'; (obtain ⟨hEs', hcs', hfs'⟩ := hS'); go_simp; try with_reducible rfl))
      (refine wpHd_take (i := 4) (v := ?_) rfl (by kernel_rfl) (by kernel_rfl) (by kernel_rfl) (fun _ _ _ h => h) (Or.inl ⟨by rfl, ?_⟩) hA0.out ?_; rotate_left 1; · (intro w' hS'; (obtain ⟨hEs', hcs', hfs'⟩ := hS'); go_simp; try with_reducible rfl))
      (refine wpHd_take (i := 5) (v := ?_) rfl (by kernel_rfl) (by kernel_rfl) (by kernel_rfl) (fun _ _ _ h => h) (Or.inl ⟨by rfl, ?_⟩) hA0.out ?_; rotate_left 1; · (intro w' hS'; (obtain ⟨hEs', hcs', hfs'⟩ := hS'); go_simp; try with_reducible rfl))
      (refine wpHd_take (i := 6) (v := ?_) rfl (by kernel_rfl) (by kernel_rfl) (by kernel_rfl) (fun _ _ _ h => h) (Or.inl ⟨by rfl, ?_⟩) hA0.out ?_; rotate_left 1; · (intro w' hS'; (obtain ⟨hEs', hcs', hfs'⟩ := hS'); go_simp; try with_reducible rfl))
      (refine wpHd_take (i := 7) (v := ?_) rfl (by kernel_rfl) (by kernel_rfl) (by kernel_rfl) (fun _ _ _ h => h) (Or.inl ⟨by rfl, ?_⟩) hA0.out ?_; rotate_left 1; · (intro w' hS'; (obtain ⟨hEs', hcs', hfs'⟩ := hS'); go_simp; try with_reducible rfl))
      (refine wpHd_take (i := 8) (v := ?_) rfl (by kernel_rfl) (by kernel_rfl) (by kernel_rfl) (fun _ _ _ h => h) (Or.inl ⟨by rfl, ?_⟩) hA0.out ?_; rotate_left 1; · (intro w' hS'; (obtain ⟨hEs', hcs', hfs'⟩ := hS'); go_simp; try with_reducible rfl))
      (refine wpHd_take (i := 9) (v := ?_) rfl (by kernel_rfl) (by kernel_rfl) (by kernel_rfl) (fun _ _ _ h => h) (Or.inl ⟨by rfl, ?_⟩) hA0.out ?_; rotate_left 1; · (intro w' hS'; (obtain ⟨hEs', hcs', hfs'⟩ := hS'); go_simp; try with_reducible rfl))
      (refine wpHd_take (i := 10) (v := ?_) rfl (by kernel_rfl) (by kernel_rfl) (by kernel_rfl) (fun _ _ _ h => h) (Or.inl ⟨by rfl, ?_⟩) hA0.out ?_; rotate_left 1; · (intro w' hS'; (obtain ⟨hEs', hcs', hfs'⟩ := hS'); go_simp; try with_reducible rfl))
      (refine wpHd_take (i := 11) (v := ?_) rfl (by kernel_rfl) (by kernel_rfl) (by kernel_rfl) (fun _ _ _ h => h) (Or.inl ⟨by rfl, ?_⟩) hA0.out ?_; rotate_left 1; · (intro w' hS'; (obtain ⟨hEs', hcs', hfs'⟩ := hS'); go_simp; try with_reducible rfl))
      refine wpHd_one (i := 12) rfl rfl (by kernel_rfl) (fun K hK => ?_)
      go_simp
      refine hK.out _ _ (held_of (by (repeat (with_reducible (first | exact Ext.refl _ | assumption | exact held_left (by assumption) | apply Ext.drewN | apply Ext.drew | apply Ext.alloc | (refine Ext.setCell ?_ (by first | (simp; done) | (simp; omega) | omega) _) | (refine Ext.trans ?_ (by assumption)) | (refine Ext.trans ?_ (held_left (by assumption)))))))) (fun hA => ?_)
      clear hK K hA hA0
      refine wpHd_tail (by kernel_rfl) ?_
      simp only [List.drop_succ_cons, List.drop_zero]
      go_wp2_with (at_builtin; refine wpList_append_own _ rfl _ _ 93 rfl w.heap.size 98 i0 _ 2 16 Try.underlying93 hi hz0 hz1 hz2 rfl (by decide) _ _ _ rfl (owns_ext hown.out (by (repeat (with_reducible (first | exact Ext.refl _ | assumption | exact held_left (by assumption) | apply Ext.drewN | apply Ext.drew | apply Ext.alloc | (refine Ext.setCell ?_ (by first | (simp; done) | (simp; omega) | omega) _) | (refine Ext.trans ?_ (by assumption)) | (refine Ext.trans ?_ (held_left (by assumption)))))))) ⟨_, 0, none⟩ 1 1 c.cells rfl rfl ?c1 ?c2 ?c3 ?c4 ?c5 ?_)
      case c1 => exact cells_new _ #[.int .i64 c.c, .int .i64 c.n] _
      case c2 => intro u hu; simp [Ho.cells] at hu; rcases hu with rfl | rfl <;> rfl
      case c3 => unfold maxLen; omega
      case c4 => omega
      case c5 => have := hE.out.size; simp; omega
      intro v' w2 hown' hgrow _
      have HE2 := Hid.mk' (Below.grown ((hE.out.drew).alloc (.cells #[.int .i64 c.c, .int .i64 c.n] 98)) hgrow (by have := hE.out.size; simp; omega) (fun g hg => (World.ownsRow.lt hown.out g hg).1))
      have HO2 := Hid.mk' hown'
      clear hown' hgrow
      go_wp2
      go_roundw
      case rel => exact ⟨k + 1, by omega, by go_num, Hid.mk' (by rw [hT.out]; exact HO2.out), HE2⟩
      case measure => simp [intOf]; omega
    · have hkk : k = hs.length := by omega
      subst hkk
      rw [show hs.length = (hs.map Ho.cells).length by simp, List.take_length] at hown
      rw [List.length_map] at hown
      obtain ⟨ah2, ch2, rfl⟩ := owns_shape hown.out
      have HO := Hid.mk' (Sl.of_owns (base := w.heap.size) (e := 98) (xss := hs.map Ho.cells) (by rw [List.length_map]; exact hown.out) (by intro xs hxs; simp at hxs; obtain ⟨a, _, rfl⟩ := hxs; rfl))
      have HE2 := hE
      clear hown hE HE1
      go_wp2
      rename World => wq
      go_loopw [9] (fun i wr => ∃ k : Nat, k ≤ ts.length ∧ i = .int .i64 k ∧ Hid (Ext wq wr)) (fun i _ => ts.length - (intOf i).toNat)
      case atStart => exact ⟨0, Nat.zero_le _, rfl, Hid.mk' (Ext.refl _)⟩
      case round =>
        obtain ⟨k, hk, rfl, hE⟩ := hrel
        by_cases hlt : k < ts.length
        · obtain ⟨b, o, rfl, hb, hx⟩ := HT.out.at_ (i := k) (by simpa using hlt)
          have f0 := str_at hlt hx hb (HE2.out.trans hE.out)
          have hbw : b < wr.heap.size := Nat.lt_of_lt_of_le hb (HE2.out.trans hE.out).size
          have hsz := HSZ.out _ (List.getElem_mem hlt)
          clear hx
          by_cases h3 : 3000 < ts[k].size
          · go_wp2
            go_ret
            exact ⟨rfl, HE2.out.trans hE.out⟩
          · go_wp2
            go_roundw
            case rel => exact ⟨k + 1, by omega, by go_num, hE⟩
            case measure => simp [intOf]; omega
        · have hkk : k = ts.length := by omega
          subst hkk
          have hEw : Ext w wr := HE2.out.trans hE.out
          have HO2 := Hid.mk' (HO.out.ext hE.out)
          have HBM2 := HBM.out (by omega)
          have HBL2 := HBL.out (by omega)
          have HMM2 := HMM.out (by omega)
          have HLL2 := HLL.out (by omega)
          have HLM2 := HLM.out (by omega) (by omega)
          have HAK2 := HAK.out (by omega) (by omega)
          have HB1 := Hid.mk' HBM2
          have HB2 := Hid.mk' HBL2
          have HS1 := Hid.mk' HMM2
          have HS2 := Hid.mk' HLL2
          have HS3 := Hid.mk' HLM2
          have HA1 := Hid.mk' HAK2
          clear HBM2 HBL2 HMM2 HLL2 HLM2 HAK2 HBM HBL HMM HLL HLM HAK HH HT HSZ hE HO HE2
          go_upto_region 16 with (first
            | (go_at_call 15; refine (HOW.out _ (by (repeat (with_reducible (first | exact Ext.refl _ | assumption | exact held_left (by assumption) | apply Ext.drewN | apply Ext.drew | apply Ext.alloc | (refine Ext.setCell ?_ (by first | (simp; done) | (simp; omega) | omega) _) | (refine Ext.trans ?_ (by assumption)) | (refine Ext.trans ?_ (held_left (by assumption))))))) (by omega)).mono ?_; rintro e w1 ⟨a1, c1, rfl, -, hs1, hb1⟩; have H1 := Hid.mk' hs1; clear hs1)
            | (go_at_call 47; refine (HFL.out _ _ _ _ _ H1.out (HO2.out.ext (by (repeat (with_reducible (first | exact Ext.refl _ | assumption | exact held_left (by assumption) | apply Ext.drewN | apply Ext.drew | apply Ext.alloc | (refine Ext.setCell ?_ (by first | (simp; done) | (simp; omega) | omega) _) | (refine Ext.trans ?_ (by assumption)) | (refine Ext.trans ?_ (held_left (by assumption)))))))) (by (repeat (with_reducible (first | exact Ext.refl _ | assumption | exact held_left (by assumption) | apply Ext.drewN | apply Ext.drew | apply Ext.alloc | (refine Ext.setCell ?_ (by first | (simp; done) | (simp; omega) | omega) _) | (refine Ext.trans ?_ (by assumption)) | (refine Ext.trans ?_ (held_left (by assumption))))))) (by omega) (by omega) (by omega)).mono ?_; rintro e w2 ⟨a2, c2, rfl, hs2, hb2⟩; have H2 := Hid.mk' hs2; clear hs2)
            | (go_at_call 48; refine (HRF.out _ (by (repeat (with_reducible (first | exact Ext.refl _ | assumption | exact held_left (by assumption) | apply Ext.drewN | apply Ext.drew | apply Ext.alloc | (refine Ext.setCell ?_ (by first | (simp; done) | (simp; omega) | omega) _) | (refine Ext.trans ?_ (by assumption)) | (refine Ext.trans ?_ (held_left (by assumption))))))) (by omega) (by omega) (by omega)).mono ?_; rintro e w3 ⟨a3, c3, rfl, hs3, hb3⟩; have H3 := Hid.mk' hs3; clear hs3))
          have HE3 := Hid.mk' (show Ext w w3 by (repeat (with_reducible (first | exact Ext.refl _ | assumption | exact held_left (by assumption) | apply Ext.drewN | apply Ext.drew | apply Ext.alloc | (refine Ext.setCell ?_ (by first | (simp; done) | (simp; omega) | omega) _) | (refine Ext.trans ?_ (by assumption)) | (refine Ext.trans ?_ (held_left (by assumption)))))))
          have H13 := Hid.mk' (H1.out.ext (show Ext w1 w3 by (repeat (with_reducible (first | exact Ext.refl _ | assumption | exact held_left (by assumption) | apply Ext.drewN | apply Ext.drew | apply Ext.alloc | (refine Ext.setCell ?_ (by first | (simp; done) | (simp; omega) | omega) _) | (refine Ext.trans ?_ (by assumption)) | (refine Ext.trans ?_ (held_left (by assumption))))))))
          have H23 := Hid.mk' (H2.out.ext (show Ext w2 w3 by (repeat (with_reducible (first | exact Ext.refl _ | assumption | exact held_left (by assumption) | apply Ext.drewN | apply Ext.drew | apply Ext.alloc | (refine Ext.setCell ?_ (by first | (simp; done) | (simp; omega) | omega) _) | (refine Ext.trans ?_ (by assumption)) | (refine Ext.trans ?_ (held_left (by assumption))))))))
          clear hb1 hb2 hb3 hEw H1 H2 HO2
          go_wp2_with (first
            | (go_at_call_of 24 (Value.slice a2 M.length c2); refine (HB1.out _ _ _ (H23.out.ext (by (repeat (with_reducible (first | exact Ext.refl _ | assumption | exact held_left (by assumption) | apply Ext.drewN | apply Ext.drew | apply Ext.alloc | (refine Ext.setCell ?_ (by first | (simp; done) | (simp; omega) | omega) _) | (refine Ext.trans ?_ (by assumption)) | (refine Ext.trans ?_ (held_left (by assumption))))))))).mono ?_; rintro e w4 ⟨a4, c4, rfl, -, hs4, hb4⟩; have H4 := Hid.mk' hs4; clear hs4)
            | (go_at_call_of 24 (Value.slice a1 l.length c1); refine (HB2.out _ _ _ (H13.out.ext (by (repeat (with_reducible (first | exact Ext.refl _ | assumption | exact held_left (by assumption) | apply Ext.drewN | apply Ext.drew | apply Ext.alloc | (refine Ext.setCell ?_ (by first | (simp; done) | (simp; omega) | omega) _) | (refine Ext.trans ?_ (by assumption)) | (refine Ext.trans ?_ (held_left (by assumption))))))))).mono ?_; rintro e w6 ⟨a6, c6, rfl, -, hs6, hb6⟩; have H6 := Hid.mk' hs6; clear hs6)
            | (go_at_call_of 23 (Value.slice a4 M.length c4); refine (HS1.out _ _ _ _ _ (H4.out.ext (by (repeat (with_reducible (first | exact Ext.refl _ | assumption | exact held_left (by assumption) | apply Ext.drewN | apply Ext.drew | apply Ext.alloc | (refine Ext.setCell ?_ (by first | (simp; done) | (simp; omega) | omega) _) | (refine Ext.trans ?_ (by assumption)) | (refine Ext.trans ?_ (held_left (by assumption)))))))) (H3.out.ext (by (repeat (with_reducible (first | exact Ext.refl _ | assumption | exact held_left (by assumption) | apply Ext.drewN | apply Ext.drew | apply Ext.alloc | (refine Ext.setCell ?_ (by first | (simp; done) | (simp; omega) | omega) _) | (refine Ext.trans ?_ (by assumption)) | (refine Ext.trans ?_ (held_left (by assumption))))))))).mono ?_; rintro e w5 ⟨rfl, hb5⟩)
            | (go_at_call_of 23 (Value.slice a6 l.length c6); refine (HS2.out _ _ _ (H6.out.ext (by (repeat (with_reducible (first | exact Ext.refl _ | assumption | exact held_left (by assumption) | apply Ext.drewN | apply Ext.drew | apply Ext.alloc | (refine Ext.setCell ?_ (by first | (simp; done) | (simp; omega) | omega) _) | (refine Ext.trans ?_ (by assumption)) | (refine Ext.trans ?_ (held_left (by assumption)))))))) (HE3.out.trans (by (repeat (with_reducible (first | exact Ext.refl _ | assumption | exact held_left (by assumption) | apply Ext.drewN | apply Ext.drew | apply Ext.alloc | (refine Ext.setCell ?_ (by first | (simp; done) | (simp; omega) | omega) _) | (refine Ext.trans ?_ (by assumption)) | (refine Ext.trans ?_ (held_left (by assumption))))))))).mono ?_; rintro e w7 ⟨rfl, hb7⟩)
            | (go_at_call_of 23 (Value.slice a l.length cap); refine (HS3.out _ _ _ (H3.out.ext (by (repeat (with_reducible (first | exact Ext.refl _ | assumption | exact held_left (by assumption) | apply Ext.drewN | apply Ext.drew | apply Ext.alloc | (refine Ext.setCell ?_ (by first | (simp; done) | (simp; omega) | omega) _) | (refine Ext.trans ?_ (by assumption)) | (refine Ext.trans ?_ (held_left (by assumption)))))))) (HE3.out.trans (by (repeat (with_reducible (first | exact Ext.refl _ | assumption | exact held_left (by assumption) | apply Ext.drewN | apply Ext.drew | apply Ext.alloc | (refine Ext.setCell ?_ (by first | (simp; done) | (simp; omega) | omega) _) | (refine Ext.trans ?_ (by assumption)) | (refine Ext.trans ?_ (held_left (by assumption))))))))).mono ?_; rintro e w9 ⟨rfl, hb9⟩)
            | (go_at_call 32; refine (HA1.out _ _ _ _ _ (H13.out.ext (by (repeat (with_reducible (first | exact Ext.refl _ | assumption | exact held_left (by assumption) | apply Ext.drewN | apply Ext.drew | apply Ext.alloc | (refine Ext.setCell ?_ (by first | (simp; done) | (simp; omega) | omega) _) | (refine Ext.trans ?_ (by assumption)) | (refine Ext.trans ?_ (held_left (by assumption)))))))) (H23.out.ext (by (repeat (with_reducible (first | exact Ext.refl _ | assumption | exact held_left (by assumption) | apply Ext.drewN | apply Ext.drew | apply Ext.alloc | (refine Ext.setCell ?_ (by first | (simp; done) | (simp; omega) | omega) _) | (refine Ext.trans ?_ (by assumption)) | (refine Ext.trans ?_ (held_left (by assumption))))))))).mono ?_; rintro e w8 ⟨rfl, hb8⟩)
            | (go_at_call 46; refine (awake10_any _).mono ?_; rintro e w10 ⟨rfl, hb10⟩))
          go_ret
          exact ⟨rfl, HE3.out.trans (by (repeat (with_reducible (first | exact Ext.refl _ | assumption | exact held_left (by assumption) | apply Ext.drewN | apply Ext.drew | apply Ext.alloc | (refine Ext.setCell ?_ (by first | (simp; done) | (simp; omega) | omega) _) | (refine Ext.trans ?_ (by assumption)) | (refine Ext.trans ?_ (held_left (by assumption)))))))⟩

end Go.Proofs.Ytdbepkfblfhlhaa
