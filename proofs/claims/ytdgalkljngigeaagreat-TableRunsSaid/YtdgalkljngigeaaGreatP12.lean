/-
What an event of a row makes of a table: the program's.
-/
import Derived.Maps.AppendAt
import Derived.Test.YtdgalkljngigeaaGreatP11
namespace Go.Proofs.YtdgalkljngigeaaGreat
open Go.RowKit

def TRowsPost (cols : List Col) (ls : List (List K)) (e0 : Ev) (w : World) (e : Ending) (w' : World) : Prop := ∃ v', e = .returned (.tuple #[v', .int .i64 (rowsE cols ls e0)]) ∧ RwA 5 K.pc w' v' (rowsL cols ls e0) ∧ Ext w w'
theorem TRowsPost.bad {cols : List Col} {ls : List (List K)} {e0 : Ev} {w w' : World} {E : Int} (h : rowsE cols ls e0 = E) (h0 : E ≠ 0) (he : Ext w w') : TRowsPost cols ls e0 w (.returned (.tuple #[.slice none 0 0, .int .i64 E])) w' := by
  refine ⟨_, by rw [h], ?_, he⟩
  unfold rowsL
  rw [h, if_pos h0]
  exact RwA.nil w'
theorem TRowsPost.good {cols : List Col} {ls m : List (List K)} {e0 : Ev} {w w' : World} {v' : Value} (h : rowsE cols ls e0 = 0) (hl : rowsL cols ls e0 = m) (hr : RwA 5 K.pc w' v' m) (he : Ext w w') : TRowsPost cols ls e0 w (.returned (.tuple #[v', .int .i64 0])) w' :=
  ⟨_, by rw [h], by rw [hl]; exact hr, he⟩
theorem owns_pos {W : World} {base n c : Nat} {e : TypeId} {size : Nat} {a : Option Addr} {xs : List Value} (h : W.ownsRow base e size (.slice a n c) n xs) (h0 : 0 < n) : ∃ g, a = some ⟨g, 0, none⟩ ∧ base ≤ g ∧ n ≤ c ∧ c ≤ 9223372036854775807 := by
  rcases h.2 with ⟨-, h1⟩ | ⟨g, cap', cur, hv, hg, -, hn, hm, -⟩
  · omega
  · simp only [Value.slice.injEq] at hv
    obtain ⟨h1, -, rfl⟩ := hv
    exact ⟨g, h1, hg, hn, hm⟩

set_option maxRecDepth 100000 in set_option maxHeartbeats 8000000 in
theorem trows_any (oid ver : Int) (nm : ByteArray) (id : Int) (cols : List Col) (a2 : Option Addr) (cap2 : Nat) (x : EL) (a : Option Addr) (c : Nat) (qs : List PR) (w : World) (hl2 : Sl w (.slice a2 cols.length cap2) 3 (cols.map Col.cells)) (hlen2 : cols.length ≤ 1000) (hx : x.at 5 K.pc w) (hs : x.e.small) (h : RS 5 K.pc w (.slice a qs.length c) qs) (hn : qs.length ≤ 1000) (hm : ∀ q ∈ qs, q.l.length ≤ 1000) :
    Calls Tryz.prog 41 #[.agg #[.int .u32 oid, .int .u32 ver, .string nm, .int .u8 id, .slice a2 cols.length cap2], .slice a qs.length c, x.agg] w (TRowsPost cols (qs.map PR.l) x.e w) := by
  obtain ⟨i0, hi, hz0, hz1, hz2⟩ := info_parts Tryz.infoRowP
  have HQS := Hid.mk' h
  have HTI := Hid.mk' (fun W (he : Ext w W) => taken_any oid ver nm id cols a2 cap2 x.e.a x.aa x.ac (-1) a c qs W (hl2.ext he) hlen2 (hx.a.ext he) hs.a (h.ext he) hn hm)
  have HTU := Hid.mk' (fun (key : List K) (ka : Option Addr) (kc : Nat) (but : Int) W (he : Ext w W) (hk : Sl W (.slice ka key.length kc) 5 (key.map K.pc)) (hkn : key.length ≤ 1000) => taken_any oid ver nm id cols a2 cap2 key ka kc but a c qs W (hl2.ext he) hlen2 hk hkn (h.ext he) hn hm)
  have HFD := Hid.mk' (fun W (he : Ext w W) => found_any oid ver nm id cols a2 cap2 x a c qs W (hl2.ext he) hlen2 (hx.ext he) hs (h.ext he) hn hm)
  have HCL := Hid.mk' (fun W (he : Ext w W) => clonePR_any qs a c W (h.row.ext he) hn)
  have HCK := Hid.mk' (fun W (he : Ext w W) => clonek_any x.e.a x.aa x.ac W (hx.a.ext he) hs.a)
  have HMG := Hid.mk' (fun k (hlt : k < qs.length) W (he : Ext w W) => merge_any qs[k].l x.e.a qs[k].a x.aa qs[k].c x.ac W (PR.row h hlt he) (hx.a.ext he) (hm _ (List.getElem_mem hlt)) hs.a)
  have HAL := Hid.mk' (atI_lt cols (qs.map PR.l) x.e)
  have HA1 := Hid.mk' hs.a
  rw [List.length_map] at HAL
  clear hl2 hx hs h
  obtain ⟨⟨k1, ao1, av1, old1, b1, a1, r1, fl1⟩, ba1, bc1, aa1, ac1, ra1, rc1⟩ := x
  unfold EL.agg at HFD ⊢
  simp only at HTI HFD HCK HMG HAL HA1 ⊢
  obtain ⟨ls, hls⟩ : ∃ ls, ls = qs.map PR.l := ⟨_, rfl⟩
  have HLS := Hid.mk' hls
  rw [← hls] at HTI HTU HFD HAL ⊢
  clear hls
  by_cases h4 : k1 = 4
  · subst h4
    have HE : Hid (rowsE cols ls ⟨4, ao1, av1, old1, b1, a1, r1, fl1⟩ = if takenB cols ls a1 (-1) = true then 9 else 0) := Hid.mk' (by unfold rowsE; exact if_pos rfl)
    clear HFD HTU HMG HAL
    cases ht : takenB cols ls a1 (-1) with
    | true =>
      rw [ht] at HTI
      have HE2 := Hid.mk' (HE.out.trans (if_pos ht))
      clear HE ht HCL HCK HLS
      go_enter Tryz.func41, Tryz.ntmps41
      go_wp2_with (go_at_call 67; refine (HTI.out _ (by exact eX)).mono ?_; rintro e w2 ⟨rfl, hb2⟩)
      go_ret2
      exact TRowsPost.bad HE2.out (by decide) (by exact eX)
    | false =>
      rw [ht] at HTI
      have HE2 := Hid.mk' (HE.out.trans (if_neg (by rw [ht]; simp)))
      clear HE ht
      go_enter Tryz.func41, Tryz.ntmps41
      go_upto_region 4 with (go_at_call 67; refine (HTI.out _ (by exact eX)).mono ?_; rintro e w2 ⟨rfl, hb2⟩; have HB2 := Hid.mk' hb2; have HE0 := Hid.mk' (show Ext w w2 by exact eX); clear hb2)
      have HV := Hid.mk' ((Blk.new' (w := w.alloc (.cells #[.int .u32 oid, .int .u32 ver, .string nm, .int .u8 id, .slice a2 cols.length cap2] 99)) (b := w.heap.size + 1) #[.int .u8 4, .int .u32 ao1, .int .u32 av1, .int .u8 old1, .slice ba1 b1.length bc1, .slice aa1 a1.length ac1, .slice ra1 r1.length rc1, .int .u8 fl1] 103 (by simp)).ext HB2.out)
      have gv := HV.out.cell
      have zv := HV.out.lt
      have hA0 : Hid ((fun w' => Ext (w2) w' ∧ (∀ b o, b < (w2).heap.size → w'.cell? ⟨b, o, none⟩ = (w2).cell? ⟨b, o, none⟩) ∧ (∀ b o, b < (w2).heap.size → w'.frozen? ⟨b, o, none⟩ = (w2).frozen? ⟨b, o, none⟩)) w2.drew) := held_of (by exact eX)
      refine wp_region_head 5 (fun w' => Ext (w2) w' ∧ (∀ b o, b < (w2).heap.size → w'.cell? ⟨b, o, none⟩ = (w2).cell? ⟨b, o, none⟩) ∧ (∀ b o, b < (w2).heap.size → w'.frozen? ⟨b, o, none⟩ = (w2).frozen? ⟨b, o, none⟩)) (by kernel_rfl) (by decide) ?_
      refine HG.on 0 19 hA0.out ?_
      try simp only [Act.put, List.setIfInBounds_toArray, List.set_cons_zero, List.set_cons_succ]
      refine HG.on 2 21 hA0.out ?_
      try simp only [Act.put, List.setIfInBounds_toArray, List.set_cons_zero, List.set_cons_succ]
      refine HG.on 3 22 hA0.out ?_
      try simp only [Act.put, List.setIfInBounds_toArray, List.set_cons_zero, List.set_cons_succ]
      refine wpHd_one (i := 1) rfl rfl (by kernel_rfl) (fun KK hK => ?_)
      go_simp
      refine (HCL.out _ (HE0.out.trans (by exact eX))).mono ?_
      rintro e w5 ⟨a5, c5, rfl, ho5, hb5⟩
      have HB5 := Hid.mk' (show Ext w2 w5 by exact eX)
      have HO5 := Hid.mk' ho5
      refine hK.out _ _ (held_of HB5.out) (fun hA => ?_)
      clear hK KK hA ho5 hb5 hA0
      refine wpHd_one (i := 4) rfl rfl (by kernel_rfl) (fun KK hK => ?_)
      go_simp
      refine (HCK.out _ (HE0.out.trans HB5.out)).mono ?_
      rintro e w6 ⟨a6, c6, rfl, ho6, hb6⟩
      have HB6 := Hid.mk' hb6
      have HO6 := Hid.mk' ho6
      refine hK.out _ _ (held_of (HB5.out.trans HB6.out)) (fun hA => ?_)
      clear hK KK hA ho6 hb6
      refine wpHd_tail (by kernel_rfl) ?_
      simp only [List.drop_succ_cons, List.drop_zero]
      have z2 := HE0.out.size
      have hq5 : w2.heap.size ≤ w5.heap.size := HB5.out.size
      have HX6 := Hid.mk' (HE0.out.trans (HB5.out.trans HB6.out))
      have HO5b := Hid.mk' (owns_base (owns_ext HO5.out HB6.out) (show w.heap.size ≤ w2.drew.heap.size from z2))
      go_wp2_with (at_builtin; refine wpList_append_own_at _ rfl _ _ 66 rfl w.heap.size 71 i0 _ 1 24 Tryz.underlying66 hi hz0 hz1 hz2 rfl (by decide) _ _ _ rfl (HO5b.out.alloc _) ⟨_, 0, none⟩ 1 1 (PR.cell ⟨a1, a6, c6⟩) rfl rfl ?c1 ?c2 ?c3 ?c4 ?c5 ?_)
      case c1 => exact cells_new _ #[.slice a6 a1.length c6] _
      case c2 => exact PR.one _
      case c3 => unfold maxLen; omega
      case c4 => omega
      case c5 => have := HX6.out.size; simp at *; omega
      intro v' w7 hown' hgrow _ hat
      have hE6 : Ext w (w6.alloc (.cells #[.slice a6 a1.length c6] 71)) := HX6.out.alloc _
      have HE7 := Hid.mk' (Ext.grown hE6 (HO5b.out.alloc _) hgrow)
      have HK7 := Hid.mk' (show Sl w7 (.slice a6 a1.length c6) 5 (a1.map K.pc) from by
        have h1 : Sl w6 (.slice a6 a1.length c6) 5 (a1.map K.pc) := Sl.of_owns (base := w5.heap.size) (e := 124) (by rw [List.length_map]; exact HO6.out) (by intro xs hxs; simp at hxs; obtain ⟨_, _, rfl⟩ := hxs; rfl)
        refine Sl.grown1 (h1.ext ((Ext.refl w6).alloc _)) hgrow (fun h0 b o e => fun e2 => ?_)
        have h3 := owns_lt3 HO5.out e2
        obtain ⟨g6, e6, hg6, -⟩ := owns_pos HO6.out (by
          rcases Nat.eq_zero_or_pos a1.length with h4 | h4
          · exact absurd (by rw [List.length_eq_zero_iff.1 h4]; rfl) h0
          · exact h4)
        rw [e6] at e; cases e
        omega)
      clear hat hgrow gv zv HV
      have hown2 : w7.ownsRow w.heap.size 71 1 v' (qs ++ [(⟨a1, a6, c6⟩ : PR)]).length ((qs ++ [(⟨a1, a6, c6⟩ : PR)]).map PR.cell).flatten := by simpa using hown'
      obtain ⟨a7, c7, rfl⟩ := owns_shape hown2
      have HR7 := Hid.mk' (show RwA 5 K.pc w7 (.slice a7 (qs ++ [(⟨a1, a6, c6⟩ : PR)]).length c7) (ls ++ [a1]) from ⟨a7, c7, qs ++ [⟨a1, a6, c6⟩], rfl, ⟨Sl.of_owns (base := w.heap.size) (e := 71) (by rw [List.length_map]; exact hown2) (PR.len _), fun q hq => by
        rcases List.mem_append.1 hq with hq | hq
        · exact (HQS.out.sl q hq).ext HE7.out
        · exact (List.mem_singleton.1 hq) ▸ HK7.out, Tag.owns hown2⟩, by rw [HLS.out]; simp⟩)
      clear hown' hown2
      go_wp2
      go_ret2
      exact TRowsPost.good HE2.out (by unfold rowsL; rw [HE2.out, if_neg (by simp)]; exact if_pos rfl) HR7.out HE7.out
  have h4' : (k1 == 4) = false := by simpa using h4
  have HE : Hid (rowsE cols ls (⟨k1, ao1, av1, old1, b1, a1, r1, fl1⟩ : Ev) = if fndE cols ls (⟨k1, ao1, av1, old1, b1, a1, r1, fl1⟩ : Ev) ≠ 0 then fndE cols ls (⟨k1, ao1, av1, old1, b1, a1, r1, fl1⟩ : Ev) else if k1 = 6 then 0 else if takenB cols ls (newR cols ls (⟨k1, ao1, av1, old1, b1, a1, r1, fl1⟩ : Ev)) (atI cols ls (⟨k1, ao1, av1, old1, b1, a1, r1, fl1⟩ : Ev)) = true then 9 else 0) := Hid.mk' (by unfold rowsE; exact if_neg h4)
  have HRL : Hid (rowsE cols ls (⟨k1, ao1, av1, old1, b1, a1, r1, fl1⟩ : Ev) = 0 → rowsL cols ls (⟨k1, ao1, av1, old1, b1, a1, r1, fl1⟩ : Ev) = if k1 = 6 then ls.eraseIdx (atI cols ls (⟨k1, ao1, av1, old1, b1, a1, r1, fl1⟩ : Ev)).toNat else ls.set (atI cols ls (⟨k1, ao1, av1, old1, b1, a1, r1, fl1⟩ : Ev)).toNat (newR cols ls (⟨k1, ao1, av1, old1, b1, a1, r1, fl1⟩ : Ev))) := Hid.mk' (fun q => by unfold rowsL; rw [q, if_neg (by simp)]; exact if_neg h4)
  have HNR : Hid (newR cols ls (⟨k1, ao1, av1, old1, b1, a1, r1, fl1⟩ : Ev) = mergeK (ls.getD (atI cols ls (⟨k1, ao1, av1, old1, b1, a1, r1, fl1⟩ : Ev)).toNat []) a1) := Hid.mk' rfl
  have HFE : Hid (fndE cols ls (⟨k1, ao1, av1, old1, b1, a1, r1, fl1⟩ : Ev) = 0 → 0 ≤ atI cols ls (⟨k1, ao1, av1, old1, b1, a1, r1, fl1⟩ : Ev)) := Hid.mk' (fun q => by
    unfold fndE at q
    split at q
    · cases q
    · split at q
      · cases q
      · omega)
  generalize atI cols ls (⟨k1, ao1, av1, old1, b1, a1, r1, fl1⟩ : Ev) = I at HFD HAL HE HRL HNR HFE
  generalize fndE cols ls (⟨k1, ao1, av1, old1, b1, a1, r1, fl1⟩ : Ev) = E at HFD HE HFE
  by_cases hE0 : E = 0
  case neg =>
    have hE1 : (E != 0) = true := by simpa using hE0
    have HE2 := Hid.mk' (HE.out.trans (if_pos hE0))
    have HN := Hid.mk' hE0
    rw [if_pos hE0] at HFD
    clear HE HRL HNR HFE HTI HTU HCL HCK HMG HAL hE0 h4
    go_enter Tryz.func41, Tryz.ntmps41
    go_wp2_with (go_at_call 69; refine (HFD.out _ (by exact eX)).mono ?_; rintro e w2 ⟨rfl, hb2⟩)
    go_ret2
    exact TRowsPost.bad HE2.out HN.out (by exact eX)
  subst hE0
  rw [if_neg (by simp)] at HFD
  have hI0 := HFE.out rfl
  obtain ⟨k, rfl⟩ := Int.eq_ofNat_of_zero_le hI0
  have hk : k < qs.length := by have := HAL.out.2; omega
  have HE2 := Hid.mk' (HE.out.trans (if_neg (by simp)))
  have hw1 : IntKind.i64.wrap ((k : Int) + 1) = (k : Int) + 1 := by rw [IntKind.wrap_i64]; omega
  clear HE HFE hI0 HTI HCK
  by_cases h6 : k1 = 6
  · subst h6
    have HE3 := Hid.mk' (HE2.out.trans (if_pos rfl))
    have HR3 := Hid.mk' ((HRL.out HE3.out).trans (if_pos rfl))
    clear HE2 HRL HNR HTU HMG h4
    go_enter Tryz.func41, Tryz.ntmps41
    go_wp2_with (first
      | (go_at_call 69; refine (HFD.out _ (by exact eX)).mono ?_; rintro e w2 ⟨rfl, hb2⟩; have HB2 := Hid.mk' hb2; have HV := Hid.mk' ((Blk.new' (w := w.alloc (.cells #[.int .u32 oid, .int .u32 ver, .string nm, .int .u8 id, .slice a2 cols.length cap2] 99)) (b := w.heap.size + 1) #[.int .u8 6, .int .u32 ao1, .int .u32 av1, .int .u8 old1, .slice ba1 b1.length bc1, .slice aa1 a1.length ac1, .slice ra1 r1.length rc1, .int .u8 fl1] 103 (by simp)).ext hb2); have HE0 := Hid.mk' (show Ext w w2 by exact eX); clear hb2)
      | (go_at_call 68; refine (HCL.out _ HE0.out).mono ?_; rintro e w5 ⟨a5, c5, rfl, ho5, hb5⟩; obtain ⟨g, rfl, hg, hc5, hm5⟩ := owns_pos ho5 (by omega); have HB5 := Hid.mk' hb5; have HPA := Hid.mk' (PRAt.of_owns ho5 rfl); have HGG := Hid.mk' hg; have gv := (HV.out.ext hb5).cell; have zv := (HV.out.ext hb5).lt; clear ho5 hb5 hg)
      | (go_at_call 70; refine (show Calls Tryz.prog 70 #[.slice (some ⟨g, 0, none⟩) qs.length c5, .int .i64 k, .int .i64 ((k : Int) + 1)] w5 _ from by simpa using delPR_any qs g c5 k w5 HPA.out hk hc5 hm5).mono ?_; rintro e w6 ⟨rfl, hs6, q6, d6, rfl⟩; have HS6 := Hid.mk' hs6; clear hs6))
    have HE6 := Hid.mk' (ext_putRow (q := q6) d6 (HE0.out.trans HB5.out) (Nat.le_trans HE0.out.size HGG.out))
    go_ret2
    refine TRowsPost.good HE3.out (HR3.out.trans (by rw [Int.toNat_natCast])) ⟨_, c5, qs.eraseIdx k, rfl, ⟨HS6.out, fun q hq => (HQS.out.sl q (List.mem_of_mem_eraseIdx hq)).ext HE6.out, HPA.out.tagPut d6 _ _ _⟩, ?_⟩ HE6.out
    rw [HLS.out, map_erase]
  have h6' : (k1 == 6) = false := by simpa using h6
  have HE3 := Hid.mk' (HE2.out.trans (if_neg h6))
  have HR3 := Hid.mk' (fun q => (HRL.out q).trans (if_neg h6))
  have HGD : Hid (ls.getD k [] = qs[k].l) := Hid.mk' (by rw [HLS.out]; simp [hk])
  rw [Int.toNat_natCast, HGD.out] at HNR
  have HMK := Hid.mk' (fun W h => HMG.out k hk W h)
  clear HE2 HRL HMG h6 h4 HGD
  obtain ⟨b0, o0, rfl, hb0, hx0⟩ := HQS.out.row.at_ (i := k) (by simpa using hk)
  have HF0 := Hid.mk' (fun W (h : Ext w W) => PR.at_ hk hx0 hb0 h)
  have HZ0 := Hid.mk' (fun W (h : Ext w W) => Nat.lt_of_lt_of_le hb0 h.size)
  clear hx0 hb0
  go_enter Tryz.func41, Tryz.ntmps41
  go_upto_region 11 with (first
      | (go_at_call 69; refine (HFD.out _ (by exact eX)).mono ?_; rintro e w2 ⟨rfl, hb2⟩; have HB2 := Hid.mk' hb2; have HU := Hid.mk' (((Blk.new w #[.int .u32 oid, .int .u32 ver, .string nm, .int .u8 id, .slice a2 cols.length cap2] 99).alloc (.cells #[.int .u8 k1, .int .u32 ao1, .int .u32 av1, .int .u8 old1, .slice ba1 b1.length bc1, .slice aa1 a1.length ac1, .slice ra1 r1.length rc1, .int .u8 fl1] 103)).ext hb2); have HV := Hid.mk' ((Blk.new' (w := w.alloc (.cells #[.int .u32 oid, .int .u32 ver, .string nm, .int .u8 id, .slice a2 cols.length cap2] 99)) (b := w.heap.size + 1) #[.int .u8 k1, .int .u32 ao1, .int .u32 av1, .int .u8 old1, .slice ba1 b1.length bc1, .slice aa1 a1.length ac1, .slice ra1 r1.length rc1, .int .u8 fl1] 103 (by simp)).ext hb2); have HE0 := Hid.mk' (show Ext w w2 by exact eX); clear hb2)
      | (go_at_call 68; refine (HCL.out _ HE0.out).mono ?_; rintro e w5 ⟨a5, c5, rfl, ho5, hb5⟩; obtain ⟨g, rfl, hg, hc5, hm5⟩ := owns_pos ho5 (by omega); have HB5 := Hid.mk' hb5; have HPA := Hid.mk' (PRAt.of_owns ho5 rfl); have HGG := Hid.mk' hg; have gv := (HV.out.ext hb5).cell; have zv := (HV.out.ext hb5).lt; clear ho5 hb5 hg))
  have HX5 := Hid.mk' (HE0.out.trans HB5.out)
  have f0 := HF0.out _ HX5.out
  have z0 := HZ0.out _ HX5.out
  have HZR := Hid.mk' (show w.heap.size < w2.heap.size from HU.out.lt)
  have HU5 := Hid.mk' (HU.out.ext HB5.out)
  have hA0 : Hid ((fun w' => Ext (w5) w' ∧ (∀ b o, b < (w5).heap.size → w'.cell? ⟨b, o, none⟩ = (w5).cell? ⟨b, o, none⟩) ∧ (∀ b o, b < (w5).heap.size → w'.frozen? ⟨b, o, none⟩ = (w5).frozen? ⟨b, o, none⟩)) w5.drew) := held_of (by exact eX)
  clear HFD HCL HU HV
  refine wp_region_head 9 (fun w' => Ext (w5) w' ∧ (∀ b o, b < (w5).heap.size → w'.cell? ⟨b, o, none⟩ = (w5).cell? ⟨b, o, none⟩) ∧ (∀ b o, b < (w5).heap.size → w'.frozen? ⟨b, o, none⟩ = (w5).frozen? ⟨b, o, none⟩)) (by kernel_rfl) (by decide) ?_
  refine HG.on 0 46 hA0.out ?_
  try simp only [Act.put, List.setIfInBounds_toArray, List.set_cons_zero, List.set_cons_succ]
  refine HG.on 1 47 hA0.out ?_
  try simp only [Act.put, List.setIfInBounds_toArray, List.set_cons_zero, List.set_cons_succ]
  refine HG.on 2 48 hA0.out ?_
  try simp only [Act.put, List.setIfInBounds_toArray, List.set_cons_zero, List.set_cons_succ]
  refine HG.on 3 49 hA0.out ?_
  try simp only [Act.put, List.setIfInBounds_toArray, List.set_cons_zero, List.set_cons_succ]
  refine HG.on 4 50 hA0.out ?_
  try simp only [Act.put, List.setIfInBounds_toArray, List.set_cons_zero, List.set_cons_succ]
  refine HG.on 5 51 hA0.out ?_
  try simp only [Act.put, List.setIfInBounds_toArray, List.set_cons_zero, List.set_cons_succ]
  refine HG.on 6 52 hA0.out ?_
  try simp only [Act.put, List.setIfInBounds_toArray, List.set_cons_zero, List.set_cons_succ]
  refine HG.on 7 53 hA0.out ?_
  try simp only [Act.put, List.setIfInBounds_toArray, List.set_cons_zero, List.set_cons_succ]
  refine wpHd_one (i := 8) rfl rfl (by kernel_rfl) (fun KK hK => ?_)
  go_simp
  refine (HMK.out _ (HX5.out.trans (by exact eX))).mono ?_
  rintro e w7 ⟨a7, c7, rfl, -, hs7, hb7⟩
  have HB7 := Hid.mk' (show Ext w5 w7 by exact eX)
  have HS7 := Hid.mk' hs7
  refine hK.out _ _ (held_of HB7.out) (fun hA => ?_)
  clear hK KK hA hs7 hb7 hA0 f0 z0 gv zv
  refine wpHd_tail (by kernel_rfl) ?_
  simp only [List.drop_succ_cons, List.drop_zero]
  have HP7 := Hid.mk' (HPA.out.ext HB7.out)
  have p0 := HP7.out.cell hk
  have pf := HP7.out.frozen
  have pz := HP7.out.lt
  have HU7 := Hid.mk' (HU5.out.ext HB7.out)
  have hgw : w.heap.size < g := by have := HGG.out; have := HZR.out; omega
  go_upto_region 12 with (fail)
  obtain ⟨w8, hw8⟩ : ∃ w8, w8 = w7.setCell ⟨g, k, none⟩ (.slice a7 a1.length c7) := ⟨_, rfl⟩
  have HE8 := Hid.mk' (show Ext w w8 by rw [hw8]; exact (HX5.out.trans HB7.out).setCell (by dsimp only; omega) _)
  have HP8 := Hid.mk' (show PRAt w8 g (qs.set k ⟨newR cols ls (⟨k1, ao1, av1, old1, b1, a1, r1, fl1⟩ : Ev), a7, c7⟩) from by
    have := HP7.out.set hk ⟨newR cols ls (⟨k1, ao1, av1, old1, b1, a1, r1, fl1⟩ : Ev), a7, c7⟩
    rw [hw8]; rw [newR_len] at this; exact this)
  have HU8 := Hid.mk' (show Blk w8 w.heap.size #[.int .u32 oid, .int .u32 ver, .string nm, .int .u8 id, .slice a2 cols.length cap2] 99 by rw [hw8]; exact HU7.out.other _ _ (by dsimp only; omega))
  have HS8 := Hid.mk' (show Sl w8 (.slice a7 a1.length c7) 5 ((newR cols ls (⟨k1, ao1, av1, old1, b1, a1, r1, fl1⟩ : Ev)).map K.pc) from by rw [HNR.out, hw8]; exact HS7.out.over (HP7.out.cell hk))
  have HZA := Hid.mk' (show (newR cols ls (⟨k1, ao1, av1, old1, b1, a1, r1, fl1⟩ : Ev)).length = a1.length from newR_len)
  clear p0 pf pz HP7 HU7 HS7 HMK
  rw [← hw8]
  clear hw8
  have hkq : k < (qs.set k (⟨newR cols ls (⟨k1, ao1, av1, old1, b1, a1, r1, fl1⟩ : Ev), a7, c7⟩ : PR)).length := by simpa using hk
  have p0 := HP8.out.cell hkq
  have pz := HP8.out.lt
  rw [List.getElem_set_self] at p0
  simp only [HZA.out] at p0
  have u0 := HU8.out.cell
  have uz := HU8.out.lt
  have HTK := Hid.mk' (fun W (he : Ext w W) (h2 : Ext w8 W) => HTU.out (newR cols ls (⟨k1, ao1, av1, old1, b1, a1, r1, fl1⟩ : Ev)) a7 c7 k W he (by rw [HZA.out]; exact HS8.out.ext h2) (by rw [HZA.out]; exact HA1.out))
  rw [HZA.out] at HTK
  generalize newR cols ls (⟨k1, ao1, av1, old1, b1, a1, r1, fl1⟩ : Ev) = NR at HE3 HR3 HNR HP8 HS8 HTK HZA hkq
  clear HTU HNR
  cases ht : takenB cols ls NR k with
  | true =>
    rw [ht] at HTK
    have HE4 := Hid.mk' (HE3.out.trans (if_pos ht))
    clear HE3 HR3 ht
    go_region_held3 (fun w' => Ext (w8) w' ∧ (∀ b o, b < (w8).heap.size → w'.cell? ⟨b, o, none⟩ = (w8).cell? ⟨b, o, none⟩) ∧ (∀ b o, b < (w8).heap.size → w'.frozen? ⟨b, o, none⟩ = (w8).frozen? ⟨b, o, none⟩)) ((exact held_of (by exact eX)))
      (first | (go_at_call 67; refine (HTK.out _ (HE8.out.trans (by exact eX)) (by exact eX)).mono ?_; rintro e w9 ⟨rfl, hb9⟩; have hE_w9 : Ext (w8) w9 := (by exact eX); obtain ⟨hc_w9, hf_w9⟩ := hE_w9.cells; have hz_w9 := hE_w9.size))
    go_wp2
    go_ret2
    exact TRowsPost.bad HE4.out (by decide) (HE8.out.trans (by exact eX))
  | false =>
    rw [ht] at HTK
    have HE4 := Hid.mk' (HE3.out.trans (if_neg (by rw [ht]; simp)))
    have HR4 := Hid.mk' ((HR3.out HE4.out).trans (by rw [Int.toNat_natCast]))
    clear HE3 HR3 ht
    go_region_held3 (fun w' => Ext (w8) w' ∧ (∀ b o, b < (w8).heap.size → w'.cell? ⟨b, o, none⟩ = (w8).cell? ⟨b, o, none⟩) ∧ (∀ b o, b < (w8).heap.size → w'.frozen? ⟨b, o, none⟩ = (w8).frozen? ⟨b, o, none⟩)) ((exact held_of (by exact eX)))
      (first | (go_at_call 67; refine (HTK.out _ (HE8.out.trans (by exact eX)) (by exact eX)).mono ?_; rintro e w9 ⟨rfl, hb9⟩; have hE_w9 : Ext (w8) w9 := (by exact eX); obtain ⟨hc_w9, hf_w9⟩ := hE_w9.cells; have hz_w9 := hE_w9.size))
    have HE9 := Hid.mk' (show Ext w8 w9 by exact eX)
    have HR9 := Hid.mk' (show RwA 5 K.pc w9 (.slice (some ⟨g, 0, none⟩) qs.length c5) (ls.set k NR) from by
      refine ⟨some ⟨g, 0, none⟩, c5, qs.set k ⟨NR, a7, c7⟩, by rw [List.length_set], ⟨?_, fun q hq => ?_, (HP8.out.ext HE9.out).tag _ _ _⟩, ?_⟩
      · have h1 := (HP8.out.ext HE9.out).row c5
        rwa [List.length_set] at h1
      · rcases List.mem_or_eq_of_mem_set hq with h1 | h1
        · exact (HQS.out.sl q h1).ext (HE8.out.trans HE9.out)
        · rw [h1]
          show Sl w9 (.slice a7 NR.length c7) 5 (NR.map K.pc)
          rw [HZA.out]
          exact HS8.out.ext HE9.out
      · rw [HLS.out, List.map_set])
    go_wp2
    go_ret2
    exact TRowsPost.good HE4.out HR4.out HR9.out (HE8.out.trans HE9.out)

end Go.Proofs.YtdgalkljngigeaaGreat

/-
The program's base in memory: its catalog, its map; what stands while it alone is turned.
-/
namespace Go.Proofs.YtdgalkljngigeaaGreat
open Go.RowKit Go.Maps

/-- The block of a base. -/
def BsAt (W : World) (g cat m : Nat) : Prop := Blk W g #[.pointer (some ⟨cat, 0, none⟩), .map (some m)] 93
def Bs (W : World) (N g : Nat) (ps : List RR) (T : Tb) : Prop := ∃ cat cv m, BsAt W g cat m ∧ Ca W N cat cv ps ∧ MapT W m (ps.map RR.r) T
theorem Bs.ext {W W' : World} {N g : Nat} {ps : List RR} {T : Tb} (h : Bs W N g ps T) (he : Ext W W') : Bs W' N g ps T := by
  obtain ⟨cat, cv, m, h1, h2, h3⟩ := h
  exact ⟨cat, cv, m, Blk.ext h1 he, h2.ext he, h3.ext he⟩
theorem Bs.lt {W : World} {N g : Nat} {ps : List RR} {T : Tb} (h : Bs W N g ps T) : g < W.heap.size := by
  obtain ⟨cat, cv, m, h1, -⟩ := h
  exact Blk.lt h1
/-- A value that is no pointer and no map. -/
def Value.low : Value → Bool
  | .pointer _ => false
  | .map _ => false
  | _ => true
section
variable {W W' : World} {N g cat m : Nat}
theorem BsAt.ext (h : BsAt W g cat m) (he : Ext W W') : BsAt W' g cat m := Blk.ext h he
theorem BsAt.cell0 (h : BsAt W g cat m) : W.cell? ⟨g, 0, none⟩ = some (.pointer (some ⟨cat, 0, none⟩)) := Blk.cell h 0
theorem BsAt.cell1 (h : BsAt W g cat m) : W.cell? ⟨g, 1, none⟩ = some (.map (some m)) := Blk.cell h 1
theorem BsAt.no (h : BsAt W g cat m) {o : Nat} {u : Value} (hu : Value.low u = true) : W.cell? ⟨g, o, none⟩ ≠ some u := by
  intro e
  have h1 := Blk.cell h o
  rw [h1] at e
  match o, e with
  | 0, e => cases e; cases hu
  | 1, e => cases e; cases hu
  | o + 2, e => simp at e
theorem Sl.base {v : Value} {k : Nat} {xss : List (List Value)} (h : Sl W v k xss) (hb : BsAt W g cat m) (hk : Kp (fun x => x = g) W W') (hk0 : 0 < k) (hv : ∀ xs ∈ xss, ∃ u, xs[0]? = some u ∧ Value.low u = true) : Sl W' v k xss := by
  obtain ⟨a, c, rfl, hs⟩ := h
  refine Sl.kp (S := fun x => x = g) ⟨a, c, rfl, hs⟩ hk (fun h0 b o e e2 => ?_)
  rcases hs with hs | ⟨b', o', e', hb', hc⟩
  · exact h0 hs
  · rw [e] at e'; cases e'
    have h1 := hc 0 (List.length_pos_iff.2 h0) 0 hk0
    cases xss with
    | nil => exact h0 rfl
    | cons x r =>
      obtain ⟨u, hu, hl⟩ := hv x (List.mem_cons_self ..)
      rw [show ((x :: r).getD 0 [])[0]? = some u from hu, show b = g from e2] at h1
      exact hb.no hl h1
theorem RwA.base {v : Value} {ls : List (List K)} (h : RwA 5 K.pc W v ls) (hb : BsAt W g cat m) (hk : Kp (fun x => x = g) W W') : RwA 5 K.pc W' v ls := by
  obtain ⟨a, c, qs, rfl, h1, h2⟩ := h
  refine ⟨a, c, qs, rfl, ⟨h1.row.base hb hk (by omega) (fun xs hx => ?_), fun q hq => (h1.sl q hq).base hb hk (by omega) (fun xs hx => ?_), h1.tag.kp (fun b cs h => (hk.block b h.lt (fun e => by
    have e : b = g := e
    subst e
    unfold Blk at h
    unfold BsAt Blk at hb
    rw [hb] at h
    simp at h)).trans h)⟩, h2⟩
  · obtain ⟨q, -, rfl⟩ := List.mem_map.1 hx
    exact ⟨_, rfl, rfl⟩
  · obtain ⟨q, -, rfl⟩ := List.mem_map.1 hx
    exact ⟨_, rfl, rfl⟩
theorem MapT.base {m2 : Nat} {rs : List Rl} {T : Tb} (h : MapT W m2 rs T) (hb : BsAt W g cat m) (hk : Kp (fun x => x = g) W W') : MapT W' m2 rs T := by
  have hne : m2 ≠ g := fun e => by
    obtain ⟨D, ⟨es, cl, hm, -⟩, -⟩ := h
    rw [e, show W.heap[g]? = _ from hb] at hm
    cases hm
  exact h.kept (row := some g) ⟨hk.os, hk.tape, hk.output, hk.size, fun k h1 h2 => hk.block k h1 (fun e => h2 (by rw [e]))⟩ (fun e => hne (by injection e)) (fun _ _ h => h.base hb hk)
theorem Ca.base {c2 : Nat} {cv : Value} {ps : List RR} (h : Ca W N c2 cv ps) (hb : BsAt W g cat m) (hk : Kp (fun x => x = g) W W') : Ca W' N c2 cv ps := by
  refine h.kp hk (fun e => ?_) (fun b e e2 => ?_) (fun p hp h0 b o e e2 => ?_)
  · have h1 := h.ptr
    unfold Blk at h1
    rw [e, show W.heap[g]? = _ from hb] at h1
    simp at h1
  · rcases h.own.2 with ⟨h1, -⟩ | ⟨g2, cap, cur, h1, -, h2, -⟩
    · rw [h1] at e; cases e
    · rw [h1] at e
      have e3 : g2 = b := by simpa [Value.ownBlock] using e
      rw [e3, e2, show W.heap[g]? = _ from hb] at h2
      simp at h2
  · have h1 := h.sl p hp
    obtain ⟨b', o', e', hb', hc⟩ := Sl.at_ h1 (i := 0) (by rw [List.length_map]; exact List.length_pos_iff.2 h0)
    rw [e] at e'; cases e'
    have h2 := hc 0 (by omega)
    cases hcs : p.r.cols with
    | nil => exact h0 hcs
    | cons d ds =>
      rw [hcs, show b = g from e2] at h2
      exact hb.no (u := .string d.nm) rfl h2
end

/-- What a store into the map makes. -/
theorem MapT.stored {W : World} {m : Nat} {rs : List Rl} {T : Tb} (h : MapT W m rs T) : ∃ D : DataW Value, W.ownsMap Tryz.prog 68 RV m (Maps.size D) D ∧ Maps.size D ≤ 1000 ∧ ∀ W' o v x l, B32 o → B32 v → hasR o v rs = true → W'.ownsMap Tryz.prog 68 RV m (Maps.size D + 1) (D.put (litR o v) (.held x)) → W.grownBy W' (some m) → RwA 5 K.pc W x l → MapT W' m rs (T.put o v l) := by
  obtain ⟨D, h1, h2, h3, h4⟩ := h
  refine ⟨D, h1, h2.1, fun W' o v x l ho hv hin hw hg hr => ?_⟩
  obtain ⟨es, cl, hm, -⟩ := id h1
  exact MapT.put ho hv h1 h2 h3 h4 hin hw (fun _ _ h => h.map hm hg) hr
theorem Ext.map {w W W' : World} {m : Nat} (hE : Ext w W) (hg : W.grownBy W' (some m)) (hm : w.heap.size ≤ m) : Ext w W' :=
  Kp.ext hE (fun x hx _ => by injection hx with hx; omega) (Kp.of_grown hg)

theorem tclone_any (m : Nat) (rs : List Rl) (T : Tb) (w : World) (h : MapT w m rs T) :
    Calls Tryz.prog 39 #[.map (some m)] w fun e w' => e = .returned (.map (some w.heap.size)) ∧ MapT w' w.heap.size rs T ∧ Ext w w' := by
  obtain ⟨D, h1, h2, h3, h4⟩ := h
  refine (AnyW.maps_Clone_owns Tryz.cloM 68 RV m (Maps.size D) D w h1).mono ?_
  rintro e w' ⟨rfl, o1, o2, hb⟩
  refine ⟨rfl, ⟨D, o1, h2, h3, fun o v ho hv => ?_⟩, hb⟩
  obtain ⟨x, hx, hr⟩ := h4 o v ho hv
  exact ⟨x, hx, hr.ext hb⟩

end Go.Proofs.YtdgalkljngigeaaGreat

/-
Both sides' tables: what stands while the program's base is turned, while the reference's base is stored anew.
-/
namespace Go.Proofs.YtdgalkljngigeaaGreat
open Go.RowKit Go.Maps

section
variable {W W' : World} {g cat m : Nat}
theorem BsAt.not (hb : BsAt W g cat m) {b : Nat} {cs : Array Value} {t : TypeId} (h : Blk W b cs t) (ht : t ≠ 93) : b ≠ g := fun e => by
  subst e
  unfold Blk at h
  unfold BsAt Blk at hb
  rw [hb] at h
  simp only [Option.some.injEq, Obj.cells.injEq] at h
  exact ht h.2.1.symm
theorem RwR.base {v : Value} {ls : List (List K)} (h : RwR W v ls) (hb : BsAt W g cat m) (hk : Kp (fun x => x = g) W W') : RwR W' v ls := by
  obtain ⟨a, c, qs, rfl, h1, h2, h3, h4, h5⟩ := h
  refine ⟨a, c, qs, rfl, h1.base hb hk (by omega) (fun xs hx => ?_), fun q hq => (h2 q hq).base hb hk (by omega) (fun xs hx => ?_), h3, h4, h5.kp (fun b cs h => h.kp hk (hb.not h (by decide)))⟩
  · obtain ⟨q, -, rfl⟩ := List.mem_map.1 hx
    exact ⟨_, rfl, rfl⟩
  · obtain ⟨q, -, rfl⟩ := List.mem_map.1 hx
    exact ⟨_, rfl, rfl⟩
theorem RT.base {v : Value} {ps : List RR} {T : Tb} (h : RT W v ps T) (hb : BsAt W g cat m) (hk : Kp (fun x => x = g) W W') : RT W' v ps T := by
  obtain ⟨a, c, xs, rfl, h1, h2, h3, h4⟩ := h
  refine ⟨a, c, xs, rfl, h1.base hb hk (by omega) (fun ys hy => ?_), h2, fun i q1 q2 => (h3 i q1 q2).base hb hk, h4.kp (fun b cs h => h.kp hk (hb.not h (by decide)))⟩
  obtain ⟨x, hx, rfl⟩ := List.mem_map.1 hy
  obtain ⟨i, hi, rfl⟩ := List.getElem_of_mem hx
  obtain ⟨a', n', c', e⟩ := (h3 i hi (by omega)).isSl
  exact ⟨_, rfl, by rw [e]; rfl⟩
theorem RL.base {v : Value} {ps : List RR} (h : RL W v ps) (hb : BsAt W g cat m) (hk : Kp (fun x => x = g) W W') : RL W' v ps := by
  refine ⟨h.row.base hb hk (by omega) (fun xs hx => ?_), fun p hp => (show Sl W' _ 3 _ from (h.sl p hp).base hb hk (by omega) (fun xs hx => ?_))⟩
  · obtain ⟨q, -, rfl⟩ := List.mem_map.1 hx
    exact ⟨_, rfl, rfl⟩
  · obtain ⟨q, -, rfl⟩ := List.mem_map.1 hx
    exact ⟨_, rfl, rfl⟩
end

/-- The block of the reference's base. -/
def B22 (W : World) (X : Nat) : Prop := ∃ a n c a' n' c', Blk W X #[.slice a n c, .slice a' n' c'] 56
def Value.nsl : Value → Bool
  | .slice _ _ _ => false
  | _ => true
section
variable {W W' : World} {X : Nat}
theorem B22.no (h : B22 W X) {o : Nat} {u : Value} (hu : Value.nsl u = true) : W.cell? ⟨X, o, none⟩ ≠ some u := by
  obtain ⟨a, n, c, a', n', c', h⟩ := h
  intro e
  rw [h.cell o] at e
  match o, e with
  | 0, e => cases e; cases hu
  | 1, e => cases e; cases hu
  | o + 2, e => simp at e
theorem B22.not (hb : B22 W X) {b : Nat} {cs : Array Value} {t : TypeId} (h : Blk W b cs t) (ht : t ≠ 56) : b ≠ X := fun e => by
  subst e
  obtain ⟨a, n, c, a', n', c', hb⟩ := hb
  unfold Blk at h hb
  rw [hb] at h
  simp only [Option.some.injEq, Obj.cells.injEq] at h
  exact ht h.2.1.symm
theorem Sl.cold {v : Value} {k : Nat} {xss : List (List Value)} (h : Sl W v k xss) (hb : B22 W X) (hk : Kp (fun x => x = X) W W') (hk0 : 0 < k) (hv : ∀ xs ∈ xss, ∃ u, xs[0]? = some u ∧ Value.nsl u = true) : Sl W' v k xss := by
  obtain ⟨a, c, rfl, hs⟩ := h
  refine Sl.kp (S := fun x => x = X) ⟨a, c, rfl, hs⟩ hk (fun h0 b o e e2 => ?_)
  rcases hs with hs | ⟨b', o', e', hb', hc⟩
  · exact h0 hs
  · rw [e] at e'; cases e'
    have h1 := hc 0 (List.length_pos_iff.2 h0) 0 hk0
    cases xss with
    | nil => exact h0 rfl
    | cons x r =>
      obtain ⟨u, hu, hl⟩ := hv x (List.mem_cons_self ..)
      rw [show ((x :: r).getD 0 [])[0]? = some u from hu, show b = X from e2] at h1
      exact hb.no hl h1
theorem RwA.cold {v : Value} {ls : List (List K)} (h : RwA 5 K.pc W v ls) (hb : B22 W X) (hk : Kp (fun x => x = X) W W') : RwA 5 K.pc W' v ls := by
  obtain ⟨a, c, qs, rfl, h1, h2⟩ := h
  refine ⟨a, c, qs, rfl, ⟨h1.row.kp hk (fun h0 b o e => ?_), fun q hq => (h1.sl q hq).cold hb hk (by omega) (fun xs hx => ?_), h1.tag.kp (fun b cs h => h.kp hk (hb.not h (by decide)))⟩, h2⟩
  · obtain ⟨cs, h3⟩ := h1.tag b o _ c (by rw [e]) (List.length_pos_iff.2 (fun h => h0 (by rw [h]; rfl)))
    exact hb.not h3 (by decide)
  · obtain ⟨q, -, rfl⟩ := List.mem_map.1 hx
    exact ⟨_, rfl, rfl⟩
theorem MapT.cold {m2 : Nat} {rs : List Rl} {T : Tb} (h : MapT W m2 rs T) (hb : B22 W X) (hk : Kp (fun x => x = X) W W') : MapT W' m2 rs T := by
  have hne : m2 ≠ X := fun e => by
    obtain ⟨D, ⟨es, cl, hm, -⟩, -⟩ := h
    obtain ⟨a, n, c, a', n', c', hb⟩ := hb
    rw [e, show W.heap[X]? = _ from hb] at hm
    cases hm
  exact h.kept (row := some X) ⟨hk.os, hk.tape, hk.output, hk.size, fun k h1 h2 => hk.block k h1 (fun e => h2 (by rw [e]))⟩ (fun e => hne (by injection e)) (fun _ _ h => h.cold hb hk)
theorem Ca.cold {N c2 : Nat} {cv : Value} {ps : List RR} (h : Ca W N c2 cv ps) (hb : B22 W X) (hk : Kp (fun x => x = X) W W') : Ca W' N c2 cv ps := by
  refine h.kp hk (hb.not h.ptr (by decide)) (fun b e e2 => ?_) (fun p hp h0 b o e e2 => ?_)
  · rcases h.own.2 with ⟨h1, -⟩ | ⟨g2, cap, cur, h1, -, h2, -⟩
    · rw [h1] at e; cases e
    · rw [h1] at e
      have e3 : g2 = b := by simpa [Value.ownBlock] using e
      subst e3
      exact hb.not (cs := cur) h2 (by decide) e2
  · have h1 := h.sl p hp
    obtain ⟨b', o', e', hb', hc⟩ := Sl.at_ h1 (i := 0) (by rw [List.length_map]; exact List.length_pos_iff.2 h0)
    rw [e] at e'; cases e'
    have h2 := hc 0 (by omega)
    cases hcs : p.r.cols with
    | nil => exact h0 hcs
    | cons d ds =>
      rw [hcs, show b = X from e2] at h2
      exact hb.no (u := .string d.nm) rfl h2
theorem Bs.cold {N G : Nat} {ps : List RR} {T : Tb} (h : Bs W N G ps T) (hb : B22 W X) (hk : Kp (fun x => x = X) W W') : Bs W' N G ps T := by
  obtain ⟨cat, cv, m, h1, h2, h3⟩ := h
  exact ⟨cat, cv, m, Blk.kp h1 hk (hb.not h1 (by decide)), h2.cold hb hk, h3.cold hb hk⟩
theorem RwR.cold {v : Value} {ls : List (List K)} (h : RwR W v ls) (hb : B22 W X) (hk : Kp (fun x => x = X) W W') : RwR W' v ls := by
  obtain ⟨a, c, qs, rfl, h1, h2, h3, h4, h5⟩ := h
  refine ⟨a, c, qs, rfl, h1.kp hk (fun h0 b o e => ?_), fun q hq => (h2 q hq).cold hb hk (by omega) (fun xs hx => ?_), h3, h4, h5.kp (fun b cs h => h.kp hk (hb.not h (by decide)))⟩
  · obtain ⟨cs, h6⟩ := h5 b o _ c (by rw [e]) (List.length_pos_iff.2 (fun h => h0 (by rw [h]; rfl)))
    exact hb.not h6 (by decide)
  · obtain ⟨q, -, rfl⟩ := List.mem_map.1 hx
    exact ⟨_, rfl, rfl⟩
theorem RT.cold {v : Value} {ps : List RR} {T : Tb} (h : RT W v ps T) (hb : B22 W X) (hk : Kp (fun x => x = X) W W') : RT W' v ps T := by
  obtain ⟨a, c, xs, rfl, h1, h2, h3, h4⟩ := h
  refine ⟨a, c, xs, rfl, h1.kp hk (fun h0 b o e => ?_), h2, fun i q1 q2 => (h3 i q1 q2).cold hb hk, h4.kp (fun b cs h => h.kp hk (hb.not h (by decide)))⟩
  obtain ⟨cs, h6⟩ := h4 b o _ c (by rw [e]) (by rw [← h2]; exact List.length_pos_iff.2 (fun h => h0 (by rw [h]; rfl)))
  exact hb.not h6 (by decide)
theorem RTo.cold {M : Nat} {ps : List RR} {T : Tb} (h : RTo W M ps T) (hb : B22 W X) (hk : Kp (fun x => x = X) W W') : RTo W' M ps T := by
  obtain ⟨cs, h1, h2⟩ := h
  refine ⟨cs, h1.kp hk (hb.not h1 (by decide)), fun i hi => ?_⟩
  obtain ⟨x, h3, h4⟩ := h2 i hi
  exact ⟨x, h3, h4.cold hb hk⟩
theorem RL.cold {v : Value} {ps : List RR} (h : RL W v ps) (hb : B22 W X) (hk : Kp (fun x => x = X) W W') : RL W' v ps := by
  refine ⟨h.row.cold hb hk (by omega) (fun xs hx => ?_), fun p hp => (show Sl W' _ 3 _ from (h.sl p hp).cold hb hk (by omega) (fun xs hx => ?_))⟩
  · obtain ⟨q, -, rfl⟩ := List.mem_map.1 hx
    exact ⟨_, rfl, rfl⟩
  · obtain ⟨q, -, rfl⟩ := List.mem_map.1 hx
    exact ⟨_, rfl, rfl⟩
end

/-- There are no rows but of relations that there are. -/
def TbIn (rs : List Rl) (T : Tb) : Prop := ∀ o v, hasR o v rs = false → T o v = []
theorem TbIn.nil (rs : List Rl) : TbIn rs T0 := fun _ _ _ => rfl
theorem TbIn.ev {rs : List Rl} {T : Tb} (h : TbIn rs T) (e : Ev) : TbIn rs (evT rs T e) := fun o v hn => by
  unfold evT
  split
  · unfold clrT
    split
    · rfl
    · exact h o v hn
  · cases hr : getR e.ao e.av rs with
    | none => exact h o v hn
    | some r =>
      show Tb.put T e.ao e.av _ o v = []
      unfold Tb.put
      rw [if_neg]
      · exact h o v hn
      · rintro ⟨rfl, rfl⟩
        rw [getR_none.2 hn] at hr
        cases hr
theorem TbIn.st {rs : List Rl} {T : Tb} (h : TbIn rs T) (es : List Ev) : ∀ k, TbIn rs (stT rs T es k)
  | 0 => h
  | k + 1 => by
    rcases Nat.lt_or_ge k es.length with hk | hk
    · rw [stT_succ hk]; exact (h.st es k).ev _
    · have e : stT rs T es (k + 1) = stT rs T es k := by simp only [stT, List.getElem?_eq_none hk]
      rw [e]; exact h.st es k
theorem TbIn.ap {rs : List Rl} {T : Tb} (h : TbIn rs T) (t : Tx) : TbIn rs (apT rs T t) := by
  unfold apT
  split
  · exact h
  · exact h.st _ _
theorem TbIn.zero {rs : List Rl} {T : Tb} (h : TbIn rs T) (hc : CatOk rs) : T 0 0 = [] := by
  refine h 0 0 (hasR_no (fun i hi e => ?_))
  have h1 := hc.right _ (List.getElem_mem hi)
  unfold Rl.right at h1
  rw [if_pos (.inl e.1)] at h1
  cases h1
/-- How many rows the first tables have. -/
def upTo (rs : List Rl) (T : Tb) (k : Nat) : Nat := ((rs.take k).map (fun r => (T r.oid r.ver).length)).sum
theorem upTo_zero (rs : List Rl) (T : Tb) : upTo rs T 0 = 0 := rfl
theorem upTo_succ {rs : List Rl} {T : Tb} {k : Nat} (h : k < rs.length) : upTo rs T (k + 1) = upTo rs T k + (T rs[k].oid rs[k].ver).length := by
  unfold upTo
  rw [List.take_succ_eq_append_getElem h, List.map_append, List.sum_append]
  simp
theorem upTo_le {rs : List Rl} {T : Tb} {n : Nat} (h : TbOk T n) : ∀ k, upTo rs T k ≤ k * n
  | 0 => by rw [upTo_zero]; omega
  | k + 1 => by
    rcases Nat.lt_or_ge k rs.length with hk | hk
    · rw [upTo_succ hk, Nat.add_mul]
      have := upTo_le (rs := rs) h k
      have := h.n rs[k].oid rs[k].ver
      omega
    · have e : upTo rs T (k + 1) = upTo rs T k := by unfold upTo; rw [List.take_of_length_le (by omega), List.take_of_length_le hk]
      rw [e, Nat.add_mul]
      have := upTo_le (rs := rs) h k
      omega
theorem rowsOf_in {rs : List Rl} {T : Tb} {k : Nat} (h : k < rs.length) : rowsOf rs T rs[k].oid rs[k].ver = T rs[k].oid rs[k].ver := if_pos (hasR_at h ⟨rfl, rfl⟩)

end Go.Proofs.YtdgalkljngigeaaGreat
