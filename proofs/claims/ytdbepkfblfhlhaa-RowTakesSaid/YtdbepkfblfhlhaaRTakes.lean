/-
The walk of RowTakes.
-/
import Derived.Test.YtdbepkfblfhlhaaP16
namespace Go.Proofs.Ytdbepkfblfhlhaa
open Go.RowKit

theorem nilRow (w : World) : Sl w (.slice none 0 0) 6 (([] : List K).map K.rc) := ⟨none, 0, rfl, .inl rfl⟩
theorem takeT_le {r : Rl} {ver : Int} {st : RS} : (takeT r ver st).1.1.length ≤ r.cols.length ∧ (takeT r ver st).1.2.length ≤ r.cols.length := by
  rw [← take_same]
  unfold takeP
  split
  · exact ⟨Nat.zero_le _, Nat.zero_le _⟩
  · have hm := mapR_len (n := r.cols.length) (st := begR r ver st)
    unfold finT
    split
    · exact ⟨Nat.zero_le _, Nat.zero_le _⟩
    · exact ⟨by rw [tkUp_len _ (Nat.le_refl _) hm]; exact hm, Nat.le_trans (tkUp_holes _) hm⟩

set_option maxRecDepth 100000 in set_option maxHeartbeats 8000000 in
theorem rowtakes_any (lb : List Int) (ab : Option Addr) (capb : Nat) (oid ver : Int) (nm : ByteArray) (id : Int) (cols : List Col) (a2 : Option Addr) (cap2 : Nat) (version : Int) (w : World) (hl : Sl w (.slice ab lb.length capb) 1 (lb.map bcell)) (hib : isB lb) (hlen : lb.length ≤ 9223372036854775807) (hnil : ∀ len cap, (Value.slice ab lb.length capb) = .slice none len cap → (Value.slice ab lb.length capb) = .slice none 0 0)
    (hl2 : Sl w (.slice a2 cols.length cap2) 3 (cols.map Col.cells)) (hlen2 : cols.length ≤ 9223372036854775807) (hs2 : ∀ c ∈ cols, c.nm.size ≤ 9223372036854775807) (hnm : nm.size ≤ 9223372036854775807) :
    Calls Try.prog 11 #[.slice ab lb.length capb, .agg #[.int .u32 oid, .int .u32 ver, .string nm, .int .u8 id, .slice a2 cols.length cap2], .int .u8 version] w fun e w' => e = .returned (.bool true) ∧ Ext w w' := by
  have HL := Hid.mk' hl
  have HNB : Hid (∀ w1, Ext w w1 → NB w1 (.slice ab lb.length capb) lb) := Hid.mk' (fun w1 h => NB.of_sl (hl.ext h) hnil)
  have HG := Hid.mk' (fun W (h : Ext w W) => greatK_any [] none 0 oid ver nm id cols a2 cap2 W (nilRow W) (hl2.ext h) (Nat.zero_le _) hlen2 (fun c hc => by cases hc) hs2 hnm)
  have HO8 := Hid.mk' (fun W (h : Ext w W) (hn : cols.length ≤ 1000) => own8_new oid ver nm id cols a2 cap2 W (hl2.ext h) hn)
  have HTR := Hid.mk' (fun g d a3 cap3 W h h1 h2 h3 h4 => take_any g d ⟨lb, 0⟩ oid ver nm id cols a3 cap3 version W h h1 h2 h3 h4 hs2 hnm)
  have HTF := Hid.mk' (fun g d W h h1 h2 h3 => rrowtake_any g d ⟨lb, 0⟩ oid ver nm id cols a2 cap2 version W h h1 h2 h3 hs2 hnm)
  rw [take_same] at HTR
  have hle := takeT_le (r := (⟨oid, ver, nm, id, cols⟩ : Rl)) (ver := version) (st := ⟨lb, 0⟩)
  obtain ⟨⟨⟨M, O⟩, S⟩, hQ⟩ : ∃ Q, Q = takeT (⟨oid, ver, nm, id, cols⟩ : Rl) version ⟨lb, 0⟩ := ⟨_, rfl⟩
  rw [← hQ] at HTR HTF hle
  unfold TkPost at HTR
  unfold RTkPost at HTF
  simp only at HTR HTF hle
  have HLE := Hid.mk' hle
  have HL2 := Hid.mk' hl2
  have HIB := Hid.mk' hib
  have hpos : ∀ b o, a2 = some ⟨b, o, none⟩ → cols ≠ [] → b < w.heap.size := by
    intro b o e hne
    obtain ⟨i, hi⟩ : ∃ i, i < cols.length := ⟨0, List.length_pos_iff.2 hne⟩
    obtain ⟨b', o', e', hb', -⟩ := hl2.at_ (i := i) (by simpa using hi)
    rw [e] at e'; cases e'; exact hb'
  have HPOS := Hid.mk' hpos
  clear hl hl2 hs2 hnm hQ hle hib hpos hnil
  by_cases h4000 : 4000 < lb.length
  · go_enter Try.func11, Try.ntmps11
    go_wp2
    go_ret
    exact ⟨rfl, by (repeat (with_reducible (first | exact Ext.refl _ | assumption | exact held_left (by assumption) | apply Ext.drewN | apply Ext.drew | apply Ext.alloc | (refine Ext.setCell ?_ (by first | (simp; done) | (simp; omega) | omega) _) | (refine Ext.trans ?_ (by assumption)) | (refine Ext.trans ?_ (held_left (by assumption))))))⟩
  have hl4 : lb.length ≤ 4000 := by omega
  clear h4000
  go_enter Try.func11, Try.ntmps11
  go_upto_region 3 with (go_at_call 14; refine (HG.out _ (by (repeat (with_reducible (first | exact Ext.refl _ | assumption | exact held_left (by assumption) | apply Ext.drewN | apply Ext.drew | apply Ext.alloc | (refine Ext.setCell ?_ (by first | (simp; done) | (simp; omega) | omega) _) | (refine Ext.trans ?_ (by assumption)) | (refine Ext.trans ?_ (held_left (by assumption)))))))).mono ?_; rintro e w0 ⟨g', rfl, hg', hb0⟩; have HB := Hid.mk' hg'; clear hg'; cases g')
  all_goals try (go_ret; exact ⟨rfl, by (repeat (with_reducible (first | exact Ext.refl _ | assumption | exact held_left (by assumption) | apply Ext.drewN | apply Ext.drew | apply Ext.alloc | (refine Ext.setCell ?_ (by first | (simp; done) | (simp; omega) | omega) _) | (refine Ext.trans ?_ (by assumption)) | (refine Ext.trans ?_ (held_left (by assumption))))))⟩)
  have hn : cols.length ≤ 1000 := by have := (HB.out (by first | exact rfl | exact trivial)).2.2.2.1; omega
  have hE0 : Ext (w.alloc (.cells #[.int .u32 oid, .int .u32 ver, .string nm, .int .u8 id, .slice a2 cols.length cap2] 27)) w0 := by (repeat (with_reducible (first | exact Ext.refl _ | assumption | exact held_left (by assumption) | apply Ext.drewN | apply Ext.drew | apply Ext.alloc | (refine Ext.setCell ?_ (by first | (simp; done) | (simp; omega) | omega) _) | (refine Ext.trans ?_ (by assumption)) | (refine Ext.trans ?_ (held_left (by assumption))))))
  have HE0 := Hid.mk' hE0
  clear HB HG hb0 hE0 hlen2
  go_wp2_with (first
    | (go_at_call 49; refine (read_any _ lb _ (HL.out.ext (((Ext.refl w).alloc _).trans HE0.out)) (by omega) HIB.out).mono ?_; rintro e w1 ⟨g, rfl, hg, hr, hb1⟩; have HR1 := Hid.mk' hr; have hgl := hr.lt; have HE1 := Hid.mk' (HE0.out.trans hb1); clear hr)
    | (at_builtin; refine app_bytes rfl _ _ rfl w1.heap.size (.slice (some ⟨w1.heap.size, 0, none⟩) 0 0) [] rfl ?c0 (.slice ab lb.length capb) lb rfl (HNB.out _ ((((Ext.refl w).alloc _).trans HE1.out).alloc _)) ?c1 ?c2 ?_))
  case c0 => exact ⟨rfl, .inr ⟨_, 0, #[], rfl, Nat.le_refl _, Blk.new w1 #[] _, Nat.le_refl _, Nat.zero_le _, rfl, rfl⟩⟩
  case c1 => simp; omega
  case c2 => simp
  intro v2 w2 ho2 hgrow
  have hE2 : Ext w1 w2 := OB.grown (W := w1) (v := .slice (some ⟨w1.heap.size, 0, none⟩) 0 0) (l := []) ((Ext.refl w1).alloc _) ⟨rfl, .inr ⟨_, 0, #[], rfl, Nat.le_refl _, Blk.new w1 #[] _, Nat.le_refl _, Nat.zero_le _, rfl, rfl⟩⟩ hgrow
  clear hgrow
  obtain ⟨a2', cap2', rfl⟩ := ho2.shape
  have hf2 := RF.new ho2 HIB.out (by omega) (Nat.le_refl _)
  have HF2 := Hid.mk' hf2
  have HR2 := Hid.mk' ((HR1.out.ext hE2).ext ((Ext.refl w2).alloc (.cells #[.slice a2' lb.length cap2', .int .i64 0, .int .i64 0] 108)))
  have hE02 : Ext (w.alloc (.cells #[.int .u32 oid, .int .u32 ver, .string nm, .int .u8 id, .slice a2 cols.length cap2] 27)) w2 := HE1.out.trans hE2
  have HE02 := Hid.mk' hE02
  have hsz := hE2.size
  have hg2 : g < w2.heap.size := by omega
  have hgW : (w.alloc (.cells #[.int .u32 oid, .int .u32 ver, .string nm, .int .u8 id, .slice a2 cols.length cap2] 27)).heap.size ≤ g := Nat.le_trans HE0.out.size hg
  have hgw : w.heap.size < g := by have := hgW; simp at this; omega
  have HGW := Hid.mk' hgW
  have k2 := ((Blk.new w #[.int .u32 oid, .int .u32 ver, .string nm, .int .u8 id, .slice a2 cols.length cap2] 27).ext (hE02.alloc (.cells #[.slice a2' lb.length cap2', .int .i64 0, .int .i64 0] 108))).cell
  have z2 : w.heap.size < w2.heap.size := by have := hE02.size; simp at this; omega
  clear ho2 hf2 hb1 hE2 hE02 HE1 HR1 hgW
  go_upto_region 7 with (first
    | (go_at_call 17; refine (HO8.out _ ((((Ext.refl w).alloc _).trans HE02.out).alloc _) hn).mono ?_; rintro e w3 ⟨a3, cap3, rfl, h3, hs3, ha3, hb3⟩; have HS3 := Hid.mk' hs3; have HA3 := Hid.mk' ha3; have HE3 := Hid.mk' hb3; clear hs3 ha3)
    | (go_at_call 50; refine (HTR.out g _ _ _ _ (HR2.out.ext HE3.out) HS3.out (fun b o e _ => by have := HA3.out b o e; simp at this; omega) h3 hn).mono ?_; rintro e w4 ⟨a4, c4, a5, c5, rfl, hs4, hs5, ha4, ha5, hr4, ht4⟩; have HS4 := Hid.mk' hs4; have HS5 := Hid.mk' hs5; have HA4 := Hid.mk' ha4; have HA5 := Hid.mk' ha5; have HR4 := Hid.mk' hr4; have HT4 := Hid.mk' ht4; clear hs4 hs5 ha4 ha5 hr4 ht4))
  have hz3 : w2.heap.size < w3.heap.size := by have := HE3.out.size; simp at this; omega
  have hz4 := HT4.out.size
  have HE4 := Hid.mk' (Tch.ext ((HE02.out.alloc _).trans HE3.out) HGW.out HT4.out)
  have HF4 := Hid.mk' ((HF2.out.ext HE3.out).tch HT4.out (by omega) (.inl (by omega)))
  have k4 := ((Blk.new w #[.int .u32 oid, .int .u32 ver, .string nm, .int .u8 id, .slice a2 cols.length cap2] 27).ext HE4.out).cell
  have z4 : w.heap.size < w4.heap.size := by omega
  have HLF := Hid.mk' (fun g d w h => fleft_any g d S w h)
  have HER := Hid.mk' (fun g d w h => rerr_any g d S w h)
  have HLE2 := Hid.mk' (fun g d w h => rleft_any g d S w h)
  clear k2 z2 hb3
  go_upto_region 8 with (go_at_call 51; refine (HTF.out w2.heap.size _ _ HF4.out (HL2.out.ext (((Ext.refl w).alloc _).trans HE4.out)) (fun b o e hne => by have := HPOS.out b o e hne; have := HE02.out.size; simp at this; omega) hn).mono ?_; rintro e w6 ⟨a6, c6, a7, c7, rfl, hs6, hs7, -, -, hf6, ht6⟩; have HS6 := Hid.mk' hs6; have HS7 := Hid.mk' hs7; have HF6 := Hid.mk' hf6; have HT6 := Hid.mk' ht6; clear hs6 hs7 hf6 ht6)
  have HS46 := Hid.mk' (HS4.out.tch HT6.out (fun b o e => by have := HA4.out b o e; omega))
  have HS56 := Hid.mk' (HS5.out.tch HT6.out (fun b o e => by have := HA5.out b o e; omega))
  have HR6 := Hid.mk' (HR4.out.tch HT6.out (by omega) (.inr (by omega)))
  have HEw := Hid.mk' (Tch.ext (((Ext.refl w).alloc _).trans HE4.out) (by have := HE02.out.size; simp at this; omega) HT6.out)
  have hz6 : w2.heap.size < w6.heap.size := by have := HT6.out.size; omega
  have hMl : M.length ≤ 1000 := Nat.le_trans HLE.out.1 hn
  have hOl : O.length ≤ 1000 := Nat.le_trans HLE.out.2 hn
  have HBK := Hid.mk' (fun W b c (h : Sl W (.slice b M.length c) 5 (M.map K.pc)) => backK_any M b c W h hMl)
  have HSA := Hid.mk' (fun W b b' c c' (h : Sl W (.slice b M.length c) 6 (M.map K.rc)) (h' : Sl W (.slice b' M.length c') 6 (M.map K.rc)) => rsame_any M M b b' c c' W h h' hMl hMl)
  rw [rowB_true.2 rfl] at HSA
  have HHQ := Hid.mk' (fun W' a b ca cb h1 h2 => holesq_any O a b ca cb W' h1 h2 hOl)
  have HS : Hid (∀ w', Ext w6 w' → Ext w6 w' ∧ w'.cell? ⟨w2.heap.size, 2, none⟩ = some (.int .i64 S.e)) := Hid.mk' (fun w' h => ⟨h, (HF6.out.ext h).bad⟩)
  clear HTR HTF HS4 HS5 HR4 HE4 HF4 HT4 HT6 HA4 HA5 HA3 HE3 HS3 HF2 HR2 k4 z4 hMl hOl hn HLE HL HL2
  go_region_held3 (fun w' => Ext w6 w' ∧ w'.cell? ⟨w2.heap.size, 2, none⟩ = some (.int .i64 S.e)) (exact HS.out _ (by (repeat (with_reducible (first | exact Ext.refl _ | assumption | exact held_left (by assumption) | apply Ext.drewN | apply Ext.drew | apply Ext.alloc | (refine Ext.setCell ?_ (by first | (simp; done) | (simp; omega) | omega) _) | (refine Ext.trans ?_ (by assumption)) | (refine Ext.trans ?_ (held_left (by assumption))))))))
    (first
      | (go_at_call 24; refine (HBK.out _ _ _ (HS46.out.ext (by (repeat (with_reducible (first | exact Ext.refl _ | assumption | exact held_left (by assumption) | apply Ext.drewN | apply Ext.drew | apply Ext.alloc | (refine Ext.setCell ?_ (by first | (simp; done) | (simp; omega) | omega) _) | (refine Ext.trans ?_ (by assumption)) | (refine Ext.trans ?_ (held_left (by assumption))))))))).mono ?_; rintro e w8 ⟨a8, c8, rfl, -, hs8, hb8⟩; have H8 := Hid.mk' hs8; clear hs8)
      | (go_at_call 23; refine (HSA.out _ _ _ _ _ (H8.out.ext (by (repeat (with_reducible (first | exact Ext.refl _ | assumption | exact held_left (by assumption) | apply Ext.drewN | apply Ext.drew | apply Ext.alloc | (refine Ext.setCell ?_ (by first | (simp; done) | (simp; omega) | omega) _) | (refine Ext.trans ?_ (by assumption)) | (refine Ext.trans ?_ (held_left (by assumption)))))))) (HS6.out.ext (by (repeat (with_reducible (first | exact Ext.refl _ | assumption | exact held_left (by assumption) | apply Ext.drewN | apply Ext.drew | apply Ext.alloc | (refine Ext.setCell ?_ (by first | (simp; done) | (simp; omega) | omega) _) | (refine Ext.trans ?_ (by assumption)) | (refine Ext.trans ?_ (held_left (by assumption))))))))).mono ?_; rintro e w9 ⟨rfl, hb9⟩)
      | (go_at_call 44; refine (HHQ.out _ _ _ _ _ (HS56.out.ext (by (repeat (with_reducible (first | exact Ext.refl _ | assumption | exact held_left (by assumption) | apply Ext.drewN | apply Ext.drew | apply Ext.alloc | (refine Ext.setCell ?_ (by first | (simp; done) | (simp; omega) | omega) _) | (refine Ext.trans ?_ (by assumption)) | (refine Ext.trans ?_ (held_left (by assumption)))))))) (HS7.out.ext (by (repeat (with_reducible (first | exact Ext.refl _ | assumption | exact held_left (by assumption) | apply Ext.drewN | apply Ext.drew | apply Ext.alloc | (refine Ext.setCell ?_ (by first | (simp; done) | (simp; omega) | omega) _) | (refine Ext.trans ?_ (by assumption)) | (refine Ext.trans ?_ (held_left (by assumption))))))))).mono ?_; rintro e w10 ⟨rfl, hb10⟩)
      | (go_at_call 52; refine (HER.out g _ _ (HR6.out.ext (by (repeat (with_reducible (first | exact Ext.refl _ | assumption | exact held_left (by assumption) | apply Ext.drewN | apply Ext.drew | apply Ext.alloc | (refine Ext.setCell ?_ (by first | (simp; done) | (simp; omega) | omega) _) | (refine Ext.trans ?_ (by assumption)) | (refine Ext.trans ?_ (held_left (by assumption))))))))).mono ?_; rintro e w11 ⟨rfl, rfl⟩)
      | (go_at_call 53; refine (HLE2.out g _ _ (HR6.out.ext (by (repeat (with_reducible (first | exact Ext.refl _ | assumption | exact held_left (by assumption) | apply Ext.drewN | apply Ext.drew | apply Ext.alloc | (refine Ext.setCell ?_ (by first | (simp; done) | (simp; omega) | omega) _) | (refine Ext.trans ?_ (by assumption)) | (refine Ext.trans ?_ (held_left (by assumption))))))))).mono ?_; rintro e w12 ⟨rfl, rfl⟩)
      | (go_at_call 54; refine (HLF.out w2.heap.size _ _ (HF6.out.ext (by (repeat (with_reducible (first | exact Ext.refl _ | assumption | exact held_left (by assumption) | apply Ext.drewN | apply Ext.drew | apply Ext.alloc | (refine Ext.setCell ?_ (by first | (simp; done) | (simp; omega) | omega) _) | (refine Ext.trans ?_ (by assumption)) | (refine Ext.trans ?_ (held_left (by assumption))))))))).mono ?_; rintro e w13 ⟨rfl, q13, rfl⟩)
      | (go_at_call 46; refine (awake10_any _).mono ?_; rintro e w14 ⟨rfl, hb14⟩))
  go_wp2
  go_ret
  exact ⟨rfl, HEw.out.trans (by (repeat (with_reducible (first | exact Ext.refl _ | assumption | exact held_left (by assumption) | apply Ext.drewN | apply Ext.drew | apply Ext.alloc | (refine Ext.setCell ?_ (by first | (simp; done) | (simp; omega) | omega) _) | (refine Ext.trans ?_ (by assumption)) | (refine Ext.trans ?_ (held_left (by assumption)))))))⟩

end Go.Proofs.Ytdbepkfblfhlhaa
