/-
The walk of RowEncodes.
-/
import Derived.Test.YtdbepkfblfhlhaaP16
namespace Go.Proofs.Ytdbepkfblfhlhaa
open Go.RowKit

def encB (l : List K) (r : Rl) (ver : Int) : List Int := if encE l r ver = 0 then rowPut l r.cols ver else []
theorem EncPost.sl {l : List K} {r : Rl} {ver : Int} {w w' : World} {e : Ending} (h : EncPost l r ver w e w') : ∃ v, e = .returned (.tuple #[v, .int .i64 (encE l r ver)]) ∧ Sl w' v 1 ((encB l r ver).map bcell) ∧ Ext w w' := by
  obtain ⟨v, rfl, h1, h2, h3⟩ := h
  refine ⟨v, rfl, ?_, h3⟩
  unfold encB
  by_cases h0 : encE l r ver = 0
  · rw [if_pos h0]; exact (h1 h0).sl
  · rw [if_neg h0, h2 h0]; exact nilSl w'

set_option maxRecDepth 100000 in set_option maxHeartbeats 20000000 in
theorem rowenc_any (l : List K) (a : Option Addr) (cap : Nat) (oid ver : Int) (nm : ByteArray) (id : Int) (cols : List Col) (a2 : Option Addr) (cap2 : Nat) (version : Int) (w : World) (hl : Sl w (.slice a l.length cap) 6 (l.map K.rc)) (hl2 : Sl w (.slice a2 cols.length cap2) 3 (cols.map Col.cells))
    (hlen : l.length ≤ 9223372036854775807) (hlen2 : cols.length ≤ 9223372036854775807) (hs : ∀ c ∈ l, c.tw) (hs2 : ∀ c ∈ cols, c.nm.size ≤ 9223372036854775807) (hnm : nm.size ≤ 9223372036854775807) :
    Calls Try.prog 9 #[.slice a l.length cap, .agg #[.int .u32 oid, .int .u32 ver, .string nm, .int .u8 id, .slice a2 cols.length cap2], .int .u8 version] w fun e w' => e = .returned (.bool true) ∧ Ext w w' := by
  have HG := Hid.mk' (fun W (h : Ext w W) => greatK_any l a cap oid ver nm id cols a2 cap2 W (hl.ext h) (hl2.ext h) hlen hlen2 (fun c hc => (hs c hc).s) hs2 hnm)
  have HO8 := Hid.mk' (fun W (h : Ext w W) (hn : cols.length ≤ 1000) => own8_fr oid ver nm id cols a2 cap2 W (hl2.ext h) hn)
  have HOa := Hid.mk' (fun W (h : Ext w W) (hn : l.length ≤ 1000) => ownK_fr l a cap W (hl.ext h) hn)
  have HRE := Hid.mk' (fun W (h : Ext w W) (hn : cols.length ≤ 1000) (h1 : l.length ≤ 1000) => (rencode_any l a cap oid ver nm id cols a2 cap2 version W (hl.ext h) (hl2.ext h) h1 hn hs hs2 hnm).mono (fun e w' h => h.sl))
  have HRF := Hid.mk' (fun W (h : Ext w W) (hn : cols.length ≤ 1000) (h1 : l.length ≤ 1000) => rfits_any l a cap oid ver nm id cols a2 cap2 W (hl.ext h) (hl2.ext h) h1 hn (fun c hc => (hs c hc).towk) hs2 hnm)
  have HRH := Hid.mk' (fun W (h : Ext w W) (h1 : l.length ≤ 1000) => rholes_any l a cap W (hl.ext h) h1)
  have HSS := Hid.mk' (⟨hs, hs2, hnm⟩ : (∀ c ∈ l, c.tw) ∧ (∀ c ∈ cols, c.nm.size ≤ 9223372036854775807) ∧ nm.size ≤ 9223372036854775807)
  clear hl hl2 hs hs2 hnm
  go_enter Try.func9, Try.ntmps9
  go_upto_region 3 with (go_at_call 14; refine (HG.out _ (by (repeat (with_reducible (first | exact Ext.refl _ | assumption | exact held_left (by assumption) | apply Ext.drewN | apply Ext.drew | apply Ext.alloc | (refine Ext.setCell ?_ (by first | (simp; done) | (simp; omega) | omega) _) | (refine Ext.trans ?_ (by assumption)) | (refine Ext.trans ?_ (held_left (by assumption)))))))).mono ?_; rintro e w2 ⟨g, rfl, hg, hb2⟩; have HB := Hid.mk' hg; clear hg; cases g)
  all_goals try (go_ret; exact ⟨rfl, by (repeat (with_reducible (first | exact Ext.refl _ | assumption | exact held_left (by assumption) | apply Ext.drewN | apply Ext.drew | apply Ext.alloc | (refine Ext.setCell ?_ (by first | (simp; done) | (simp; omega) | omega) _) | (refine Ext.trans ?_ (by assumption)) | (refine Ext.trans ?_ (held_left (by assumption))))))⟩)
  have hn8 : cols.length ≤ 1000 := by have := (HB.out (by first | exact rfl | exact trivial)).2.2.2.1; omega
  have hna : l.length ≤ 1000 := by have := (HB.out (by first | exact rfl | exact trivial)).2.2.1; omega
  have HE2 := Hid.mk' (show Ext w w2 by (repeat (with_reducible (first | exact Ext.refl _ | assumption | exact held_left (by assumption) | apply Ext.drewN | apply Ext.drew | apply Ext.alloc | (refine Ext.setCell ?_ (by first | (simp; done) | (simp; omega) | omega) _) | (refine Ext.trans ?_ (by assumption)) | (refine Ext.trans ?_ (held_left (by assumption)))))))
  have z0 : w.heap.size < w2.heap.size := by have := hb2.size; simp at this; omega
  have HS : Hid (∀ w', Ext w2 w' → Ext w2 w' ∧ (∀ i, w'.cell? ⟨w.heap.size, i, none⟩ = (#[.int .u32 oid, .int .u32 ver, .string nm, .int .u8 id, .slice a2 cols.length cap2])[i]?) ∧ (∀ b o, b < w2.heap.size → w'.frozen? ⟨b, o, none⟩ = w2.frozen? ⟨b, o, none⟩)) := Hid.mk' (fun w' h => ⟨h, ((Blk.new w #[.int .u32 oid, .int .u32 ver, .string nm, .int .u8 id, .slice a2 cols.length cap2] 27).ext (hb2.trans h)).cell, h.cells.2⟩)
  clear HB HG hb2 hlen hlen2
  go_cut [7, 8] (fun r p wx => ∃ X a3 cap3 b bc, p = .pointer (some ⟨X, 0, none⟩) ∧ r = .slice b l.length bc ∧ cols.length ≤ cap3 ∧ Hid (Blk wx X #[.int .u32 oid, .int .u32 ver, .string nm, .int .u8 id, .slice a3 cols.length cap3] 42) ∧ Hid (Sl wx (.slice a3 cols.length cap3) 3 (cols.map Col.cells)) ∧ Hid (Sl wx (.slice b l.length bc) 5 (l.map K.pc)) ∧ Hid (Ext w2 wx))
  case first =>
    as_aux_lemma =>
      go_region_held3 (fun w' => Ext w2 w' ∧ (∀ i, w'.cell? ⟨w.heap.size, i, none⟩ = (#[.int .u32 oid, .int .u32 ver, .string nm, .int .u8 id, .slice a2 cols.length cap2])[i]?) ∧ (∀ b o, b < w2.heap.size → w'.frozen? ⟨b, o, none⟩ = w2.frozen? ⟨b, o, none⟩)) (exact HS.out _ (by (repeat (with_reducible (first | exact Ext.refl _ | assumption | exact held_left (by assumption) | apply Ext.drewN | apply Ext.drew | apply Ext.alloc | (refine Ext.setCell ?_ (by first | (simp; done) | (simp; omega) | omega) _) | (refine Ext.trans ?_ (by assumption)) | (refine Ext.trans ?_ (held_left (by assumption))))))))
        (first
          | (go_at_call 17; refine (HO8.out _ (HE2.out.trans (by (repeat (with_reducible (first | exact Ext.refl _ | assumption | exact held_left (by assumption) | apply Ext.drewN | apply Ext.drew | apply Ext.alloc | (refine Ext.setCell ?_ (by first | (simp; done) | (simp; omega) | omega) _) | (refine Ext.trans ?_ (by assumption)) | (refine Ext.trans ?_ (held_left (by assumption)))))))) hn8).mono ?_; rintro e w3 ⟨a3, cap3, rfl, h3, hs3, hb3⟩; have H3 := Hid.mk' hs3; clear hs3; obtain ⟨hc3, hf3⟩ := hb3.cells; have hz3 := hb3.size; (try simp at hz3); (try have q3 : w2.heap.size < w3.heap.size := (by omega)); (try have q34 : w4.heap.size < w3.heap.size := (by omega)))
          | (go_at_call 15; refine (HOa.out _ (HE2.out.trans (by (repeat (with_reducible (first | exact Ext.refl _ | assumption | exact held_left (by assumption) | apply Ext.drewN | apply Ext.drew | apply Ext.alloc | (refine Ext.setCell ?_ (by first | (simp; done) | (simp; omega) | omega) _) | (refine Ext.trans ?_ (by assumption)) | (refine Ext.trans ?_ (held_left (by assumption)))))))) hna).mono ?_; rintro e w4 ⟨b, bc, rfl, h4, hs4, hb4⟩; have H4 := Hid.mk' hs4; clear hs4; obtain ⟨hc4, hf4⟩ := hb4.cells; have hz4 := hb4.size; (try simp at hz4); (try have q4 : w2.heap.size < w4.heap.size := (by omega)); (try have q43 : w3.heap.size < w4.heap.size := (by omega))))
      all_goals
        go_wp2
        go_meet
        case rel =>
          refine ⟨_, a3, cap3, b, bc, rfl, rfl, h3, Hid.mk' ?_, Hid.mk' ?_, Hid.mk' ?_, Hid.mk' ?_⟩
          · repeat (with_reducible (first | exact Blk.new _ _ _ | (refine Blk.new' _ _ ?_; (simp; done)) | apply Blk.five | refine Blk.alloc ?_ _ | refine Blk.drew ?_ | refine Blk.ext ?_ hb4 | refine Blk.ext ?_ hb3))
          · first | ((with_reducible refine Fr.sl (Fr.five (Fr.ext H3.out ?_) ?_)); (· (repeat (with_reducible (first | exact Ext.refl _ | assumption | exact held_left (by assumption) | apply Ext.drewN | apply Ext.drew | apply Ext.alloc | (refine Ext.setCell ?_ (by first | (simp; done) | (simp; omega) | omega) _) | (refine Ext.trans ?_ (by assumption)) | (refine Ext.trans ?_ (held_left (by assumption))))))); (· first | (simp; done) | (simp; omega) | omega | (left; simp; done) | (left; simp; omega) | (right; simp; done) | (right; simp; omega))) | ((with_reducible refine Fr.sl (Fr.ext H3.out ?_)); · (repeat (with_reducible (first | exact Ext.refl _ | assumption | exact held_left (by assumption) | apply Ext.drewN | apply Ext.drew | apply Ext.alloc | (refine Ext.setCell ?_ (by first | (simp; done) | (simp; omega) | omega) _) | (refine Ext.trans ?_ (by assumption)) | (refine Ext.trans ?_ (held_left (by assumption)))))))
          · first | ((with_reducible refine Fr.sl (Fr.five (Fr.ext H4.out ?_) ?_)); (· (repeat (with_reducible (first | exact Ext.refl _ | assumption | exact held_left (by assumption) | apply Ext.drewN | apply Ext.drew | apply Ext.alloc | (refine Ext.setCell ?_ (by first | (simp; done) | (simp; omega) | omega) _) | (refine Ext.trans ?_ (by assumption)) | (refine Ext.trans ?_ (held_left (by assumption))))))); (· first | (simp; done) | (simp; omega) | omega | (left; simp; done) | (left; simp; omega) | (right; simp; done) | (right; simp; omega))) | ((with_reducible refine Fr.sl (Fr.ext H4.out ?_)); · (repeat (with_reducible (first | exact Ext.refl _ | assumption | exact held_left (by assumption) | apply Ext.drewN | apply Ext.drew | apply Ext.alloc | (refine Ext.setCell ?_ (by first | (simp; done) | (simp; omega) | omega) _) | (refine Ext.trans ?_ (by assumption)) | (refine Ext.trans ?_ (held_left (by assumption)))))))
          · (repeat (with_reducible (first | exact Ext.refl _ | assumption | exact held_left (by assumption) | apply Ext.drewN | apply Ext.drew | apply Ext.alloc | (refine Ext.setCell ?_ (by first | (simp; done) | (simp; omega) | omega) _) | (refine Ext.trans ?_ (by assumption)) | (refine Ext.trans ?_ (held_left (by assumption))))))
  case rest =>
    as_aux_lemma =>
      obtain ⟨X, a3, cap3, b, bc, rfl, rfl, h3, HX, H3, H4, HEc⟩ := hcut
      have HEN := Hid.mk' (fun W' (h : Ext wc W') => (encode_any l b bc oid ver nm id cols a3 cap3 version W' (H4.out.ext h) (H3.out.ext h) h3 hna hn8 HSS.out.1 HSS.out.2.1 HSS.out.2.2).mono (fun e w' h => h.sl))
      have HFT := Hid.mk' (fun W' (h : Ext wc W') => fits_any l b bc oid ver nm id cols a3 cap3 W' (H4.out.ext h) (H3.out.ext h) h3 hna hn8 (fun c hc => (HSS.out.1 c hc).towk) HSS.out.2.1 HSS.out.2.2)
      have HHO := Hid.mk' (fun W' (h : Ext wc W') => holes_any l b bc W' (H4.out.ext h) hna)
      have HTX := Hid.mk' (fun W' (h : Ext wc W') => texts_any l b bc W' (H4.out.ext h) hna)
      have HEw := Hid.mk' (HE2.out.trans HEc.out)
      have HRE2 := Hid.mk' (fun W' (h : Ext wc W') => HRE.out W' (HEw.out.trans h) hn8 hna)
      have HRF2 := Hid.mk' (fun W' (h : Ext wc W') => HRF.out W' (HEw.out.trans h) hn8 hna)
      have HRH2 := Hid.mk' (fun W' (h : Ext wc W') => HRH.out W' (HEw.out.trans h) hna)
      have hhl : (hoL l).length ≤ 1000 := by rw [hoL_len]; exact Nat.le_trans (larges_len l _) hna
      have htl : (txL l).length ≤ 1000 := by rw [txL_len]; exact Nat.le_trans (larges_len l _) hna
      have HHQ := Hid.mk' (fun W' a b ca cb h1 h2 => holesq_any (hoL l) a b ca cb W' h1 h2 hhl)
      have HR0 : Hid (∀ w', Ext wc w' → ∀ i, w'.cell? ⟨w.heap.size, i, none⟩ = (#[.int .u32 oid, .int .u32 ver, .string nm, .int .u8 id, .slice a2 cols.length cap2])[i]?) := Hid.mk' (fun w' h => (HS.out _ (HEc.out.trans h)).2.1)
      have HX0 : Hid (∀ w', Ext wc w' → ∀ i, w'.cell? ⟨X, i, none⟩ = (#[.int .u32 oid, .int .u32 ver, .string nm, .int .u8 id, .slice a3 cols.length cap3])[i]?) := Hid.mk' (fun w' h => (HX.out.ext h).cell)
      obtain ⟨R, hR⟩ : ∃ R, R = encB l (⟨oid, ver, nm, id, cols⟩ : Rl) version := ⟨_, rfl⟩
      rw [← hR] at HEN HRE2
      obtain ⟨S, hS⟩ : ∃ S, S = strOfNums R := ⟨_, rfl⟩
      have HCV : Hid (∀ W v, Sl W v 1 (R.map bcell) → (convert 80 9 v).run Try.prog W = .ok (.string S) W) := Hid.mk' (fun W v h => by rw [hS]; exact conv_Sl h)
      obtain ⟨E, hE⟩ : ∃ E, E = encE l (⟨oid, ver, nm, id, cols⟩ : Rl) version := ⟨_, rfl⟩
      obtain ⟨F, hF⟩ : ∃ F, F = fitsE l (⟨oid, ver, nm, id, cols⟩ : Rl) := ⟨_, rfl⟩
      obtain ⟨T, hT⟩ : ∃ T, T = txL l := ⟨_, rfl⟩
      obtain ⟨O, hO⟩ : ∃ O, O = hoL l := ⟨_, rfl⟩
      rw [← hE] at HEN HRE2
      rw [← hF] at HFT HRF2
      rw [← hT] at HTX HRH2 htl
      rw [← hO] at HHO HRH2 HHQ
      have gX := HX0.out wc (Ext.refl _)
      clear HSS HO8 HOa HS H3 H4 hn8 hna HE2 HEc HX HRE HRF HRH hR hS hE hF hT hO hhl
      go_upto_region 8 with (first
        | (go_at_call 38; refine (HEN.out _ (by (repeat (with_reducible (first | exact Ext.refl _ | assumption | exact held_left (by assumption) | apply Ext.drewN | apply Ext.drew | apply Ext.alloc | (refine Ext.setCell ?_ (by first | (simp; done) | (simp; omega) | omega) _) | (refine Ext.trans ?_ (by assumption)) | (refine Ext.trans ?_ (held_left (by assumption)))))))).mono ?_; rintro e w3 ⟨v1, rfl, hs1, hb3⟩; have H1 := Hid.mk' hs1; have k3 := HR0.out w3 (by (repeat (with_reducible (first | exact Ext.refl _ | assumption | exact held_left (by assumption) | apply Ext.drewN | apply Ext.drew | apply Ext.alloc | (refine Ext.setCell ?_ (by first | (simp; done) | (simp; omega) | omega) _) | (refine Ext.trans ?_ (by assumption)) | (refine Ext.trans ?_ (held_left (by assumption))))))); clear hs1 gX)
        | (go_at_call 39; refine (HRE2.out _ (by (repeat (with_reducible (first | exact Ext.refl _ | assumption | exact held_left (by assumption) | apply Ext.drewN | apply Ext.drew | apply Ext.alloc | (refine Ext.setCell ?_ (by first | (simp; done) | (simp; omega) | omega) _) | (refine Ext.trans ?_ (by assumption)) | (refine Ext.trans ?_ (held_left (by assumption)))))))).mono ?_; rintro e w4 ⟨v2, rfl, hs2, hb4⟩; have H2 := Hid.mk' hs2; clear hs2 k3)
        | (go_at_call 40; refine (HRH2.out _ (by (repeat (with_reducible (first | exact Ext.refl _ | assumption | exact held_left (by assumption) | apply Ext.drewN | apply Ext.drew | apply Ext.alloc | (refine Ext.setCell ?_ (by first | (simp; done) | (simp; omega) | omega) _) | (refine Ext.trans ?_ (by assumption)) | (refine Ext.trans ?_ (held_left (by assumption)))))))).mono ?_; rintro e w5 ⟨a5, c5, a6, c6, rfl, hs5, hs6, hb5⟩; have H5 := Hid.mk' hs5; have H6 := Hid.mk' hs6; clear hs5 hs6)
        | (go_at_call 41; refine (HTX.out _ (by (repeat (with_reducible (first | exact Ext.refl _ | assumption | exact held_left (by assumption) | apply Ext.drewN | apply Ext.drew | apply Ext.alloc | (refine Ext.setCell ?_ (by first | (simp; done) | (simp; omega) | omega) _) | (refine Ext.trans ?_ (by assumption)) | (refine Ext.trans ?_ (held_left (by assumption)))))))).mono ?_; rintro e w7 ⟨a7, c7, rfl, hs7, hb7⟩; have H7 := Hid.mk' hs7; clear hs7))
      have HE7 := Hid.mk' (show Ext wc w7 by (repeat (with_reducible (first | exact Ext.refl _ | assumption | exact held_left (by assumption) | apply Ext.drewN | apply Ext.drew | apply Ext.alloc | (refine Ext.setCell ?_ (by first | (simp; done) | (simp; omega) | omega) _) | (refine Ext.trans ?_ (by assumption)) | (refine Ext.trans ?_ (held_left (by assumption)))))))
      have HS2 : Hid (∀ w', Ext w7 w' → Ext w7 w' ∧ (∀ i, w'.cell? ⟨w.heap.size, i, none⟩ = (#[.int .u32 oid, .int .u32 ver, .string nm, .int .u8 id, .slice a2 cols.length cap2])[i]?) ∧ (∀ i, w'.cell? ⟨X, i, none⟩ = (#[.int .u32 oid, .int .u32 ver, .string nm, .int .u8 id, .slice a3 cols.length cap3])[i]?) ∧ (convert 80 9 v1).run Try.prog w' = .ok (.string S) w' ∧ (convert 80 9 v2).run Try.prog w' = .ok (.string S) w') := Hid.mk' (fun w' h => ⟨h, HR0.out _ (HE7.out.trans h), HX0.out _ (HE7.out.trans h), HCV.out _ _ (H1.out.ext ((show Ext w3 w7 by (repeat (with_reducible (first | exact Ext.refl _ | assumption | exact held_left (by assumption) | apply Ext.drewN | apply Ext.drew | apply Ext.alloc | (refine Ext.setCell ?_ (by first | (simp; done) | (simp; omega) | omega) _) | (refine Ext.trans ?_ (by assumption)) | (refine Ext.trans ?_ (held_left (by assumption))))))).trans h)), HCV.out _ _ (H2.out.ext ((show Ext w4 w7 by (repeat (with_reducible (first | exact Ext.refl _ | assumption | exact held_left (by assumption) | apply Ext.drewN | apply Ext.drew | apply Ext.alloc | (refine Ext.setCell ?_ (by first | (simp; done) | (simp; omega) | omega) _) | (refine Ext.trans ?_ (by assumption)) | (refine Ext.trans ?_ (held_left (by assumption))))))).trans h))⟩)
      have HFT7 := Hid.mk' (fun W' (h : Ext w7 W') => HFT.out W' (HE7.out.trans h))
      have HRF7 := Hid.mk' (fun W' (h : Ext w7 W') => HRF2.out W' (HE7.out.trans h))
      have HHO7 := Hid.mk' (fun W' (h : Ext w7 W') => HHO.out W' (HE7.out.trans h))
      have H57 := Hid.mk' (H5.out.ext (show Ext w5 w7 by (repeat (with_reducible (first | exact Ext.refl _ | assumption | exact held_left (by assumption) | apply Ext.drewN | apply Ext.drew | apply Ext.alloc | (refine Ext.setCell ?_ (by first | (simp; done) | (simp; omega) | omega) _) | (refine Ext.trans ?_ (by assumption)) | (refine Ext.trans ?_ (held_left (by assumption))))))))
      have H67 := Hid.mk' (H6.out.ext (show Ext w5 w7 by (repeat (with_reducible (first | exact Ext.refl _ | assumption | exact held_left (by assumption) | apply Ext.drewN | apply Ext.drew | apply Ext.alloc | (refine Ext.setCell ?_ (by first | (simp; done) | (simp; omega) | omega) _) | (refine Ext.trans ?_ (by assumption)) | (refine Ext.trans ?_ (held_left (by assumption))))))))
      have HEz := Hid.mk' (HEw.out.trans HE7.out)
      clear hb3 hb4 hb5 hb7 HCV HEN HRE2 HRH2 HTX HFT HRF2 HHO HR0 HX0 H1 H2 H5 H6 HE7 HEw
      go_region_held3 (fun w' => Ext w7 w' ∧ (∀ i, w'.cell? ⟨w.heap.size, i, none⟩ = (#[.int .u32 oid, .int .u32 ver, .string nm, .int .u8 id, .slice a2 cols.length cap2])[i]?) ∧ (∀ i, w'.cell? ⟨X, i, none⟩ = (#[.int .u32 oid, .int .u32 ver, .string nm, .int .u8 id, .slice a3 cols.length cap3])[i]?) ∧ (convert 80 9 v1).run Try.prog w' = .ok (.string S) w' ∧ (convert 80 9 v2).run Try.prog w' = .ok (.string S) w') (exact HS2.out _ (by (repeat (with_reducible (first | exact Ext.refl _ | assumption | exact held_left (by assumption) | apply Ext.drewN | apply Ext.drew | apply Ext.alloc | (refine Ext.setCell ?_ (by first | (simp; done) | (simp; omega) | omega) _) | (refine Ext.trans ?_ (by assumption)) | (refine Ext.trans ?_ (held_left (by assumption))))))))
        (first
          | (go_at_call 42; refine (HFT7.out _ (by (repeat (with_reducible (first | exact Ext.refl _ | assumption | exact held_left (by assumption) | apply Ext.drewN | apply Ext.drew | apply Ext.alloc | (refine Ext.setCell ?_ (by first | (simp; done) | (simp; omega) | omega) _) | (refine Ext.trans ?_ (by assumption)) | (refine Ext.trans ?_ (held_left (by assumption)))))))).mono ?_; rintro e w8 ⟨rfl, hb8⟩)
          | (go_at_call 43; refine (HRF7.out _ (by (repeat (with_reducible (first | exact Ext.refl _ | assumption | exact held_left (by assumption) | apply Ext.drewN | apply Ext.drew | apply Ext.alloc | (refine Ext.setCell ?_ (by first | (simp; done) | (simp; omega) | omega) _) | (refine Ext.trans ?_ (by assumption)) | (refine Ext.trans ?_ (held_left (by assumption)))))))).mono ?_; rintro e w9 ⟨rfl, hb9⟩)
          | (go_at_call 45; refine (HHO7.out _ (by (repeat (with_reducible (first | exact Ext.refl _ | assumption | exact held_left (by assumption) | apply Ext.drewN | apply Ext.drew | apply Ext.alloc | (refine Ext.setCell ?_ (by first | (simp; done) | (simp; omega) | omega) _) | (refine Ext.trans ?_ (by assumption)) | (refine Ext.trans ?_ (held_left (by assumption)))))))).mono ?_; rintro e w10 ⟨a10, c10, rfl, hs10, hb10⟩; have H10 := Hid.mk' hs10; clear hs10)
          | (go_at_call 44; refine (HHQ.out _ _ _ _ _ (H10.out.ext (by (repeat (with_reducible (first | exact Ext.refl _ | assumption | exact held_left (by assumption) | apply Ext.drewN | apply Ext.drew | apply Ext.alloc | (refine Ext.setCell ?_ (by first | (simp; done) | (simp; omega) | omega) _) | (refine Ext.trans ?_ (by assumption)) | (refine Ext.trans ?_ (held_left (by assumption)))))))) (H57.out.ext (by (repeat (with_reducible (first | exact Ext.refl _ | assumption | exact held_left (by assumption) | apply Ext.drewN | apply Ext.drew | apply Ext.alloc | (refine Ext.setCell ?_ (by first | (simp; done) | (simp; omega) | omega) _) | (refine Ext.trans ?_ (by assumption)) | (refine Ext.trans ?_ (held_left (by assumption))))))))).mono ?_; rintro e w11 ⟨rfl, hb11⟩))
      have HE11 := Hid.mk' (show Ext w7 w11 by (repeat (with_reducible (first | exact Ext.refl _ | assumption | exact held_left (by assumption) | apply Ext.drewN | apply Ext.drew | apply Ext.alloc | (refine Ext.setCell ?_ (by first | (simp; done) | (simp; omega) | omega) _) | (refine Ext.trans ?_ (by assumption)) | (refine Ext.trans ?_ (held_left (by assumption)))))))
      go_wp2
      go_loopw [16] (fun i wr => ∃ k : Nat, k ≤ T.length ∧ i = .int .i64 k ∧ Hid (Ext w7 wr)) (fun i _ => T.length - (intOf i).toNat)
      case atStart => exact ⟨0, Nat.zero_le _, rfl, Hid.mk' (HE11.out.trans (by (repeat (with_reducible (first | exact Ext.refl _ | assumption | exact held_left (by assumption) | apply Ext.drewN | apply Ext.drew | apply Ext.alloc | (refine Ext.setCell ?_ (by first | (simp; done) | (simp; omega) | omega) _) | (refine Ext.trans ?_ (by assumption)) | (refine Ext.trans ?_ (held_left (by assumption))))))))⟩
      case round =>
        obtain ⟨k, hk, rfl, hE⟩ := hrel
        by_cases hlt : k < T.length
        · obtain ⟨b1, o1, rfl, hb1, hx1⟩ := H7.out.at_ (i := k) (by simpa using hlt)
          have f0 := str_at hlt hx1 hb1 hE.out
          obtain ⟨b2, o2, rfl, hb2, hx2⟩ := H67.out.at_ (i := k) (by simpa using hlt)
          have p0 := str_at hlt hx2 hb2 hE.out
          have hbw : b1 < wr.heap.size := Nat.lt_of_lt_of_le hb1 hE.out.size
          have hbw2 : b2 < wr.heap.size := Nat.lt_of_lt_of_le hb2 hE.out.size
          obtain ⟨t, ht⟩ : ∃ t, t = T[k] := ⟨_, rfl⟩
          rw [← ht] at f0 p0
          clear hx1 hx2 ht
          go_wp2
          go_region_held3 (fun w' => Ext (wr) w' ∧ (∀ b o, b < (wr).heap.size → w'.cell? ⟨b, o, none⟩ = (wr).cell? ⟨b, o, none⟩) ∧ (∀ b o, b < (wr).heap.size → w'.frozen? ⟨b, o, none⟩ = (wr).frozen? ⟨b, o, none⟩)) ((exact held_of (by (repeat (with_reducible (first | exact Ext.refl _ | assumption | exact held_left (by assumption) | apply Ext.drewN | apply Ext.drew | apply Ext.alloc | (refine Ext.setCell ?_ (by first | (simp; done) | (simp; omega) | omega) _) | (refine Ext.trans ?_ (by assumption)) | (refine Ext.trans ?_ (held_left (by assumption))))))))) (fail)
          go_wp2
          go_roundw
          case rel => exact ⟨k + 1, by omega, by go_num, Hid.mk' (hE.out.trans (by (repeat (with_reducible (first | exact Ext.refl _ | assumption | exact held_left (by assumption) | apply Ext.drewN | apply Ext.drew | apply Ext.alloc | (refine Ext.setCell ?_ (by first | (simp; done) | (simp; omega) | omega) _) | (refine Ext.trans ?_ (by assumption)) | (refine Ext.trans ?_ (held_left (by assumption))))))))⟩
          case measure => simp [intOf]; omega
        · have hkk : k = T.length := by omega
          subst hkk
          go_wp2_with (go_at_call 46; refine (awake10_any _).mono ?_; rintro e w12 ⟨rfl, hb12⟩)
          go_ret
          exact ⟨rfl, HEz.out.trans (hE.out.trans (by (repeat (with_reducible (first | exact Ext.refl _ | assumption | exact held_left (by assumption) | apply Ext.drewN | apply Ext.drew | apply Ext.alloc | (refine Ext.setCell ?_ (by first | (simp; done) | (simp; omega) | omega) _) | (refine Ext.trans ?_ (by assumption)) | (refine Ext.trans ?_ (held_left (by assumption))))))))⟩

end Go.Proofs.Ytdbepkfblfhlhaa
