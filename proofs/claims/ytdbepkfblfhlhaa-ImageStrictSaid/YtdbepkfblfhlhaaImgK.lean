/-
The walk of ImageKeys; the key of a full image.
-/
import Derived.Test.YtdbepkfblfhlhaaImgP
import Derived.Test.YtdbepkfblfhlhaaGreatK
import Derived.Test.YtdbepkfblfhlhaaAwake12
namespace Go.Proofs.Ytdbepkfblfhlhaa
open Go.RowKit

theorem keyOf_idem {cols : List Col} {l : List K} : keyOf cols (keyOf cols l) = keyOf cols l := by
  apply List.ext_getElem
  · rw [keyOf_len]
  · intro i h1 h2
    rw [keyOf_get]
    by_cases h : isKeyAt cols i = true
    · rw [if_pos h]
    · rw [if_neg h, keyOf_get, if_neg h]
theorem keyed_first {l : List K} {r : Rl} (h : keyedE l r = 0) : firstE (keyE r.cols l) l.length = 0 := by
  have := keyed_fits h
  unfold keyedE at h
  rwa [if_neg (by simpa using this)] at h
theorem zero_right {kind : Int} (h : 1 ≤ kind ∧ kind ≤ 6) : K.zero.right kind = 0 := by
  unfold K.right rightC
  rw [if_neg (by omega), if_neg (by simp [K.zero]), if_pos (by simp [K.zero]), if_pos ⟨rfl, rfl, rfl, rfl, rfl⟩, if_neg (by simp [K.zero])]
theorem right_kind {c : K} {kind : Int} (h : c.right kind = 0) : 1 ≤ kind ∧ kind ≤ 6 := by
  unfold K.right rightC at h
  split at h
  · cases h
  · omega
/-- The key of a row that fits fits, with its key. -/
theorem keyed_keyOf {l : List K} {r : Rl} (h : keyedE l r = 0) : keyedE (keyOf r.cols l) r = 0 := by
  obtain ⟨hr, hl, hx⟩ := fits_zero (keyed_fits h)
  have hf : fitsE (keyOf r.cols l) r = 0 := by
    unfold fitsE
    rw [if_neg (by simpa using hr), if_neg (by rw [keyOf_len]; simpa using hl)]
    refine firstE_zero fun i hi => ?_
    have hi1 : i < l.length := by rwa [keyOf_len] at hi
    have hi2 : i < r.cols.length := by omega
    rw [fitAt_lt hi hi2, keyOf_get]
    split
    · exact hx i hi1 hi2
    · exact zero_right (right_kind (hx i hi1 hi2))
  unfold keyedE
  rw [if_neg (by simpa using hf)]
  refine firstE_zero fun i hi => ?_
  have hi1 : i < l.length := by rwa [keyOf_len] at hi
  have := firstE_all (keyed_first h) i hi1
  unfold keyE at this ⊢
  by_cases hk : isKeyAt r.cols i = true
  · rw [if_pos hk] at this ⊢
    rw [kindAt_lt hi, keyOf_get, if_pos hk, ← kindAt_lt hi1]
    exact this
  · rw [if_neg hk]
theorem isKey_keyOf {l : List K} {r : Rl} (h : keyedE l r = 0) : isKeyE (keyOf r.cols l) r = 0 := by
  unfold isKeyE
  rw [if_neg (by simpa using keyed_keyOf h)]
  refine firstE_zero fun i hi => ?_
  unfold nonE
  rw [if_neg]
  rintro ⟨h1, h2⟩
  rw [kindAt_lt hi, keyOf_get, if_neg (by rw [h1]; simp)] at h2
  exact h2 rfl
theorem full_keyed {l : List K} {r : Rl} (h : isFullE l r = 0) : keyedE l r = 0 := by
  unfold isFullE at h
  split at h
  · rename_i h1; exact absurd h h1
  · rename_i h1; simpa using h1
theorem isKey_eq {l : List K} {r : Rl} (h : keyedE l r = 0) (hk : ∀ c ∈ l, c.wk) : decide (isKeyE l r = 0) = rowB l (keyOf r.cols l) := by
  rw [isKey_row h hk]
  unfold isKeyE
  rw [if_neg (by simpa using h)]

theorem keyOf_wk {cols : List Col} {l : List K} (h : ∀ c ∈ l, c.wk) : ∀ c ∈ keyOf cols l, c.wk := by
  intro c hc
  obtain ⟨i, hi, rfl⟩ := List.getElem_of_mem hc
  rw [keyOf_get]
  split
  · exact h _ (List.getElem_mem _)
  · exact ⟨by simp [K.zero], by simp [K.zero, V.zero]⟩

set_option maxRecDepth 100000 in set_option maxHeartbeats 4000000 in
theorem imgkeys_any (l : List K) (a : Option Addr) (cap : Nat) (oid ver : Int) (nm : ByteArray) (id : Int) (cols : List Col) (a2 : Option Addr) (cap2 : Nat) (w : World) (hl : Sl w (.slice a l.length cap) 6 (l.map K.rc)) (hl2 : Sl w (.slice a2 cols.length cap2) 3 (cols.map Col.cells))
    (hlen : l.length ≤ 9223372036854775807) (hlen2 : cols.length ≤ 9223372036854775807) (hs : ∀ c ∈ l, c.wk) (hs2 : ∀ c ∈ cols, c.nm.size ≤ 9223372036854775807) (hnm : nm.size ≤ 9223372036854775807) :
    Calls Try.prog 5 #[.agg #[.int .u32 oid, .int .u32 ver, .string nm, .int .u8 id, .slice a2 cols.length cap2], .slice a l.length cap] w fun e w' => e = .returned (.bool true) ∧ Ext w w' := by
  have HG := Hid.mk' (fun W (h : Ext w W) => greatK_any l a cap oid ver nm id cols a2 cap2 W (hl.ext h) (hl2.ext h) hlen hlen2 (fun c hc => (hs c hc).s) hs2 hnm)
  have HO8 := Hid.mk' (fun W (h : Ext w W) (hn : cols.length ≤ 1000) => own8_any oid ver nm id cols a2 cap2 W (hl2.ext h) hn)
  have HO10 := Hid.mk' (fun W (h : Ext w W) (hn : l.length ≤ 1000) => ownK_any l a cap W (hl.ext h) hn)
  have HF := Hid.mk' (fun a3 cap3 (b : Option Addr) (bc : Nat) (h3 : cols.length ≤ cap3) W (hn : cols.length ≤ 1000) (hm : l.length ≤ 1000) (h4 : Sl W (.slice a3 cols.length cap3) 3 (cols.map Col.cells)) (h5 : Sl W (.slice b l.length bc) 5 (l.map K.pc)) => isFull_any' oid ver nm id cols a3 cap3 l b bc W h4 h3 hn h5 hm hs hs2 hnm)
  have HK := Hid.mk' (fun a3 cap3 (b : Option Addr) (bc : Nat) (h3 : cols.length ≤ cap3) W (hn : cols.length ≤ 1000) (hm : l.length ≤ 1000) (h4 : Sl W (.slice a3 cols.length cap3) 3 (cols.map Col.cells)) (h5 : Sl W (.slice b l.length bc) 5 (l.map K.pc)) => isKey_any' oid ver nm id cols a3 cap3 l b bc W h4 h3 hn h5 hm hs hs2 hnm)
  have HKo := Hid.mk' (fun a3 cap3 (b : Option Addr) (bc : Nat) W (hn : cols.length ≤ 1000) (hm : l.length ≤ 1000) (h4 : Sl W (.slice a3 cols.length cap3) 3 (cols.map Col.cells)) (h5 : Sl W (.slice b l.length bc) 5 (l.map K.pc)) => keyOf_any oid ver nm id cols a3 cap3 l b bc W h4 hn h5 hm)
  have HIK0 := Hid.mk' (fun a3 cap3 (b : Option Addr) (bc : Nat) (h3 : cols.length ≤ cap3) W (hn : cols.length ≤ 1000) (hm : l.length ≤ 1000) (h4 : Sl W (.slice a3 cols.length cap3) 3 (cols.map Col.cells)) (h5 : Sl W (.slice b (keyOf cols l).length bc) 5 ((keyOf cols l).map K.pc)) => isKey_any' oid ver nm id cols a3 cap3 (keyOf cols l) b bc W h4 h3 hn h5 (by rw [keyOf_len]; exact hm) (keyOf_wk hs) hs2 hnm)
  rw [keyOf_len] at HIK0
  have HISK := Hid.mk' (fun h => isKey_eq (l := l) (r := (⟨oid, ver, nm, id, cols⟩ : Rl)) h hs)
  clear hl hl2 hs hs2 hnm
  go_enter Try.func5, Try.ntmps5
  go_upto_region 3 with (go_at_call 14; refine (HG.out _ (by (repeat (with_reducible (first | exact Ext.refl _ | assumption | exact held_left (by assumption) | apply Ext.drewN | apply Ext.drew | apply Ext.alloc | (refine Ext.setCell ?_ (by first | (simp; done) | (simp; omega) | omega) _) | (refine Ext.trans ?_ (by assumption)) | (refine Ext.trans ?_ (held_left (by assumption)))))))).mono ?_; rintro e w1 ⟨g, rfl, hg, hb1⟩; have g0 := ((Blk.new w #[.int .u32 oid, .int .u32 ver, .string nm, .int .u8 id, .slice a2 cols.length cap2] 27).ext hb1).cell; have HB := Hid.mk' hg; clear hg; cases g)
  all_goals try (go_ret; exact ⟨rfl, by (repeat (with_reducible (first | exact Ext.refl _ | assumption | exact held_left (by assumption) | apply Ext.drewN | apply Ext.drew | apply Ext.alloc | (refine Ext.setCell ?_ (by first | (simp; done) | (simp; omega) | omega) _) | (refine Ext.trans ?_ (by assumption)) | (refine Ext.trans ?_ (held_left (by assumption))))))⟩)
  go_upto_region 4 with (first
    | (go_at_call 17; (refine (HO8.out _ (by (repeat (with_reducible (first | exact Ext.refl _ | assumption | exact held_left (by assumption) | apply Ext.drewN | apply Ext.drew | apply Ext.alloc | (refine Ext.setCell ?_ (by first | (simp; done) | (simp; omega) | omega) _) | (refine Ext.trans ?_ (by assumption)) | (refine Ext.trans ?_ (held_left (by assumption))))))) (by have := (HB.out (by first | exact rfl | exact trivial)).2.2.2.1; omega)).mono ?_; rintro e w2 ⟨a3, cap3, rfl, h3, hs3, hb2⟩; have H3 := Hid.mk' hs3; clear hs3))
    | (go_at_call 15; refine (HO10.out _ (by (repeat (with_reducible (first | exact Ext.refl _ | assumption | exact held_left (by assumption) | apply Ext.drewN | apply Ext.drew | apply Ext.alloc | (refine Ext.setCell ?_ (by first | (simp; done) | (simp; omega) | omega) _) | (refine Ext.trans ?_ (by assumption)) | (refine Ext.trans ?_ (held_left (by assumption))))))) (by have := (HB.out (by first | exact rfl | exact trivial)).2.2.1; omega)).mono ?_; rintro e w3 ⟨b, bc, rfl, h4, hs4, hb3⟩; have H4 := Hid.mk' hs4; clear hs4))
  have hn : cols.length ≤ 1000 := by have := (HB.out (by first | exact rfl | exact trivial)).2.2.2.1; omega
  have hm : l.length ≤ 1000 := by have := (HB.out (by first | exact rfl | exact trivial)).2.2.1; omega
  have HE := Hid.mk' (show Ext w (w3.alloc (.cells #[.int .u32 oid, .int .u32 ver, .string nm, .int .u8 id, .slice a3 cols.length cap3] 42)) by (repeat (with_reducible (first | exact Ext.refl _ | assumption | exact held_left (by assumption) | apply Ext.drewN | apply Ext.drew | apply Ext.alloc | (refine Ext.setCell ?_ (by first | (simp; done) | (simp; omega) | omega) _) | (refine Ext.trans ?_ (by assumption)) | (refine Ext.trans ?_ (held_left (by assumption)))))))
  have H3' := Hid.mk' (H3.out.ext (show Ext w2 (w3.alloc (.cells #[.int .u32 oid, .int .u32 ver, .string nm, .int .u8 id, .slice a3 cols.length cap3] 42)) by (repeat (with_reducible (first | exact Ext.refl _ | assumption | exact held_left (by assumption) | apply Ext.drewN | apply Ext.drew | apply Ext.alloc | (refine Ext.setCell ?_ (by first | (simp; done) | (simp; omega) | omega) _) | (refine Ext.trans ?_ (by assumption)) | (refine Ext.trans ?_ (held_left (by assumption))))))))
  have H4' := Hid.mk' (H4.out.ext (show Ext w3 (w3.alloc (.cells #[.int .u32 oid, .int .u32 ver, .string nm, .int .u8 id, .slice a3 cols.length cap3] 42)) by (repeat (with_reducible (first | exact Ext.refl _ | assumption | exact held_left (by assumption) | apply Ext.drewN | apply Ext.drew | apply Ext.alloc | (refine Ext.setCell ?_ (by first | (simp; done) | (simp; omega) | omega) _) | (refine Ext.trans ?_ (by assumption)) | (refine Ext.trans ?_ (held_left (by assumption))))))))
  have HX := Hid.mk' (Blk.new w3 #[.int .u32 oid, .int .u32 ver, .string nm, .int .u8 id, .slice a3 cols.length cap3] 42)
  obtain ⟨W, hW⟩ : ∃ W, W = w3.alloc (.cells #[.int .u32 oid, .int .u32 ver, .string nm, .int .u8 id, .slice a3 cols.length cap3] 42) := ⟨_, rfl⟩
  obtain ⟨X, hX⟩ : ∃ X, X = w3.heap.size := ⟨_, rfl⟩
  rw [← hW] at HE H3' H4' HX ⊢
  rw [← hX] at HX ⊢
  clear H3 H4 hW hX hb3 hb2 hb1 g0 HB HO8 HO10 HG
  have HF2 := Hid.mk' (fun W' (h : Ext W W') => HF.out a3 cap3 b bc h3 W' hn hm (H3'.out.ext h) (H4'.out.ext h))
  have HK2 := Hid.mk' (fun W' (h : Ext W W') => HK.out a3 cap3 b bc h3 W' hn hm (H3'.out.ext h) (H4'.out.ext h))
  have HKo2 := Hid.mk' (fun W' (h : Ext W W') => HKo.out a3 cap3 b bc W' hn hm (H3'.out.ext h) (H4'.out.ext h))
  have HIK := Hid.mk' (fun W' g c (h : Ext W W') (hr : RowAt W' g (keyOf cols l)) => HIK0.out a3 cap3 (some ⟨g, 0, none⟩) c h3 W' hn hm (H3'.out.ext h) (by have := hr.sl c; rwa [keyOf_len] at this))
  have HKK := Hid.mk' (fun W' g c (h : Ext W W') (hr : RowAt W' g (keyOf cols l)) => keyOf_any oid ver nm id cols a3 cap3 (keyOf cols l) (some ⟨g, 0, none⟩) c W' (H3'.out.ext h) hn (hr.sl c) (by rw [keyOf_len]; exact hm))
  have HA1 := Hid.mk' (fun W' g g' c c' (hr : RowAt W' g (keyOf cols l)) (hr' : RowAt W' g' (keyOf cols l)) => alike_any (keyOf cols l) (keyOf cols l) (some ⟨g, 0, none⟩) (some ⟨g', 0, none⟩) c c' W' (hr.sl c) (hr'.sl c') (by rw [keyOf_len]; exact hm) (by rw [keyOf_len]; exact hm))
  have HA2 := Hid.mk' (fun W' g c (h : Ext W W') (hr : RowAt W' g (keyOf cols l)) => alike_any l (keyOf cols l) b (some ⟨g, 0, none⟩) bc c W' (H4'.out.ext h) (hr.sl c) hm (by rw [keyOf_len]; exact hm))
  rw [keyOf_idem] at HKK
  rw [rowB_true.2 rfl] at HA1
  rw [keyOf_len] at HKK HA1 HA2
  clear HF HK HKo HIK0 H3' H4' hn hm
  have x0 := HX.out.cell
  by_cases h0 : isFullE l (⟨oid, ver, nm, id, cols⟩ : Rl) = 0
  case neg =>
    obtain ⟨E, hE⟩ : ∃ E, E = isFullE l (⟨oid, ver, nm, id, cols⟩ : Rl) := ⟨_, rfl⟩
    rw [← hE] at HF2 h0
    have h0' : (E != 0) = true := by simpa using h0
    clear hE h0
    go_wp2_with (first
      | (go_at_call 29; refine (HF2.out _ (by (repeat (with_reducible (first | exact Ext.refl _ | assumption | exact held_left (by assumption) | apply Ext.drewN | apply Ext.drew | apply Ext.alloc | (refine Ext.setCell ?_ (by first | (simp; done) | (simp; omega) | omega) _) | (refine Ext.trans ?_ (by assumption)) | (refine Ext.trans ?_ (held_left (by assumption)))))))).mono ?_; rintro e w4 ⟨rfl, hb4⟩; have x4 := (HX.out.ext hb4).cell)
      | (go_at_call 31; refine (awake12_any _).mono ?_; rintro e w5 ⟨rfl, hb5⟩))
    go_ret
    exact ⟨rfl, HE.out.trans (by (repeat (with_reducible (first | exact Ext.refl _ | assumption | exact held_left (by assumption) | apply Ext.drewN | apply Ext.drew | apply Ext.alloc | (refine Ext.setCell ?_ (by first | (simp; done) | (simp; omega) | omega) _) | (refine Ext.trans ?_ (by assumption)) | (refine Ext.trans ?_ (held_left (by assumption)))))))⟩
  have HQ := Hid.mk' (HISK.out (full_keyed h0))
  have HQ2 := Hid.mk' (isKey_keyOf (r := (⟨oid, ver, nm, id, cols⟩ : Rl)) (full_keyed h0))
  rw [h0] at HF2
  rw [show isKeyE (keyOf cols l) (⟨oid, ver, nm, id, cols⟩ : Rl) = 0 from HQ2.out] at HIK
  clear h0 HISK HQ2
  obtain ⟨E, hE⟩ : ∃ E, E = isKeyE l (⟨oid, ver, nm, id, cols⟩ : Rl) := ⟨_, rfl⟩
  obtain ⟨B, hB⟩ : ∃ B, B = rowB l (keyOf cols l) := ⟨_, rfl⟩
  rw [← hE] at HK2
  rw [← hB] at HA2
  have HD : B = decide (E = 0) := by rw [hB, hE]; exact HQ.out.symm
  clear hE hB HQ
  by_cases h1 : E = 0
  · rw [h1] at HK2
    rw [HD, decide_eq_true h1] at HA2
    clear h1 HD
    go_wp2_with (first | (go_at_call 29; refine (HF2.out _ (by (repeat (with_reducible (first | exact Ext.refl _ | assumption | exact held_left (by assumption) | apply Ext.drewN | apply Ext.drew | apply Ext.alloc | (refine Ext.setCell ?_ (by first | (simp; done) | (simp; omega) | omega) _) | (refine Ext.trans ?_ (by assumption)) | (refine Ext.trans ?_ (held_left (by assumption)))))))).mono ?_; rintro e w4 ⟨rfl, hb4⟩; have x4 := (HX.out.ext hb4).cell) | (go_at_call_of 25 (Value.slice b l.length bc); refine (HKo2.out _ (by (repeat (with_reducible (first | exact Ext.refl _ | assumption | exact held_left (by assumption) | apply Ext.drewN | apply Ext.drew | apply Ext.alloc | (refine Ext.setCell ?_ (by first | (simp; done) | (simp; omega) | omega) _) | (refine Ext.trans ?_ (by assumption)) | (refine Ext.trans ?_ (held_left (by assumption)))))))).mono ?_; rintro e w5 ⟨g, c, rfl, hc, hgg, hr5, hb5⟩; have HR5 := Hid.mk' hr5; have hE5 : Ext W w5 := (by (repeat (with_reducible (first | exact Ext.refl _ | assumption | exact held_left (by assumption) | apply Ext.drewN | apply Ext.drew | apply Ext.alloc | (refine Ext.setCell ?_ (by first | (simp; done) | (simp; omega) | omega) _) | (refine Ext.trans ?_ (by assumption)) | (refine Ext.trans ?_ (held_left (by assumption))))))); have x5 := (HX.out.ext hE5).cell; clear hr5 hc hgg) | (go_at_call_of 27 (Value.slice (some ⟨g, 0, none⟩) l.length c); refine (HIK.out _ _ _ (by (repeat (with_reducible (first | exact Ext.refl _ | assumption | exact held_left (by assumption) | apply Ext.drewN | apply Ext.drew | apply Ext.alloc | (refine Ext.setCell ?_ (by first | (simp; done) | (simp; omega) | omega) _) | (refine Ext.trans ?_ (by assumption)) | (refine Ext.trans ?_ (held_left (by assumption))))))) HR5.out).mono ?_; rintro e w6 ⟨rfl, hb6⟩; have hE6 : Ext W w6 := (by (repeat (with_reducible (first | exact Ext.refl _ | assumption | exact held_left (by assumption) | apply Ext.drewN | apply Ext.drew | apply Ext.alloc | (refine Ext.setCell ?_ (by first | (simp; done) | (simp; omega) | omega) _) | (refine Ext.trans ?_ (by assumption)) | (refine Ext.trans ?_ (held_left (by assumption))))))); have x6 := (HX.out.ext hE6).cell; have HR6 := Hid.mk' (HR5.out.ext hb6)) | (go_at_call_of 25 (Value.slice (some ⟨g, 0, none⟩) l.length c); refine (HKK.out _ _ _ (by (repeat (with_reducible (first | exact Ext.refl _ | assumption | exact held_left (by assumption) | apply Ext.drewN | apply Ext.drew | apply Ext.alloc | (refine Ext.setCell ?_ (by first | (simp; done) | (simp; omega) | omega) _) | (refine Ext.trans ?_ (by assumption)) | (refine Ext.trans ?_ (held_left (by assumption))))))) HR6.out).mono ?_; rintro e w7 ⟨g7, c7, rfl, hc, hgg, hr7, hb7⟩; have HR7 := Hid.mk' hr7; have hE7 : Ext W w7 := (by (repeat (with_reducible (first | exact Ext.refl _ | assumption | exact held_left (by assumption) | apply Ext.drewN | apply Ext.drew | apply Ext.alloc | (refine Ext.setCell ?_ (by first | (simp; done) | (simp; omega) | omega) _) | (refine Ext.trans ?_ (by assumption)) | (refine Ext.trans ?_ (held_left (by assumption))))))); have HR7' := Hid.mk' (HR6.out.ext hb7); have x7 := (HX.out.ext hE7).cell; clear hr7 hc hgg) | (go_at_call_of 32 (Value.slice (some ⟨g7, 0, none⟩) l.length c7); refine (HA1.out _ _ _ _ _ HR7.out HR7'.out).mono ?_; rintro e w8 ⟨rfl, hb8⟩; have hE8 : Ext W w8 := (by (repeat (with_reducible (first | exact Ext.refl _ | assumption | exact held_left (by assumption) | apply Ext.drewN | apply Ext.drew | apply Ext.alloc | (refine Ext.setCell ?_ (by first | (simp; done) | (simp; omega) | omega) _) | (refine Ext.trans ?_ (by assumption)) | (refine Ext.trans ?_ (held_left (by assumption))))))); have x8 := (HX.out.ext hE8).cell; have HR8 := Hid.mk' (HR7'.out.ext hb8)) | (go_at_call_of 27 (Value.slice b l.length bc); refine (HK2.out _ (by (repeat (with_reducible (first | exact Ext.refl _ | assumption | exact held_left (by assumption) | apply Ext.drewN | apply Ext.drew | apply Ext.alloc | (refine Ext.setCell ?_ (by first | (simp; done) | (simp; omega) | omega) _) | (refine Ext.trans ?_ (by assumption)) | (refine Ext.trans ?_ (held_left (by assumption)))))))).mono ?_; rintro e w9 ⟨rfl, hb9⟩; have hE9 : Ext W w9 := (by (repeat (with_reducible (first | exact Ext.refl _ | assumption | exact held_left (by assumption) | apply Ext.drewN | apply Ext.drew | apply Ext.alloc | (refine Ext.setCell ?_ (by first | (simp; done) | (simp; omega) | omega) _) | (refine Ext.trans ?_ (by assumption)) | (refine Ext.trans ?_ (held_left (by assumption))))))); have HR9 := Hid.mk' (HR8.out.ext hb9)) | (go_at_call_of 32 (Value.slice b l.length bc); refine (HA2.out _ _ _ (by (repeat (with_reducible (first | exact Ext.refl _ | assumption | exact held_left (by assumption) | apply Ext.drewN | apply Ext.drew | apply Ext.alloc | (refine Ext.setCell ?_ (by first | (simp; done) | (simp; omega) | omega) _) | (refine Ext.trans ?_ (by assumption)) | (refine Ext.trans ?_ (held_left (by assumption))))))) HR9.out).mono ?_; rintro e w10 ⟨rfl, hb10⟩) | (go_at_call 31; refine (awake12_any _).mono ?_; rintro e w11 ⟨rfl, hb11⟩))
    go_ret
    exact ⟨rfl, HE.out.trans (by (repeat (with_reducible (first | exact Ext.refl _ | assumption | exact held_left (by assumption) | apply Ext.drewN | apply Ext.drew | apply Ext.alloc | (refine Ext.setCell ?_ (by first | (simp; done) | (simp; omega) | omega) _) | (refine Ext.trans ?_ (by assumption)) | (refine Ext.trans ?_ (held_left (by assumption)))))))⟩
  · rw [HD, decide_eq_false h1] at HA2
    have h1' : (E == 0) = false := by simpa using h1
    clear h1 HD
    go_wp2_with (first | (go_at_call 29; refine (HF2.out _ (by (repeat (with_reducible (first | exact Ext.refl _ | assumption | exact held_left (by assumption) | apply Ext.drewN | apply Ext.drew | apply Ext.alloc | (refine Ext.setCell ?_ (by first | (simp; done) | (simp; omega) | omega) _) | (refine Ext.trans ?_ (by assumption)) | (refine Ext.trans ?_ (held_left (by assumption)))))))).mono ?_; rintro e w4 ⟨rfl, hb4⟩; have x4 := (HX.out.ext hb4).cell) | (go_at_call_of 25 (Value.slice b l.length bc); refine (HKo2.out _ (by (repeat (with_reducible (first | exact Ext.refl _ | assumption | exact held_left (by assumption) | apply Ext.drewN | apply Ext.drew | apply Ext.alloc | (refine Ext.setCell ?_ (by first | (simp; done) | (simp; omega) | omega) _) | (refine Ext.trans ?_ (by assumption)) | (refine Ext.trans ?_ (held_left (by assumption)))))))).mono ?_; rintro e w5 ⟨g, c, rfl, hc, hgg, hr5, hb5⟩; have HR5 := Hid.mk' hr5; have hE5 : Ext W w5 := (by (repeat (with_reducible (first | exact Ext.refl _ | assumption | exact held_left (by assumption) | apply Ext.drewN | apply Ext.drew | apply Ext.alloc | (refine Ext.setCell ?_ (by first | (simp; done) | (simp; omega) | omega) _) | (refine Ext.trans ?_ (by assumption)) | (refine Ext.trans ?_ (held_left (by assumption))))))); have x5 := (HX.out.ext hE5).cell; clear hr5 hc hgg) | (go_at_call_of 27 (Value.slice (some ⟨g, 0, none⟩) l.length c); refine (HIK.out _ _ _ (by (repeat (with_reducible (first | exact Ext.refl _ | assumption | exact held_left (by assumption) | apply Ext.drewN | apply Ext.drew | apply Ext.alloc | (refine Ext.setCell ?_ (by first | (simp; done) | (simp; omega) | omega) _) | (refine Ext.trans ?_ (by assumption)) | (refine Ext.trans ?_ (held_left (by assumption))))))) HR5.out).mono ?_; rintro e w6 ⟨rfl, hb6⟩; have hE6 : Ext W w6 := (by (repeat (with_reducible (first | exact Ext.refl _ | assumption | exact held_left (by assumption) | apply Ext.drewN | apply Ext.drew | apply Ext.alloc | (refine Ext.setCell ?_ (by first | (simp; done) | (simp; omega) | omega) _) | (refine Ext.trans ?_ (by assumption)) | (refine Ext.trans ?_ (held_left (by assumption))))))); have x6 := (HX.out.ext hE6).cell; have HR6 := Hid.mk' (HR5.out.ext hb6)) | (go_at_call_of 25 (Value.slice (some ⟨g, 0, none⟩) l.length c); refine (HKK.out _ _ _ (by (repeat (with_reducible (first | exact Ext.refl _ | assumption | exact held_left (by assumption) | apply Ext.drewN | apply Ext.drew | apply Ext.alloc | (refine Ext.setCell ?_ (by first | (simp; done) | (simp; omega) | omega) _) | (refine Ext.trans ?_ (by assumption)) | (refine Ext.trans ?_ (held_left (by assumption))))))) HR6.out).mono ?_; rintro e w7 ⟨g7, c7, rfl, hc, hgg, hr7, hb7⟩; have HR7 := Hid.mk' hr7; have hE7 : Ext W w7 := (by (repeat (with_reducible (first | exact Ext.refl _ | assumption | exact held_left (by assumption) | apply Ext.drewN | apply Ext.drew | apply Ext.alloc | (refine Ext.setCell ?_ (by first | (simp; done) | (simp; omega) | omega) _) | (refine Ext.trans ?_ (by assumption)) | (refine Ext.trans ?_ (held_left (by assumption))))))); have HR7' := Hid.mk' (HR6.out.ext hb7); have x7 := (HX.out.ext hE7).cell; clear hr7 hc hgg) | (go_at_call_of 32 (Value.slice (some ⟨g7, 0, none⟩) l.length c7); refine (HA1.out _ _ _ _ _ HR7.out HR7'.out).mono ?_; rintro e w8 ⟨rfl, hb8⟩; have hE8 : Ext W w8 := (by (repeat (with_reducible (first | exact Ext.refl _ | assumption | exact held_left (by assumption) | apply Ext.drewN | apply Ext.drew | apply Ext.alloc | (refine Ext.setCell ?_ (by first | (simp; done) | (simp; omega) | omega) _) | (refine Ext.trans ?_ (by assumption)) | (refine Ext.trans ?_ (held_left (by assumption))))))); have x8 := (HX.out.ext hE8).cell; have HR8 := Hid.mk' (HR7'.out.ext hb8)) | (go_at_call_of 27 (Value.slice b l.length bc); refine (HK2.out _ (by (repeat (with_reducible (first | exact Ext.refl _ | assumption | exact held_left (by assumption) | apply Ext.drewN | apply Ext.drew | apply Ext.alloc | (refine Ext.setCell ?_ (by first | (simp; done) | (simp; omega) | omega) _) | (refine Ext.trans ?_ (by assumption)) | (refine Ext.trans ?_ (held_left (by assumption)))))))).mono ?_; rintro e w9 ⟨rfl, hb9⟩; have hE9 : Ext W w9 := (by (repeat (with_reducible (first | exact Ext.refl _ | assumption | exact held_left (by assumption) | apply Ext.drewN | apply Ext.drew | apply Ext.alloc | (refine Ext.setCell ?_ (by first | (simp; done) | (simp; omega) | omega) _) | (refine Ext.trans ?_ (by assumption)) | (refine Ext.trans ?_ (held_left (by assumption))))))); have HR9 := Hid.mk' (HR8.out.ext hb9)) | (go_at_call_of 32 (Value.slice b l.length bc); refine (HA2.out _ _ _ (by (repeat (with_reducible (first | exact Ext.refl _ | assumption | exact held_left (by assumption) | apply Ext.drewN | apply Ext.drew | apply Ext.alloc | (refine Ext.setCell ?_ (by first | (simp; done) | (simp; omega) | omega) _) | (refine Ext.trans ?_ (by assumption)) | (refine Ext.trans ?_ (held_left (by assumption))))))) HR9.out).mono ?_; rintro e w10 ⟨rfl, hb10⟩) | (go_at_call 31; refine (awake12_any _).mono ?_; rintro e w11 ⟨rfl, hb11⟩))
    go_ret
    exact ⟨rfl, HE.out.trans (by (repeat (with_reducible (first | exact Ext.refl _ | assumption | exact held_left (by assumption) | apply Ext.drewN | apply Ext.drew | apply Ext.alloc | (refine Ext.setCell ?_ (by first | (simp; done) | (simp; omega) | omega) _) | (refine Ext.trans ?_ (by assumption)) | (refine Ext.trans ?_ (held_left (by assumption)))))))⟩

end Go.Proofs.Ytdbepkfblfhlhaa
