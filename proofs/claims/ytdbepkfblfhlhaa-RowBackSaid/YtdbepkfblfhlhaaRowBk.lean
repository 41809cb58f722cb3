/-
The walk of RowBack.
-/
import Derived.Test.YtdbepkfblfhlhaaP16
import Derived.Test.YtdbepkfblfhlhaaRowInv
namespace Go.Proofs.Ytdbepkfblfhlhaa
open Go.RowKit

theorem isB_putC2 {k ty n : Int} {x y : Nat} {s : ByteArray} {kind ver : Int} (hk0 : 0 ≤ k) (h : errC k ty n x y s kind ver = 0) : isB (putC k ty n x y s kind ver) := by
  obtain ⟨hv, hr, hk, hkd⟩ := errC_zero hk0 h
  unfold putC
  split
  · intro z hz; simp at hz; omega
  · rename_i h1
    obtain rfl : k = 2 := by omega
    have hrv := (right_full hr).1
    split
    · intro z hz
      rcases List.mem_cons.1 hz with rfl | hz
      · omega
      · exact isB_sevens _ _ (Nat.le_refl _) z hz
    · split
      · split
        · exact isB.append (isB_sevens _ _ (Nat.le_refl _)) (isB_strL _)
        · exact isB_putL hrv
      · intro z hz
        rcases List.mem_cons.1 hz with rfl | hz
        · omega
        · exact isB_putL hrv z hz
theorem isB_cells {ver : Int} {l : List K} {cols : List Col} (H : ∀ i (h1 : i < l.length) (h2 : i < cols.length), l[i].k ≠ 0 → isB (l[i].put cols[i].ty ver)) : ∀ k, k ≤ l.length → k ≤ cols.length → isB (cellsPut ver (l.take k) (cols.take k))
  | 0, _, _ => by simp [cellsPut]; exact isB.nil
  | k + 1, h1, h2 => by
    rw [cellsPut_snoc ver l cols k (by omega) (by omega)]
    refine (isB_cells H k (by omega) (by omega)).append ?_
    split
    · exact isB.nil
    · rename_i h; exact H k (by omega) (by omega) h
structure RowB (l : List K) (cols : List Col) (ver : Int) : Prop where
  b : isB (rowPut l cols ver)
  n : (rowPut l cols ver).length ≤ 70000
theorem RowB.of {l : List K} {r : Rl} {ver : Int} (hf : fitsE l r = 0) (hv : ver = 1 ∨ ver = 2) (hs : ∀ c ∈ l, c.tw) : RowB l r.cols ver := by
  have hok := RowOk.of hf hv hs
  obtain ⟨-, h1, h2⟩ := fitsW_zero hf
  have e : cellsPut ver l r.cols = cellsPut ver (l.take l.length) (r.cols.take l.length) := (cellsPut_all h1).symm
  refine ⟨?_, ?_⟩
  · unfold rowPut
    refine (isB_map _).append ?_
    rw [e]
    exact isB_cells (fun i hi hj hk => isB_putC2 (hs _ (List.getElem_mem hi)).k (hok.err i hi hj hk)) _ (Nat.le_refl _) (by omega)
  · unfold rowPut
    rw [show (mapL (nullsL l) ++ cellsPut ver l r.cols).length = _ from List.length_append, mapL_len, nullsL_len, e]
    have := cellsPut_len hok.put l.length (Nat.le_refl _) (by omega)
    have := hok.n16
    unfold mapSize
    omega

theorem fillS_succ2 (s : ByteArray) (j : Nat) : fillS s j ++ (⟨#[97]⟩ : ByteArray) = fillS s (j + 1) := by
  have e : (⟨#[97]⟩ : ByteArray) = strOfNums [97] := by kernel_rfl
  unfold fillS
  rw [e, strOf_append, List.replicate_succ', List.append_assoc]
theorem SlTake {w : World} {base g cap n k : Nat} {l : List Int} (h : OB w base (.slice (some ⟨g, 0, none⟩) n cap) l) (hk : k ≤ l.length) : Sl w (.slice (some ⟨g, 0, none⟩) k cap) 1 ((l.take k).map bcell) := by
  have h0 := h.sl
  refine ⟨some ⟨g, 0, none⟩, cap, by simp; omega, ?_⟩
  rcases Nat.eq_zero_or_pos k with hz | hz
  · subst hz; exact .inl rfl
  · obtain ⟨a, c, hv⟩ := h.shape
    simp only [Value.slice.injEq] at hv
    obtain ⟨_, rfl, _⟩ := hv
    obtain ⟨hb, _, hc⟩ := Sl.bytes h0 (by omega)
    refine .inr ⟨g, 0, rfl, hb, fun i hi j hj => ?_⟩
    obtain rfl : j = 0 := by omega
    simp only [List.length_map, List.length_take] at hi
    have := hc i (by omega)
    rw [Nat.mul_one, Nat.add_zero, this]
    have h1 : i < l.length := by omega
    simp [bcell, List.getD, List.getElem?_map, List.getElem?_eq_getElem h1, show i < k by omega]
theorem ob_cap {w : World} {base g cap n : Nat} {l : List Int} (h : OB w base (.slice (some ⟨g, 0, none⟩) n cap) l) : n ≤ cap := by
  rcases h.2 with ⟨hv, _⟩ | ⟨g', cap', cur, hv, _, _, hn, _⟩
  · cases hv
  · simp only [Value.slice.injEq] at hv
    obtain ⟨_, rfl, rfl⟩ := hv
    exact hn

set_option maxRecDepth 100000 in set_option maxHeartbeats 20000000 in
theorem rowback_any (l : List K) (a : Option Addr) (cap : Nat) (oid ver : Int) (nm : ByteArray) (id : Int) (cols : List Col) (a2 : Option Addr) (cap2 : Nat) (vr : Int) (lb : List Int) (ab : Option Addr) (capb : Nat) (at0 : Int) (w : World) (hl : Sl w (.slice a l.length cap) 6 (l.map K.rc)) (hl2 : Sl w (.slice a2 cols.length cap2) 3 (cols.map Col.cells)) (hlb : Sl w (.slice ab lb.length capb) 1 (lb.map bcell))
    (hlen : l.length ≤ 9223372036854775807) (hlen2 : cols.length ≤ 9223372036854775807) (hlenb : lb.length ≤ 9223372036854775807) (hib : isB lb) (hs : ∀ c ∈ l, c.tw) (hs2 : ∀ c ∈ cols, c.nm.size ≤ 9223372036854775807) (hnm : nm.size ≤ 9223372036854775807) (hv0 : 0 ≤ vr) (hv1 : vr < 256) (ht0 : 0 ≤ at0) (ht1 : at0 < 65536) :
    Calls Try.prog 12 #[.slice a l.length cap, .agg #[.int .u32 oid, .int .u32 ver, .string nm, .int .u8 id, .slice a2 cols.length cap2], .agg #[.int .u8 vr, .slice ab lb.length capb, .int .u16 at0]] w fun e w' => e = .returned (.bool true) ∧ Ext w w' := by
  have HRF := Hid.mk' (fun W (h : Ext w W) => rfits_big l a cap oid ver nm id cols a2 cap2 W (hl.ext h) (hl2.ext h) hlen hlen2 (fun c hc => (hs c hc).towk) hs2 hnm)
  have HLB := Hid.mk' hlb
  have HIB := Hid.mk' hib
  clear hlb hib
  by_cases hE : fitsE l (⟨oid, ver, nm, id, cols⟩ : Rl) = 0
  case neg =>
    obtain ⟨E, hEE⟩ : ∃ E, E = fitsE l (⟨oid, ver, nm, id, cols⟩ : Rl) := ⟨_, rfl⟩
    rw [← hEE] at hE HRF
    have hE2 : (E != 0) = true := by simpa using hE
    clear hE hEE hl hl2 hs hs2 hnm hlen hlen2 ht0 ht1
    go_enter Try.func12, Try.ntmps12
    go_wp2_with (go_at_call 43; refine (HRF.out _ (by (repeat (with_reducible (first | exact Ext.refl _ | assumption | exact held_left (by assumption) | apply Ext.drewN | apply Ext.drew | apply Ext.alloc | (refine Ext.setCell ?_ (by first | (simp; done) | (simp; omega) | omega) _) | (refine Ext.trans ?_ (by assumption)) | (refine Ext.trans ?_ (held_left (by assumption)))))))).mono ?_; rintro e w2 ⟨rfl, hb2⟩)
    go_ret
    exact ⟨rfl, by (repeat (with_reducible (first | exact Ext.refl _ | assumption | exact held_left (by assumption) | apply Ext.drewN | apply Ext.drew | apply Ext.alloc | (refine Ext.setCell ?_ (by first | (simp; done) | (simp; omega) | omega) _) | (refine Ext.trans ?_ (by assumption)) | (refine Ext.trans ?_ (held_left (by assumption))))))⟩
  obtain ⟨E0, hE0⟩ : ∃ E0, E0 = fitsE l (⟨oid, ver, nm, id, cols⟩ : Rl) := ⟨_, rfl⟩
  rw [← hE0] at HRF
  have hE1 : (E0 != 0) = false := by rw [hE0, hE]; rfl
  clear hE0
  by_cases h2000 : 2000 < lb.length
  · clear hl hl2 hs hs2 hnm hlen hlen2 ht0 ht1 hE
    go_enter Try.func12, Try.ntmps12
    go_wp2_with (go_at_call 43; refine (HRF.out _ (by (repeat (with_reducible (first | exact Ext.refl _ | assumption | exact held_left (by assumption) | apply Ext.drewN | apply Ext.drew | apply Ext.alloc | (refine Ext.setCell ?_ (by first | (simp; done) | (simp; omega) | omega) _) | (refine Ext.trans ?_ (by assumption)) | (refine Ext.trans ?_ (held_left (by assumption)))))))).mono ?_; rintro e w2 ⟨rfl, hb2⟩; have g0 := ((Blk.new' (w := w.alloc (.cells #[.int .u32 oid, .int .u32 ver, .string nm, .int .u8 id, .slice a2 cols.length cap2] 27)) (b := w.heap.size + 1) #[.int .u8 vr, .slice ab lb.length capb, .int .u16 at0] 118 (by simp)).ext hb2).cell)
    go_ret
    exact ⟨rfl, by (repeat (with_reducible (first | exact Ext.refl _ | assumption | exact held_left (by assumption) | apply Ext.drewN | apply Ext.drew | apply Ext.alloc | (refine Ext.setCell ?_ (by first | (simp; done) | (simp; omega) | omega) _) | (refine Ext.trans ?_ (by assumption)) | (refine Ext.trans ?_ (held_left (by assumption))))))⟩
  have hl2000 : lb.length ≤ 2000 := by omega
  clear h2000 hlenb
  have hln : l.length = cols.length := (fitsW_zero hE).2.1
  have hc16 : cols.length ≤ 16 := (fits_cols hE).1
  have hn8 : cols.length ≤ 1000 := by omega
  have hna : l.length ≤ 1000 := by omega
  have hV12 : (1 + vr % 2) = 1 ∨ (1 + vr % 2) = 2 := by omega
  have hT := takeT_put (l := l) (r := (⟨oid, ver, nm, id, cols⟩ : Rl)) (ver := (1 + vr % 2)) hE hV12 hs []
  rw [List.append_nil] at hT
  have hB := RowB.of (l := l) (r := (⟨oid, ver, nm, id, cols⟩ : Rl)) (ver := (1 + vr % 2)) hE hV12 hs
  have hpos := rowPut_pos (l := l) (r := (⟨oid, ver, nm, id, cols⟩ : Rl)) (ver := (1 + vr % 2)) hE
  have hcutT := fun k (hk : k < (rowPut l cols (1 + vr % 2)).length) => row_cut (l := l) (r := (⟨oid, ver, nm, id, cols⟩ : Rl)) (ver := (1 + vr % 2)) hE hV12 hs (k := k) hk
  obtain ⟨hFE, hFW⟩ := fill_put (l := l) (r := (⟨oid, ver, nm, id, cols⟩ : Rl)) hE hs
  have hen : encE l (⟨oid, ver, nm, id, cols⟩ : Rl) (1 + vr % 2) = 0 := by unfold encE; rw [if_pos hV12]; exact hE
  have HO8 := Hid.mk' (fun W (h : Ext w W) => own8_fr oid ver nm id cols a2 cap2 W (hl2.ext h) hn8)
  have HOa := Hid.mk' (fun W (h : Ext w W) => ownK_fr l a cap W (hl.ext h) hna)
  have HSS := Hid.mk' (⟨hs, hs2, hnm⟩ : (∀ c ∈ l, c.tw) ∧ (∀ c ∈ cols, c.nm.size ≤ 9223372036854775807) ∧ nm.size ≤ 9223372036854775807)
  have HLW := Hid.mk' hl
  have HP := Hid.mk' (And.intro hT (And.intro hcutT (And.intro hB (And.intro hpos (And.intro hFE (And.intro hFW (And.intro hen hV12)))))))
  clear hl hl2 hs hs2 hnm hlen hlen2 hE hln hc16 hT hcutT hB hpos hFE hFW hen hV12
  go_enter Try.func12, Try.ntmps12
  go_wp2_with (go_at_call 43; refine (HRF.out _ (by (repeat (with_reducible (first | exact Ext.refl _ | assumption | exact held_left (by assumption) | apply Ext.drewN | apply Ext.drew | apply Ext.alloc | (refine Ext.setCell ?_ (by first | (simp; done) | (simp; omega) | omega) _) | (refine Ext.trans ?_ (by assumption)) | (refine Ext.trans ?_ (held_left (by assumption)))))))).mono ?_; rintro e w2 ⟨rfl, hb2⟩; have g0 := (((Blk.new w #[.int .u32 oid, .int .u32 ver, .string nm, .int .u8 id, .slice a2 cols.length cap2] 27).alloc (.cells #[.int .u8 vr, .slice ab lb.length capb, .int .u16 at0] 118)).ext hb2).cell; have g1 := ((Blk.new' (w := w.alloc (.cells #[.int .u32 oid, .int .u32 ver, .string nm, .int .u8 id, .slice a2 cols.length cap2] 27)) (b := w.heap.size + 1) #[.int .u8 vr, .slice ab lb.length capb, .int .u16 at0] 118 (by simp)).ext hb2).cell; have zz0 := ((Blk.new w #[.int .u32 oid, .int .u32 ver, .string nm, .int .u8 id, .slice a2 cols.length cap2] 27).alloc (.cells #[.int .u8 vr, .slice ab lb.length capb, .int .u16 at0] 118)).ext hb2)
  have HCU := Hid.mk' ((Blk.new' (w := w.alloc (.cells #[.int .u32 oid, .int .u32 ver, .string nm, .int .u8 id, .slice a2 cols.length cap2] 27)) (b := w.heap.size + 1) #[.int .u8 vr, .slice ab lb.length capb, .int .u16 at0] 118 (by simp)).ext hb2)
  clear g0 g1 zz0
  have HE2 := Hid.mk' (show Ext w w2 by (repeat (with_reducible (first | exact Ext.refl _ | assumption | exact held_left (by assumption) | apply Ext.drewN | apply Ext.drew | apply Ext.alloc | (refine Ext.setCell ?_ (by first | (simp; done) | (simp; omega) | omega) _) | (refine Ext.trans ?_ (by assumption)) | (refine Ext.trans ?_ (held_left (by assumption)))))))
  have z0 : w.heap.size < w2.heap.size := by have := hb2.size; simp at this; omega
  have HS : Hid (∀ w', Ext w2 w' → Ext w2 w' ∧ (∀ i, w'.cell? ⟨w.heap.size, i, none⟩ = (#[.int .u32 oid, .int .u32 ver, .string nm, .int .u8 id, .slice a2 cols.length cap2])[i]?) ∧ (∀ b o, b < w2.heap.size → w'.frozen? ⟨b, o, none⟩ = w2.frozen? ⟨b, o, none⟩)) := Hid.mk' (fun w' h => ⟨h, (((Blk.new w #[.int .u32 oid, .int .u32 ver, .string nm, .int .u8 id, .slice a2 cols.length cap2] 27).alloc (.cells #[.int .u8 vr, .slice ab lb.length capb, .int .u16 at0] 118)).ext (hb2.trans h)).cell, h.cells.2⟩)
  clear HRF hb2
  go_cut [8, 9] (fun r p wx => ∃ X a3 cap3 b bc, p = .pointer (some ⟨X, 0, none⟩) ∧ r = .slice b l.length bc ∧ cols.length ≤ cap3 ∧ Hid (Blk wx X #[.int .u32 oid, .int .u32 ver, .string nm, .int .u8 id, .slice a3 cols.length cap3] 42) ∧ Hid (Sl wx (.slice a3 cols.length cap3) 3 (cols.map Col.cells)) ∧ Hid (Sl wx (.slice b l.length bc) 5 (l.map K.pc)) ∧ Hid (Ext w2 wx))
  case first =>
      go_region_held3 (fun w' => Ext w2 w' ∧ (∀ i, w'.cell? ⟨w.heap.size, i, none⟩ = (#[.int .u32 oid, .int .u32 ver, .string nm, .int .u8 id, .slice a2 cols.length cap2])[i]?) ∧ (∀ b o, b < w2.heap.size → w'.frozen? ⟨b, o, none⟩ = w2.frozen? ⟨b, o, none⟩)) (exact HS.out _ (by (repeat (with_reducible (first | exact Ext.refl _ | assumption | exact held_left (by assumption) | apply Ext.drewN | apply Ext.drew | apply Ext.alloc | (refine Ext.setCell ?_ (by first | (simp; done) | (simp; omega) | omega) _) | (refine Ext.trans ?_ (by assumption)) | (refine Ext.trans ?_ (held_left (by assumption))))))))
        (first
          | (go_at_call 17; refine (HO8.out _ (HE2.out.trans (by (repeat (with_reducible (first | exact Ext.refl _ | assumption | exact held_left (by assumption) | apply Ext.drewN | apply Ext.drew | apply Ext.alloc | (refine Ext.setCell ?_ (by first | (simp; done) | (simp; omega) | omega) _) | (refine Ext.trans ?_ (by assumption)) | (refine Ext.trans ?_ (held_left (by assumption))))))))).mono ?_; rintro e w3 ⟨a3, cap3, rfl, h3, hs3, hb3⟩; have H3 := Hid.mk' hs3; clear hs3; obtain ⟨hc3, hf3⟩ := hb3.cells; have hz3 := hb3.size; (try simp at hz3); (try have q3 : w2.heap.size < w3.heap.size := (by omega)); (try have q34 : w4.heap.size < w3.heap.size := (by omega)))
          | (go_at_call 15; refine (HOa.out _ (HE2.out.trans (by (repeat (with_reducible (first | exact Ext.refl _ | assumption | exact held_left (by assumption) | apply Ext.drewN | apply Ext.drew | apply Ext.alloc | (refine Ext.setCell ?_ (by first | (simp; done) | (simp; omega) | omega) _) | (refine Ext.trans ?_ (by assumption)) | (refine Ext.trans ?_ (held_left (by assumption))))))))).mono ?_; rintro e w4 ⟨b, bc, rfl, h4, hs4, hb4⟩; have H4 := Hid.mk' hs4; clear hs4; obtain ⟨hc4, hf4⟩ := hb4.cells; have hz4 := hb4.size; (try simp at hz4); (try have q4 : w2.heap.size < w4.heap.size := (by omega)); (try have q43 : w3.heap.size < w4.heap.size := (by omega))))
      all_goals
        go_wp2
        go_meet
        case rel =>
          refine ⟨_, a3, cap3, b, bc, rfl, rfl, h3, Hid.mk' ?_, Hid.mk' ?_, Hid.mk' ?_, Hid.mk' ?_⟩
          · repeat (with_reducible (first | exact Blk.new _ _ _ | (refine Blk.new' _ _ ?_; (simp; done)) | apply Blk.five | refine Blk.alloc ?_ _ | refine Blk.drew ?_ | refine Blk.ext ?_ hb4 | refine Blk.ext ?_ hb3))
          · first | ((with_reducible refine Fr.sl (Fr.five (Fr.ext H3.out ?_) ?_)); (· (repeat (with_reducible (first | exact Ext.refl _ | assumption | exact held_left (by assumption) | apply Ext.drewN | apply Ext.drew | apply Ext.alloc | (refine Ext.setCell ?_ (by first | (simp; done) | (simp; omega) | omega) _) | (refine Ext.trans ?_ (by assumption)) | (refine Ext.trans ?_ (held_left (by assumption))))))); (· first | (simp; done) | (simp; omega) | omega | (left; simp; done) | (left; simp; omega) | (right; simp; done) | (right; simp; omega))) | ((with_reducible refine Fr.sl (Fr.ext H3.out ?_)); · (repeat (with_reducible (first | exact Ext.refl _ | assumption | exact held_left (by assumption) | apply Ext.drewN | apply Ext.drew | apply Ext.alloc | (refine Ext.setCell ?_ (by first | (simp; done) | (simp; omega) | omega) _) | (refine Ext.trans ?_ (by assumption)) | (refine Ext.trans ?_ (held_left (by assumption)))))))
          · first | ((with_reducible refine Fr.sl (Fr.five (Fr.ext H4.out ?_) ?_)); (· (repeat (with_reducible (first | exact Ext.refl _ | assumption | exact held_left (by assumption) | apply Ext.drewN | apply Ext.drew | apply Ext.alloc | (refine Ext.setCell ?_ (by first | (simp; done) | (simp; omega) | omega) _) | (refine Ext.trans ?_ (by assumption)) | (refine Ext.trans ?_ (held_left (by assumption))))))); (· first | (simp; done) | (simp; omega) | omega | (left; simp; done) | (left; simp; omega) | (right; simp; done) | (right; simp; omega))) | ((with_reducible refine Fr.sl (Fr.ext H4.out ?_)); · (repeat (with_reducible (first | exact Ext.refl _ | assumption | exact held_left (by assumption) | apply Ext.drewN | apply Ext.drew | apply Ext.alloc | (refine Ext.setCell ?_ (by first | (simp; done) | (simp; omega) | omega) _) | (refine Ext.trans ?_ (by assumption)) | (refine Ext.trans ?_ (held_left (by assumption)))))))
          · (repeat (with_reducible (first | exact Ext.refl _ | assumption | exact held_left (by assumption) | apply Ext.drewN | apply Ext.drew | apply Ext.alloc | (refine Ext.setCell ?_ (by first | (simp; done) | (simp; omega) | omega) _) | (refine Ext.trans ?_ (by assumption)) | (refine Ext.trans ?_ (held_left (by assumption))))))
  case rest =>
    as_aux_lemma =>
      obtain ⟨X, a3, cap3, b, bc, rfl, rfl, h3, HX, H3, H4, HEc⟩ := hcut
      obtain ⟨hT, hcutT, hB, hpos, hFE, hFW, hen, hV12⟩ := HP.out
      have HEN := Hid.mk' (fun W' (h : Ext wc W') => encode_any l b bc oid ver nm id cols a3 cap3 (1 + vr % 2) W' (H4.out.ext h) (H3.out.ext h) h3 hna hn8 HSS.out.1 HSS.out.2.1 HSS.out.2.2)
      unfold EncPost at HEN
      rw [hen] at HEN
      have h3X : ∀ k o, a3 = some ⟨k, o, none⟩ → cols ≠ [] → k < wc.heap.size := by
        intro k o e hne
        obtain ⟨i, hi⟩ : ∃ i, i < cols.length := ⟨0, List.length_pos_iff.2 hne⟩
        obtain ⟨b', o', e', hb', -⟩ := H3.out.at_ (i := i) (by simpa using hi)
        rw [e] at e'; cases e'; exact hb'
      have H3X := Hid.mk' h3X
      obtain ⟨A, hA⟩ : ∃ A, A = rowPut l cols (1 + vr % 2) := ⟨_, rfl⟩
      have hT : takeT (⟨oid, ver, nm, id, cols⟩ : Rl) (1 + vr % 2) ⟨A, 0⟩ = ((blanks l, hoL l), ⟨[], 0⟩) := by rw [hA]; exact hT
      have hpos : 0 < A.length := by rw [hA]; exact hpos
      have hA1 : isB A ∧ A.length ≤ 70000 := by rw [hA]; exact ⟨hB.b, hB.n⟩
      obtain ⟨k, hk⟩ : ∃ k : Nat, at0 % (A.length : Int) = k := ⟨(at0 % (A.length : Int)).toNat, by have := Int.emod_nonneg at0 (show (A.length : Int) ≠ 0 by omega); omega⟩
      have hkl : k < A.length := by have := Int.emod_lt_of_pos at0 (show 0 < (A.length : Int) by omega); omega
      have hcT : (takeT (⟨oid, ver, nm, id, cols⟩ : Rl) (1 + vr % 2) ⟨A.take k, 0⟩).2.e = 1 ∧ (takeT (⟨oid, ver, nm, id, cols⟩ : Rl) (1 + vr % 2) ⟨A.take k, 0⟩).1 = ([], []) := by rw [hA]; exact hcutT k (by rw [← hA]; exact hkl)
      have HTK := Hid.mk' (fun g d st W h (hE : Ext wc W) (hg : wc.heap.size ≤ g) => take_any g d st oid ver nm id cols a3 cap3 (1 + vr % 2) W h (H3.out.ext hE) (fun k o e hne => by have := H3X.out k o e hne; omega) h3 hn8 HSS.out.2.1 HSS.out.2.2)
      simp only [take_same] at HTK
      have HEN' := Hid.mk' (fun W' (h : Ext wc W') => (HEN.out W' h).mono (R' := fun e w' => ∃ v, e = .returned (.tuple #[v, .int .i64 0]) ∧ OB w' W'.heap.size v A ∧ Ext W' w') (by rintro e w' ⟨v, rfl, q1, -, q3⟩; exact ⟨v, rfl, by rw [hA]; exact q1 rfl, q3⟩))
      have HX0 : Hid (∀ w', Ext wc w' → ∀ i, w'.cell? ⟨X, i, none⟩ = (#[.int .u32 oid, .int .u32 ver, .string nm, .int .u8 id, .slice a3 cols.length cap3])[i]?) := Hid.mk' (fun w' h => (HX.out.ext h).cell)
      have HC0 : Hid (∀ w', Ext wc w' → ∀ i, w'.cell? ⟨w.heap.size + 1, i, none⟩ = (#[.int .u8 vr, .slice ab lb.length capb, .int .u16 at0])[i]?) := Hid.mk' (fun w' h => (HCU.out.ext (HEc.out.trans h)).cell)
      have hXl := HX.out.lt
      have hCl := (HCU.out.ext HEc.out).lt
      have gX := HX0.out wc (Ext.refl _)
      have HK := Hid.mk' hk
      have HHT := Hid.mk' hT
      have HCT := Hid.mk' hcT
      have HIA := Hid.mk' hA1
      have hAl := hA1.2
      have HFI := Hid.mk' (And.intro hFE (And.intro hFW hV12))
      have HEw := Hid.mk' (HE2.out.trans HEc.out)
      clear HP HO8 HOa HS HE2 HEc HX HEN hT hB hFE hFW hen hcutT hA hA1 hcT hk h3X hV12
      go_upto_region 6 with (go_at_call 38; refine (HEN'.out _ (by (repeat (with_reducible (first | exact Ext.refl _ | assumption | exact held_left (by assumption) | apply Ext.drewN | apply Ext.drew | apply Ext.alloc | (refine Ext.setCell ?_ (by first | (simp; done) | (simp; omega) | omega) _) | (refine Ext.trans ?_ (by assumption)) | (refine Ext.trans ?_ (held_left (by assumption)))))))).mono ?_; rintro e w4 ⟨v1, rfl, ho1, hb4⟩; obtain ⟨g3, cap4, rfl, -, hg3, -, -⟩ := OB.form ho1 hpos; have hcap4 := ob_cap ho1; have HO1 := Hid.mk' ho1; have HE4 := Hid.mk' (show Ext wc w4 by (repeat (with_reducible (first | exact Ext.refl _ | assumption | exact held_left (by assumption) | apply Ext.drewN | apply Ext.drew | apply Ext.alloc | (refine Ext.setCell ?_ (by first | (simp; done) | (simp; omega) | omega) _) | (refine Ext.trans ?_ (by assumption)) | (refine Ext.trans ?_ (held_left (by assumption))))))); clear ho1 gX hb4)
      have hz4 := HE4.out.size
      have HS6 : Hid (∀ w', Ext w4 w' → Ext w4 w' ∧ (∀ i, w'.cell? ⟨w.heap.size + 1, i, none⟩ = (#[.int .u8 vr, .slice ab lb.length capb, .int .u16 at0])[i]?)) := Hid.mk' (fun w' h => ⟨h, HC0.out w' (HE4.out.trans h)⟩)
      have hk1 : (if (1 : Int) < (A.length : Int) then (A.length : Int) else 1) = (A.length : Int) := by split <;> omega
      have hk2 : at0.tmod (A.length : Int) = (k : Int) := by rw [Int.tmod_eq_emod_of_nonneg ht0]; exact HK.out
      have hk3 : ((A.length : Int) == 0) = false := by simpa using (by omega : ¬ ((A.length : Int) = 0))
      have hk6 : A ≠ [] := by rintro rfl; simp at hpos
      have hk7 : cap4 ≠ 0 := by omega
      have hk8 : k ≤ cap4 := by omega
      have hk9 : IntKind.i64.wrap at0 = at0 := IntWalk.i64_in _ (by omega)
      have hk4 : (k : Int) ≤ (cap4 : Int) := by omega
      have hk5 : (0 : Int) ≤ (k : Int) := by omega
      go_cut [12, 13, 14] (fun p q s wx => ∃ g h i dg dh di, p = .pointer (some ⟨g, 0, none⟩) ∧ q = .pointer (some ⟨h, 0, none⟩) ∧ s = .pointer (some ⟨i, 0, none⟩) ∧ wc.heap.size ≤ g ∧ g < dh ∧ dh ≤ h ∧ h < di ∧ di ≤ i ∧ Hid (RD wx g dg ⟨A, 0⟩) ∧ Hid (RD wx h dh ⟨lb, 0⟩) ∧ Hid (RD wx i di ⟨A.take k, 0⟩) ∧ Hid (Ext w4 wx))
      case first =>
        go_region_held3 (fun w' => Ext w4 w' ∧ (∀ i, w'.cell? ⟨w.heap.size + 1, i, none⟩ = (#[.int .u8 vr, .slice ab lb.length capb, .int .u16 at0])[i]?)) (exact HS6.out _ (by (repeat (with_reducible (first | exact Ext.refl _ | assumption | exact held_left (by assumption) | apply Ext.drewN | apply Ext.drew | apply Ext.alloc | (refine Ext.setCell ?_ (by first | (simp; done) | (simp; omega) | omega) _) | (refine Ext.trans ?_ (by assumption)) | (refine Ext.trans ?_ (held_left (by assumption))))))))
          (first
            | (go_at_call_of 49 (Value.slice (some (⟨g3, 0, none⟩ : Addr)) A.length cap4); refine (read_any _ A _ (HO1.out.ext (by (repeat (with_reducible (first | exact Ext.refl _ | assumption | exact held_left (by assumption) | apply Ext.drewN | apply Ext.drew | apply Ext.alloc | (refine Ext.setCell ?_ (by first | (simp; done) | (simp; omega) | omega) _) | (refine Ext.trans ?_ (by assumption)) | (refine Ext.trans ?_ (held_left (by assumption)))))))).sl (by omega) HIA.out.1).mono ?_; rintro e w5 ⟨g, rfl, hg, hr, hb5⟩; have HR5 := Hid.mk' hr; have hgl := hr.lt; have hg0 : w4.heap.size ≤ g := (by simpa using hg); clear hr)
            | (go_at_call_of 49 (Value.slice ab lb.length capb); refine (read_any _ lb _ (HLB.out.ext (HEw.out.trans (HE4.out.trans (by (repeat (with_reducible (first | exact Ext.refl _ | assumption | exact held_left (by assumption) | apply Ext.drewN | apply Ext.drew | apply Ext.alloc | (refine Ext.setCell ?_ (by first | (simp; done) | (simp; omega) | omega) _) | (refine Ext.trans ?_ (by assumption)) | (refine Ext.trans ?_ (held_left (by assumption)))))))))) (by omega) HIB.out).mono ?_; rintro e w6 ⟨h, rfl, hh, hr, hb6⟩; have HR6 := Hid.mk' hr; have hhl := hr.lt; clear hr)
            | (go_at_call 49; trace_state; refine (read_any _ (A.take k) _ (SlTake (HO1.out.ext (by (repeat (with_reducible (first | exact Ext.refl _ | assumption | exact held_left (by assumption) | apply Ext.drewN | apply Ext.drew | apply Ext.alloc | (refine Ext.setCell ?_ (by first | (simp; done) | (simp; omega) | omega) _) | (refine Ext.trans ?_ (by assumption)) | (refine Ext.trans ?_ (held_left (by assumption)))))))) (by omega)) (by simp; omega) (HIA.out.1.take k)).mono ?_; rintro e w7 ⟨i, rfl, hi, hr, hb7⟩; have HR7 := Hid.mk' hr; clear hr))
        all_goals
          go_wp2
          go_meet
          case rel => exact ⟨g, h, i, _, _, _, rfl, rfl, rfl, by omega, hgl, hh, hhl, hi, Hid.mk' (HR5.out.ext (hb6.trans hb7)), Hid.mk' (HR6.out.ext hb7), HR7, Hid.mk' (by (repeat (with_reducible (first | exact Ext.refl _ | assumption | exact held_left (by assumption) | apply Ext.drewN | apply Ext.drew | apply Ext.alloc | (refine Ext.setCell ?_ (by first | (simp; done) | (simp; omega) | omega) _) | (refine Ext.trans ?_ (by assumption)) | (refine Ext.trans ?_ (held_left (by assumption)))))))⟩
      case rest =>
        as_aux_lemma =>
          obtain ⟨g, h, i, dg, dh, di, rfl, rfl, rfl, hgw, hgd, hdh, hhd, hdi, HG, HH, HI, HE5⟩ := hcut
          rename World => w5
          have HEc5 := Hid.mk' (HE4.out.trans HE5.out)
          obtain ⟨S3, hS3, hS3e⟩ : ∃ S3 : RS, takeT (⟨oid, ver, nm, id, cols⟩ : Rl) (1 + vr % 2) ⟨A.take k, 0⟩ = (([], []), S3) ∧ S3.e = 1 := ⟨_, Prod.ext HCT.out.2 rfl, HCT.out.1⟩
          obtain ⟨M, O, S4, hQ4⟩ : ∃ M O S4, takeT (⟨oid, ver, nm, id, cols⟩ : Rl) (1 + vr % 2) ⟨lb, 0⟩ = ((M, O), S4) := ⟨_, _, _, rfl⟩
          have HTK1 := Hid.mk' (fun g d W h hE hg => HTK.out g d ⟨A, 0⟩ W h hE hg)
          have HTK3 := Hid.mk' (fun g d W h hE hg => HTK.out g d ⟨A.take k, 0⟩ W h hE hg)
          have HTK4 := Hid.mk' (fun g d W h hE hg => HTK.out g d ⟨lb, 0⟩ W h hE hg)
          rw [HHT.out] at HTK1
          rw [hS3] at HTK3
          rw [hQ4] at HTK4
          unfold TkPost at HTK1 HTK3 HTK4
          simp only [blanks_len] at HTK1
          simp only [List.length_nil, List.map_nil] at HTK3
          simp only at HTK4
          have HQ4 := Hid.mk' hQ4
          have hhl : (hoL l).length ≤ 1000 := by rw [hoL_len]; exact Nat.le_trans (larges_len l _) hna
          have htl : (txL l).length ≤ 1000 := by rw [txL_len]; exact Nat.le_trans (larges_len l _) hna
          have HTX := Hid.mk' (fun W' (h : Ext wc W') => texts_any l b bc W' (H4.out.ext h) hna)
          have HFL := Hid.mk' (fun W a1 c1 ah ch at' ct h1 h2 h3 => fill_any (blanks l) (hoL l) (txL l) a1 ah at' c1 ch ct W h1 h2 h3 (by rw [blanks_len]; exact hna) hhl htl (fun t ht => by
            rw [txL, List.mem_map] at ht
            obtain ⟨x, hx, rfl⟩ := ht
            obtain ⟨-, h, -, e⟩ := larges_mem _ x hx
            rw [e]; exact (HSS.out.1 _ (List.getElem_mem h)).s))
          unfold FillPost at HFL
          rw [HFI.out.1, HFI.out.2.1] at HFL
          simp only [blanks_len] at HFL
          have HAK := Hid.mk' (fun W c d cc cd h1 h2 => alike_any l l c d cc cd W h1 h2 hna hna)
          rw [rowB_true.2 rfl] at HAK
          have HBK := Hid.mk' (fun W b c (h : Sl W (.slice b l.length c) 5 (l.map K.pc)) => backK_any l b c W h hna)
          have HSA := Hid.mk' (fun W b c (h : Sl W (.slice b l.length c) 6 (l.map K.rc)) (h' : Sl W (.slice a l.length cap) 6 (l.map K.rc)) => rsame_any l l b a c cap W h h' hna hna)
          rw [rowB_true.2 rfl] at HSA
          have HEND := Hid.mk' (fun g d w h => rend_any g d ⟨[], 0⟩ w h)
          have hen : endE ⟨[], 0⟩ = 0 := rfl
          rw [hen] at HEND
          have HERR := Hid.mk' (fun g d w h => rerr_any g d S3 w h)
          rw [hS3e] at HERR
          have HEN4 := Hid.mk' (fun g d w h => rend_any g d S4 w h)
          obtain ⟨E, hE⟩ : ∃ E, E = endE S4 := ⟨_, rfl⟩
          rw [← hE] at HEN4
          have HEE := Hid.mk' hE
          have gX := HX0.out w5 HEc5.out
          have hz5 := HE5.out.size
          have hgl := HG.out.lt
          have hil := HI.out.lt
          have hhl2 := HH.out.lt
          clear hen hS3 hS3e hQ4 hE HHT HCT HEN' HS6 HO1 HE4 HE5 hkl hk8 hcap4 hhl htl
          go_upto_region 10 with (go_at_call 50; refine (HTK1.out g dg _ HG.out HEc5.out hgw).mono ?_; rintro e w6 ⟨a6, c6, a7, c7, rfl, hs6, hs7, -, -, hr6, ht6⟩; have HE6 := Hid.mk' (Tch.ext HEc5.out hgw ht6); have HS6 := Hid.mk' hs6; have HS7 := Hid.mk' hs7; have HR6 := Hid.mk' hr6; have HH6 := Hid.mk' (HH.out.tch ht6 (by omega) (.inl hgd)); have HI6 := Hid.mk' (HI.out.tch ht6 (by omega) (.inl (by omega))); have z6 := ht6.size; clear hs6 hs7 hr6 ht6 gX)
          go_upto_region 11 with (first
            | (go_at_call 41; refine (HTX.out _ HE6.out).mono ?_; rintro e w7 ⟨at1, ct1, rfl, hst, hb7⟩; have HT7 := Hid.mk' hst; have HB7 := Hid.mk' hb7; clear hst hb7)
            | (go_at_call 47; refine (HFL.out _ _ _ _ _ _ _ (HS6.out.ext HB7.out) (HS7.out.ext HB7.out) HT7.out).mono ?_; rintro e w8 ⟨a8, c8, rfl, hs8, hb8⟩; have HS8 := Hid.mk' hs8; have HB8 := Hid.mk' (HB7.out.trans hb8); clear hs8 hb8))
          clear HT7 HB7 HS6 HS7 HTX HFL
          go_upto_region 13 with (first
            | (go_at_call 55; refine (HEND.out g _ _ (HR6.out.ext HB8.out)).mono ?_; rintro e w9 ⟨rfl, rfl⟩)
            | (go_at_call 32; refine (HAK.out _ a8 b c8 bc HS8.out (H4.out.ext (HE6.out.trans HB8.out))).mono ?_; rintro e w10 ⟨rfl, hb10⟩; have HB10 := Hid.mk' hb10; clear hb10)
            | (go_at_call 24; refine (HBK.out _ a8 c8 (HS8.out.ext HB10.out)).mono ?_; rintro e w11 ⟨a11, c11, rfl, -, hs11, hb11⟩; have HS11 := Hid.mk' hs11; have HB11 := Hid.mk' (HB10.out.trans hb11); clear hs11 hb11)
            | (go_at_call 23; refine (HSA.out _ a11 c11 HS11.out (HLW.out.ext (HEw.out.trans (HE6.out.trans (HB8.out.trans HB11.out))))).mono ?_; rintro e w12 ⟨rfl, hb12⟩; have HB12 := Hid.mk' (HB8.out.trans (HB11.out.trans hb12)); clear hb12))
          have HE12 := Hid.mk' (HE6.out.trans HB12.out)
          have HI12 := Hid.mk' (HI6.out.ext HB12.out)
          have HH12 := Hid.mk' (HH6.out.ext HB12.out)
          have z12 := HB12.out.size
          have gX := HX0.out w12 HE12.out
          clear HS8 HB8 HB10 HS11 HB11 HR6 HB12 HI6 HH6 HE6 HAK HBK HSA HG HI HH HTK1
          go_upto_region 14 with (go_at_call 50; refine (HTK3.out i di _ HI12.out HE12.out (by omega)).mono ?_; rintro e w13 ⟨a13, c13, a14, c14, rfl, -, -, -, -, hr13, ht13⟩; have HE13 := Hid.mk' (Tch.ext HE12.out (by omega) ht13); have HR13 := Hid.mk' hr13; have HH13 := Hid.mk' (HH12.out.tch ht13 (by omega) (.inr (by omega))); have z13 := ht13.size; have k13 := HX0.out w13 HE13.out; clear hr13 ht13 gX)
          clear HTK3 HI12 HH12 HE12
          go_upto_region 16 with (go_at_call 52; refine (HERR.out i _ _ HR13.out).mono ?_; rintro e w14 ⟨rfl, rfl⟩)
          go_upto_region 17 with (go_at_call 50; refine (HTK4.out h dh _ HH13.out HE13.out (by omega)).mono ?_; rintro e w16 ⟨a15, c15, a16, c16, rfl, hs15, hs16, -, -, hr16, ht16⟩; have HE16 := Hid.mk' (Tch.ext HE13.out (by omega) ht16); have HR16 := Hid.mk' hr16; have HS15 := Hid.mk' hs15; have HS16 := Hid.mk' hs16; have z16 := ht16.size; clear hs15 hs16 hr16 ht16 k13)
          clear HTK4 HR13 HH13 HE13 HERR HEND HTK
          by_cases hE0 : E = 0
          case neg =>
            have hE1 : (E != 0) = true := by simpa using hE0
            clear hE0
            go_wp2_with (first
              | (go_at_call 55; refine (HEN4.out h _ _ HR16.out).mono ?_; rintro e w17 ⟨rfl, rfl⟩)
              | (go_at_call 46; refine (awake10_any _).mono ?_; rintro e w22 ⟨rfl, hb22⟩))
            go_ret
            exact ⟨rfl, HEw.out.trans (HE16.out.trans hb22)⟩
          have hSe : S4.e = 0 ∧ S4.l = [] := by
            have h := HEE.out
            rw [hE0] at h
            unfold endE at h
            by_cases h1 : S4.e = 0 ∧ S4.l ≠ []
            · rw [if_pos h1] at h; cases h
            · rw [if_neg h1] at h
              exact ⟨h.symm, Classical.byContradiction fun h2 => h1 ⟨h.symm, h2⟩⟩
          have hq' := HQ4.out
          rw [show S4 = ⟨[], 0⟩ by cases S4; simp only at hSe; rw [hSe.1, hSe.2]] at hq'
          obtain ⟨-, hfe, F, hfw, hfit, hput0, hFt, hOn, hMl0, hOl⟩ := takeT_inv HIB.out hq'
          have hput : rowPut F cols (1 + vr % 2) = lb := hput0
          have hMl : M.length = cols.length := hMl0
          clear hput0 hMl0
          have hFl : F.length = cols.length := (fitsW_zero hfit).2.1
          have hFn : F.length ≤ 1000 := by omega
          have hMn : M.length ≤ 1000 := by omega
          have hen2 : encE F (⟨oid, ver, nm, id, cols⟩ : Rl) (1 + vr % 2) = 0 := by unfold encE; rw [if_pos HFI.out.2.2]; exact hfit
          have HFL2 := Hid.mk' (fun W a1 c1 ah ch at' ct h1 h2 h3 => fill_any M O (txO O) a1 ah at' c1 ch ct W h1 h2 h3 hMn hOl (by rw [txO_len]; exact hOl) (fun t ht => by
            rw [txO, List.mem_map] at ht
            obtain ⟨x, hx, rfl⟩ := ht
            have := hOn x hx
            rw [fillS_size]
            have : ByteArray.empty.size = 0 := rfl
            omega))
          unfold FillPost at HFL2
          rw [hfe, hfw] at HFL2
          simp only [txO_len] at HFL2
          have HEN2 := Hid.mk' (fun W' d dc (h : Sl W' (.slice d F.length dc) 5 (F.map K.pc)) (h' : Ext wc W') => encode_any F d dc oid ver nm id cols a3 cap3 (1 + vr % 2) W' h (H3.out.ext h') h3 hFn hn8 hFt HSS.out.2.1 HSS.out.2.2)
          unfold EncPost at HEN2
          rw [hen2] at HEN2
          simp only [hput] at HEN2
          have HEN2' := Hid.mk' (fun W' d dc (h : Sl W' (.slice d F.length dc) 5 (F.map K.pc)) (h' : Ext wc W') => (HEN2.out W' d dc h h').mono (R' := fun e w' => ∃ v, e = .returned (.tuple #[v, .int .i64 0]) ∧ OB w' W'.heap.size v lb ∧ Ext W' w') (by rintro e w' ⟨v, rfl, q1, -, q3⟩; exact ⟨v, rfl, by first | exact q1 rfl | exact q1 trivial, q3⟩))
          have HON := Hid.mk' hOn
          have hOl2 : O.length ≤ 1000 := hOl
          obtain ⟨i0, hi, hz0, hz1, hz2⟩ := info_parts Try.infoStr
          have HF0 := Hid.mk' (fillS_zero ByteArray.empty)
          subst hE0
          clear hSe hq' hfe hfw hfit hput hFt hOn hMl hFl hFn hMn hen2 hOl HEN2 HQ4 HEE
          go_upto_block 0 with (go_at_call 55; refine (HEN4.out h _ _ HR16.out).mono ?_; rintro e w17 ⟨rfl, rfl⟩)
          go_wp2
          rename World => wq
          go_loopg [21, 22] O.length (fun z v i wr => ∃ q : Nat, z + q = O.length ∧ i = .int .i64 q ∧ Hid (wr.ownsRow wq.heap.size 9 1 v q (((txO O).map strC).take q).flatten) ∧ Hid (Ext wq wr))
          case atStart => exact ⟨0, by omega, rfl, World.ownsRow_nil _ _ _ _, Hid.mk' (Ext.refl _)⟩
          case round =>
            obtain ⟨q, hzq, rfl, hown, hE⟩ := hrel
            by_cases hlt : q < O.length
            · obtain ⟨b2, o2, rfl, hb2, hx⟩ := HS16.out.at_ (i := q) (by simpa using hlt)
              obtain ⟨f0, f1⟩ := Ho.at_ hlt hx hb2 hE.out
              have hbw : b2 < wr.heap.size := Nat.lt_of_lt_of_le hb2 hE.out.size
              have hn := HON.out _ (List.getElem_mem hlt)
              obtain ⟨m, hm⟩ : ∃ m : Nat, O[q].n = (m : Int) := ⟨O[q].n.toNat, by omega⟩
              rw [hm] at f1
              have hm2 : m ≤ 2048 := by omega
              have hT := Hid.mk' (flat_snoc (f := strC) (show q < (txO O).length by rw [txO_len]; exact hlt))
              have hTq : (txO O)[q]'(by rw [txO_len]; exact hlt) = fillS ByteArray.empty m := by simp [txO, hm]
              rw [hTq] at hT
              clear hx hm hn hTq f0
              go_wp2
              go_loopg [23] m (fun z t w3 => ∃ j : Nat, z + j = m ∧ t = .string (fillS ByteArray.empty j) ∧ wr = w3)
              case atStart => exact ⟨0, by omega, by rw [HF0.out]; rfl, rfl⟩
              case round =>
                obtain ⟨j, hzj, rfl, rfl⟩ := hrel
                have hsz : (fillS ByteArray.empty j).size = j := by rw [fillS_size]; exact Nat.zero_add j
                by_cases hlt2 : j < m
                · have hadd : ∀ w : World, (Op.stringOp .add (fillS ByteArray.empty j) (⟨#[97]⟩ : ByteArray)).run Try.prog w = .ok (.string (fillS ByteArray.empty (j + 1))) w := fun w => by
                    rw [run_string_add_sum w _ _ (by have : (⟨#[97]⟩ : ByteArray).size = 1 := rfl; omega), fillS_succ2]
                  go_wp2
                  go_roundg (m - (j + 1))
                  case measure => omega
                  case rel => exact ⟨j + 1, by omega, rfl, rfl⟩
                · obtain rfl : j = m := by omega
                  clear hlt2
                  go_wp2_with (at_builtin; refine wpList_append_own _ rfl _ _ 86 rfl wq.heap.size 9 i0 _ 1 16 Try.underlying86 hi hz0 hz1 hz2 rfl (by decide) _ _ _ rfl (owns_ext hown.out (by (repeat (with_reducible (first | exact Ext.refl _ | assumption | exact held_left (by assumption) | apply Ext.drewN | apply Ext.drew | apply Ext.alloc | (refine Ext.setCell ?_ (by first | (simp; done) | (simp; omega) | omega) _) | (refine Ext.trans ?_ (by assumption)) | (refine Ext.trans ?_ (held_left (by assumption)))))))) ⟨_, 0, none⟩ 1 1 (strC (fillS ByteArray.empty j)) rfl rfl ?c1 ?c2 ?c3 ?c4 ?c5 ?_)
                  case c1 => exact cells_new _ #[.string (fillS ByteArray.empty j)] _
                  case c2 => intro u hu; simp [strC] at hu; subst hu; rfl
                  case c3 => unfold maxLen; omega
                  case c4 => omega
                  case c5 => have := hE.out.size; simp; omega
                  intro v' w2' hown' hgrow _
                  have HE2 := Hid.mk' (Below.grown ((hE.out).alloc (.cells #[.string (fillS ByteArray.empty j)] 9)) hgrow (by have := hE.out.size; simp; omega) (fun g hg => (World.ownsRow.lt hown.out g hg).1))
                  have HO2 := Hid.mk' hown'
                  clear hown' hgrow hsz
                  go_wp2
                  go_roundg (O.length - (q + 1))
                  case measure => omega
                  case rel => exact ⟨q + 1, by omega, by go_num, Hid.mk' (by rw [hT.out]; exact HO2.out), HE2⟩
            · obtain rfl : q = O.length := by omega
              clear hlt
              have hown2 := hown.out
              rw [show O.length = ((txO O).map strC).length by rw [List.length_map, txO_len], List.take_length] at hown2
              rw [List.length_map, txO_len] at hown2
              obtain ⟨at3, ct3, rfl⟩ := owns_shape hown2
              have HT3 := Hid.mk' (Sl.of_owns (base := wq.heap.size) (e := 9) (xss := (txO O).map strC) (by rw [List.length_map, txO_len]; exact hown2) (by intro xs hxs; simp at hxs; obtain ⟨_, _, _, rfl⟩ := hxs; rfl))
              have HEr := Hid.mk' (HE16.out.trans hE.out)
              have gX := HX0.out wr HEr.out
              have HE' := hE
              clear hown hown2 hE
              go_upto_region 28 with (go_at_call 47; refine (HFL2.out _ _ _ _ _ _ _ (HS15.out.ext HE'.out) (HS16.out.ext HE'.out) HT3.out).mono ?_; rintro e w18 ⟨a18, c18, rfl, hs18, hb18⟩; have HS18 := Hid.mk' hs18; have HE18 := Hid.mk' (HEr.out.trans hb18); have k18 := HX0.out w18 HE18.out; clear hs18 hb18 gX)
              go_upto_region 29 with (go_at_call 38; refine (HEN2'.out _ _ _ HS18.out HE18.out).mono ?_; rintro e w19 ⟨v19, rfl, ho19, hb19⟩; have HO19 := Hid.mk' ho19; have HE19 := Hid.mk' (HE18.out.trans hb19); clear ho19 hb19 k18)
              have cv1 := conv_Sl HO19.out.sl
              have cv2 := conv_Sl (HLB.out.ext (HEw.out.trans HE19.out))
              have gC := HC0.out w19 HE19.out
              go_wp2_with (go_at_call 46; refine (awake10_any _).mono ?_; rintro e w22 ⟨rfl, hb22⟩)
              go_ret
              exact ⟨rfl, HEw.out.trans (HE19.out.trans hb22)⟩

end Go.Proofs.Ytdbepkfblfhlhaa
