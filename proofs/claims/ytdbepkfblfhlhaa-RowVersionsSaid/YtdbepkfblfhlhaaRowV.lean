/-
The walk of RowVersions.
-/
import Derived.Test.YtdbepkfblfhlhaaP16
namespace Go.Proofs.Ytdbepkfblfhlhaa
open Go.RowKit

theorem isB_putC2 {k ty n : Int} {x y : Nat} {s : ByteArray} {kind ver : Int} (hk0 : 0 ≤ k) (h : errC k ty n x y s kind ver = 0) : isB (putC k ty n x y s kind ver) := by
  obtain ⟨hv, hr, hk, hkd⟩ := errC_zero hk0 h
  unfold putC
  split
  · intro z hz; simp at hz; omega
  · rename_i h1
    obtain rfl : k = 2 := by omega
    have hrv := (right_full hr).1
    split
    · intro z hz
      rcases List.mem_cons.1 hz with rfl | hz
      · omega
      · exact isB_sevens _ _ (Nat.le_refl _) z hz
    · split
      · split
        · exact isB.append (isB_sevens _ _ (Nat.le_refl _)) (isB_strL _)
        · exact isB_putL hrv
      · intro z hz
        rcases List.mem_cons.1 hz with rfl | hz
        · omega
        · exact isB_putL hrv z hz
theorem isB_cells {ver : Int} {l : List K} {cols : List Col} (H : ∀ i (h1 : i < l.length) (h2 : i < cols.length), l[i].k ≠ 0 → isB (l[i].put cols[i].ty ver)) : ∀ k, k ≤ l.length → k ≤ cols.length → isB (cellsPut ver (l.take k) (cols.take k))
  | 0, _, _ => by simp [cellsPut]; exact isB.nil
  | k + 1, h1, h2 => by
    rw [cellsPut_snoc ver l cols k (by omega) (by omega)]
    refine (isB_cells H k (by omega) (by omega)).append ?_
    split
    · exact isB.nil
    · rename_i h; exact H k (by omega) (by omega) h
structure RowB (l : List K) (cols : List Col) (ver : Int) : Prop where
  b : isB (rowPut l cols ver)
  n : (rowPut l cols ver).length ≤ 70000
theorem RowB.of {l : List K} {r : Rl} {ver : Int} (hf : fitsE l r = 0) (hv : ver = 1 ∨ ver = 2) (hs : ∀ c ∈ l, c.tw) : RowB l r.cols ver := by
  have hok := RowOk.of hf hv hs
  obtain ⟨-, h1, h2⟩ := fitsW_zero hf
  have e : cellsPut ver l r.cols = cellsPut ver (l.take l.length) (r.cols.take l.length) := (cellsPut_all h1).symm
  refine ⟨?_, ?_⟩
  · unfold rowPut
    refine (isB_map _).append ?_
    rw [e]
    exact isB_cells (fun i hi hj hk => isB_putC2 (hs _ (List.getElem_mem hi)).k (hok.err i hi hj hk)) _ (Nat.le_refl _) (by omega)
  · unfold rowPut
    rw [show (mapL (nullsL l) ++ cellsPut ver l r.cols).length = _ from List.length_append, mapL_len, nullsL_len, e]
    have := cellsPut_len hok.put l.length (Nat.le_refl _) (by omega)
    have := hok.n16
    unfold mapSize
    omega

/-- So many times the bytes. -/
def reps (A : List Int) (n : Nat) : RS := ⟨(List.replicate n A).flatten, 0⟩
theorem reps_succ (A : List Int) (n : Nat) : reps A (n + 1) = ⟨A ++ (reps A n).l, 0⟩ := by unfold reps; rw [List.replicate_succ, List.flatten_cons]
theorem reps_two (A : List Int) : reps A 2 = ⟨A ++ A, 0⟩ := by simp [reps, List.replicate_succ]
theorem reps_form (A : List Int) (n : Nat) : (⟨(reps A n).l, 0⟩ : RS) = reps A n := rfl

set_option maxRecDepth 100000 in set_option maxHeartbeats 20000000 in
theorem rowvers_any (l : List K) (a : Option Addr) (cap : Nat) (oid ver : Int) (nm : ByteArray) (id : Int) (cols : List Col) (a2 : Option Addr) (cap2 : Nat) (w : World) (hl : Sl w (.slice a l.length cap) 6 (l.map K.rc)) (hl2 : Sl w (.slice a2 cols.length cap2) 3 (cols.map Col.cells))
    (hlen : l.length ≤ 9223372036854775807) (hlen2 : cols.length ≤ 9223372036854775807) (hs : ∀ c ∈ l, c.tw) (hs2 : ∀ c ∈ cols, c.nm.size ≤ 9223372036854775807) (hnm : nm.size ≤ 9223372036854775807) :
    Calls Try.prog 13 #[.slice a l.length cap, .agg #[.int .u32 oid, .int .u32 ver, .string nm, .int .u8 id, .slice a2 cols.length cap2]] w fun e w' => e = .returned (.bool true) ∧ Ext w w' := by
  have HRF := Hid.mk' (fun W (h : Ext w W) => rfits_big l a cap oid ver nm id cols a2 cap2 W (hl.ext h) (hl2.ext h) hlen hlen2 (fun c hc => (hs c hc).towk) hs2 hnm)
  by_cases hE : fitsE l (⟨oid, ver, nm, id, cols⟩ : Rl) = 0
  case neg =>
    obtain ⟨E, hEE⟩ : ∃ E, E = fitsE l (⟨oid, ver, nm, id, cols⟩ : Rl) := ⟨_, rfl⟩
    rw [← hEE] at hE HRF
    have hE2 : (E != 0) = true := by simpa using hE
    clear hE hEE hl hl2 hs hs2 hnm hlen hlen2
    go_enter Try.func13, Try.ntmps13
    go_wp2_with (go_at_call 43; refine (HRF.out _ (by (repeat (with_reducible (first | exact Ext.refl _ | assumption | exact held_left (by assumption) | apply Ext.drewN | apply Ext.drew | apply Ext.alloc | (refine Ext.setCell ?_ (by first | (simp; done) | (simp; omega) | omega) _) | (refine Ext.trans ?_ (by assumption)) | (refine Ext.trans ?_ (held_left (by assumption)))))))).mono ?_; rintro e w2 ⟨rfl, hb2⟩)
    go_ret
    exact ⟨rfl, by (repeat (with_reducible (first | exact Ext.refl _ | assumption | exact held_left (by assumption) | apply Ext.drewN | apply Ext.drew | apply Ext.alloc | (refine Ext.setCell ?_ (by first | (simp; done) | (simp; omega) | omega) _) | (refine Ext.trans ?_ (by assumption)) | (refine Ext.trans ?_ (held_left (by assumption))))))⟩
  obtain ⟨E0, hE0⟩ : ∃ E0, E0 = fitsE l (⟨oid, ver, nm, id, cols⟩ : Rl) := ⟨_, rfl⟩
  rw [← hE0] at HRF
  have hE1 : (E0 != 0) = false := by rw [hE0, hE]; rfl
  clear hE0
  have hln : l.length = cols.length := (fitsW_zero hE).2.1
  have hc16 : cols.length ≤ 16 := (fits_cols hE).1
  have hn8 : cols.length ≤ 1000 := by omega
  have hna : l.length ≤ 1000 := by omega
  have hT1 := fun rest => takeT_put (l := l) (r := (⟨oid, ver, nm, id, cols⟩ : Rl)) (ver := 1) hE (.inl rfl) hs rest
  have hT2 := fun rest => takeT_put (l := l) (r := (⟨oid, ver, nm, id, cols⟩ : Rl)) (ver := 2) hE (.inr rfl) hs rest
  have hB1 := RowB.of (l := l) (r := (⟨oid, ver, nm, id, cols⟩ : Rl)) (ver := 1) hE (.inl rfl) hs
  have hB2 := RowB.of (l := l) (r := (⟨oid, ver, nm, id, cols⟩ : Rl)) (ver := 2) hE (.inr rfl) hs
  obtain ⟨hFE, hFW⟩ := fill_put (l := l) (r := (⟨oid, ver, nm, id, cols⟩ : Rl)) hE hs
  have hen1 : encE l (⟨oid, ver, nm, id, cols⟩ : Rl) 1 = 0 := by unfold encE; rw [if_pos (.inl rfl)]; exact hE
  have hen2 : encE l (⟨oid, ver, nm, id, cols⟩ : Rl) 2 = 0 := by unfold encE; rw [if_pos (.inr rfl)]; exact hE
  have HO8 := Hid.mk' (fun W (h : Ext w W) => own8_fr oid ver nm id cols a2 cap2 W (hl2.ext h) hn8)
  have HOa := Hid.mk' (fun W (h : Ext w W) => ownK_fr l a cap W (hl.ext h) hna)
  have HSS := Hid.mk' (⟨hs, hs2, hnm⟩ : (∀ c ∈ l, c.tw) ∧ (∀ c ∈ cols, c.nm.size ≤ 9223372036854775807) ∧ nm.size ≤ 9223372036854775807)
  have HP := Hid.mk' (And.intro hT1 (And.intro hT2 (And.intro hB1 (And.intro hB2 (And.intro hFE (And.intro hFW (And.intro hen1 hen2)))))))
  clear hl hl2 hs hs2 hnm hlen hlen2 hE hln hc16 hT1 hT2 hB1 hB2 hFE hFW hen1 hen2
  go_enter Try.func13, Try.ntmps13
  go_wp2_with (go_at_call 43; refine (HRF.out _ (by (repeat (with_reducible (first | exact Ext.refl _ | assumption | exact held_left (by assumption) | apply Ext.drewN | apply Ext.drew | apply Ext.alloc | (refine Ext.setCell ?_ (by first | (simp; done) | (simp; omega) | omega) _) | (refine Ext.trans ?_ (by assumption)) | (refine Ext.trans ?_ (held_left (by assumption)))))))).mono ?_; rintro e w2 ⟨rfl, hb2⟩; have g0 := ((Blk.new w #[.int .u32 oid, .int .u32 ver, .string nm, .int .u8 id, .slice a2 cols.length cap2] 27).ext hb2).cell; have zz0 := ((Blk.new w #[.int .u32 oid, .int .u32 ver, .string nm, .int .u8 id, .slice a2 cols.length cap2] 27).ext hb2).lt)
  clear g0 zz0
  have HE2 := Hid.mk' (show Ext w w2 by (repeat (with_reducible (first | exact Ext.refl _ | assumption | exact held_left (by assumption) | apply Ext.drewN | apply Ext.drew | apply Ext.alloc | (refine Ext.setCell ?_ (by first | (simp; done) | (simp; omega) | omega) _) | (refine Ext.trans ?_ (by assumption)) | (refine Ext.trans ?_ (held_left (by assumption)))))))
  have z0 : w.heap.size < w2.heap.size := by have := hb2.size; simp at this; omega
  have HS : Hid (∀ w', Ext w2 w' → Ext w2 w' ∧ (∀ i, w'.cell? ⟨w.heap.size, i, none⟩ = (#[.int .u32 oid, .int .u32 ver, .string nm, .int .u8 id, .slice a2 cols.length cap2])[i]?) ∧ (∀ b o, b < w2.heap.size → w'.frozen? ⟨b, o, none⟩ = w2.frozen? ⟨b, o, none⟩)) := Hid.mk' (fun w' h => ⟨h, ((Blk.new w #[.int .u32 oid, .int .u32 ver, .string nm, .int .u8 id, .slice a2 cols.length cap2] 27).ext (hb2.trans h)).cell, h.cells.2⟩)
  clear HRF hb2
  go_cut [5, 6] (fun r p wx => ∃ X a3 cap3 b bc, p = .pointer (some ⟨X, 0, none⟩) ∧ r = .slice b l.length bc ∧ cols.length ≤ cap3 ∧ Hid (Blk wx X #[.int .u32 oid, .int .u32 ver, .string nm, .int .u8 id, .slice a3 cols.length cap3] 42) ∧ Hid (Sl wx (.slice a3 cols.length cap3) 3 (cols.map Col.cells)) ∧ Hid (Sl wx (.slice b l.length bc) 5 (l.map K.pc)) ∧ Hid (Ext w2 wx))
  case first =>
      go_region_held3 (fun w' => Ext w2 w' ∧ (∀ i, w'.cell? ⟨w.heap.size, i, none⟩ = (#[.int .u32 oid, .int .u32 ver, .string nm, .int .u8 id, .slice a2 cols.length cap2])[i]?) ∧ (∀ b o, b < w2.heap.size → w'.frozen? ⟨b, o, none⟩ = w2.frozen? ⟨b, o, none⟩)) (exact HS.out _ (by (repeat (with_reducible (first | exact Ext.refl _ | assumption | exact held_left (by assumption) | apply Ext.drewN | apply Ext.drew | apply Ext.alloc | (refine Ext.setCell ?_ (by first | (simp; done) | (simp; omega) | omega) _) | (refine Ext.trans ?_ (by assumption)) | (refine Ext.trans ?_ (held_left (by assumption))))))))
        (first
          | (go_at_call 17; refine (HO8.out _ (HE2.out.trans (by (repeat (with_reducible (first | exact Ext.refl _ | assumption | exact held_left (by assumption) | apply Ext.drewN | apply Ext.drew | apply Ext.alloc | (refine Ext.setCell ?_ (by first | (simp; done) | (simp; omega) | omega) _) | (refine Ext.trans ?_ (by assumption)) | (refine Ext.trans ?_ (held_left (by assumption))))))))).mono ?_; rintro e w3 ⟨a3, cap3, rfl, h3, hs3, hb3⟩; have H3 := Hid.mk' hs3; clear hs3; obtain ⟨hc3, hf3⟩ := hb3.cells; have hz3 := hb3.size; (try simp at hz3); (try have q3 : w2.heap.size < w3.heap.size := (by omega)); (try have q34 : w4.heap.size < w3.heap.size := (by omega)))
          | (go_at_call 15; refine (HOa.out _ (HE2.out.trans (by (repeat (with_reducible (first | exact Ext.refl _ | assumption | exact held_left (by assumption) | apply Ext.drewN | apply Ext.drew | apply Ext.alloc | (refine Ext.setCell ?_ (by first | (simp; done) | (simp; omega) | omega) _) | (refine Ext.trans ?_ (by assumption)) | (refine Ext.trans ?_ (held_left (by assumption))))))))).mono ?_; rintro e w4 ⟨b, bc, rfl, h4, hs4, hb4⟩; have H4 := Hid.mk' hs4; clear hs4; obtain ⟨hc4, hf4⟩ := hb4.cells; have hz4 := hb4.size; (try simp at hz4); (try have q4 : w2.heap.size < w4.heap.size := (by omega)); (try have q43 : w3.heap.size < w4.heap.size := (by omega))))
      all_goals
        go_wp2
        go_meet
        case rel =>
          refine ⟨_, a3, cap3, b, bc, rfl, rfl, h3, Hid.mk' ?_, Hid.mk' ?_, Hid.mk' ?_, Hid.mk' ?_⟩
          · repeat (with_reducible (first | exact Blk.new _ _ _ | (refine Blk.new' _ _ ?_; (simp; done)) | apply Blk.five | refine Blk.alloc ?_ _ | refine Blk.drew ?_ | refine Blk.ext ?_ hb4 | refine Blk.ext ?_ hb3))
          · first | ((with_reducible refine Fr.sl (Fr.five (Fr.ext H3.out ?_) ?_)); (· (repeat (with_reducible (first | exact Ext.refl _ | assumption | exact held_left (by assumption) | apply Ext.drewN | apply Ext.drew | apply Ext.alloc | (refine Ext.setCell ?_ (by first | (simp; done) | (simp; omega) | omega) _) | (refine Ext.trans ?_ (by assumption)) | (refine Ext.trans ?_ (held_left (by assumption))))))); (· first | (simp; done) | (simp; omega) | omega | (left; simp; done) | (left; simp; omega) | (right; simp; done) | (right; simp; omega))) | ((with_reducible refine Fr.sl (Fr.ext H3.out ?_)); · (repeat (with_reducible (first | exact Ext.refl _ | assumption | exact held_left (by assumption) | apply Ext.drewN | apply Ext.drew | apply Ext.alloc | (refine Ext.setCell ?_ (by first | (simp; done) | (simp; omega) | omega) _) | (refine Ext.trans ?_ (by assumption)) | (refine Ext.trans ?_ (held_left (by assumption)))))))
          · first | ((with_reducible refine Fr.sl (Fr.five (Fr.ext H4.out ?_) ?_)); (· (repeat (with_reducible (first | exact Ext.refl _ | assumption | exact held_left (by assumption) | apply Ext.drewN | apply Ext.drew | apply Ext.alloc | (refine Ext.setCell ?_ (by first | (simp; done) | (simp; omega) | omega) _) | (refine Ext.trans ?_ (by assumption)) | (refine Ext.trans ?_ (held_left (by assumption))))))); (· first | (simp; done) | (simp; omega) | omega | (left; simp; done) | (left; simp; omega) | (right; simp; done) | (right; simp; omega))) | ((with_reducible refine Fr.sl (Fr.ext H4.out ?_)); · (repeat (with_reducible (first | exact Ext.refl _ | assumption | exact held_left (by assumption) | apply Ext.drewN | apply Ext.drew | apply Ext.alloc | (refine Ext.setCell ?_ (by first | (simp; done) | (simp; omega) | omega) _) | (refine Ext.trans ?_ (by assumption)) | (refine Ext.trans ?_ (held_left (by assumption)))))))
          · (repeat (with_reducible (first | exact Ext.refl _ | assumption | exact held_left (by assumption) | apply Ext.drewN | apply Ext.drew | apply Ext.alloc | (refine Ext.setCell ?_ (by first | (simp; done) | (simp; omega) | omega) _) | (refine Ext.trans ?_ (by assumption)) | (refine Ext.trans ?_ (held_left (by assumption))))))
  case rest =>
    as_aux_lemma =>
      obtain ⟨X, a3, cap3, b, bc, rfl, rfl, h3, HX, H3, H4, HEc⟩ := hcut
      have HEN1 := Hid.mk' (fun W' (h : Ext wc W') => encode_any l b bc oid ver nm id cols a3 cap3 1 W' (H4.out.ext h) (H3.out.ext h) h3 hna hn8 HSS.out.1 HSS.out.2.1 HSS.out.2.2)
      have HEN2 := Hid.mk' (fun W' (h : Ext wc W') => encode_any l b bc oid ver nm id cols a3 cap3 2 W' (H4.out.ext h) (H3.out.ext h) h3 hna hn8 HSS.out.1 HSS.out.2.1 HSS.out.2.2)
      obtain ⟨hT1, hT2, hB1, hB2, hFE, hFW, hen1, hen2⟩ := HP.out
      unfold EncPost at HEN1 HEN2
      rw [hen1] at HEN1
      rw [hen2] at HEN2
      have h3X : ∀ k o, a3 = some ⟨k, o, none⟩ → cols ≠ [] → k < wc.heap.size := by
        intro k o e hne
        obtain ⟨i, hi⟩ : ∃ i, i < cols.length := ⟨0, List.length_pos_iff.2 hne⟩
        obtain ⟨b', o', e', hb', -⟩ := H3.out.at_ (i := i) (by simpa using hi)
        rw [e] at e'; cases e'; exact hb'
      have H3X := Hid.mk' h3X
      have HTK1 := Hid.mk' (fun g d n W h (hE : Ext wc W) (hg : wc.heap.size ≤ g) => take_any g d (reps (rowPut l cols 1) (n + 1)) oid ver nm id cols a3 cap3 1 W h (H3.out.ext hE) (fun k o e hne => by have := H3X.out k o e hne; omega) h3 hn8 HSS.out.2.1 HSS.out.2.2)
      have HTK2 := Hid.mk' (fun g d n W h (hE : Ext wc W) (hg : wc.heap.size ≤ g) => take_any g d (reps (rowPut l cols 2) (n + 1)) oid ver nm id cols a3 cap3 2 W h (H3.out.ext hE) (fun k o e hne => by have := H3X.out k o e hne; omega) h3 hn8 HSS.out.2.1 HSS.out.2.2)
      simp only [take_same, reps_succ] at HTK1 HTK2
      have e1 : ∀ rest, takeT (⟨oid, ver, nm, id, cols⟩ : Rl) 1 ⟨rowPut l cols 1 ++ rest, 0⟩ = ((blanks l, hoL l), ⟨rest, 0⟩) := hT1
      have e2 : ∀ rest, takeT (⟨oid, ver, nm, id, cols⟩ : Rl) 2 ⟨rowPut l cols 2 ++ rest, 0⟩ = ((blanks l, hoL l), ⟨rest, 0⟩) := hT2
      simp only [e1, e2, reps_form] at HTK1 HTK2
      unfold TkPost at HTK1 HTK2
      simp only [blanks_len] at HTK1 HTK2
      have hhl : (hoL l).length ≤ 1000 := by rw [hoL_len]; exact Nat.le_trans (larges_len l _) hna
      have htl : (txL l).length ≤ 1000 := by rw [txL_len]; exact Nat.le_trans (larges_len l _) hna
      have HTX := Hid.mk' (fun W' (h : Ext wc W') => texts_any l b bc W' (H4.out.ext h) hna)
      have HFL := Hid.mk' (fun W a1 c1 ah ch at' ct h1 h2 h3 => fill_any (blanks l) (hoL l) (txL l) a1 ah at' c1 ch ct W h1 h2 h3 (by rw [blanks_len]; exact hna) hhl htl (fun t ht => by
        rw [txL, List.mem_map] at ht
        obtain ⟨x, hx, rfl⟩ := ht
        obtain ⟨-, h, -, e⟩ := larges_mem _ x hx
        rw [e]; exact (HSS.out.1 _ (List.getElem_mem h)).s))
      unfold FillPost at HFL
      rw [hFE, hFW] at HFL
      simp only [blanks_len] at HFL
      have HAK := Hid.mk' (fun W c d cc cd h1 h2 => alike_any l l c d cc cd W h1 h2 hna hna)
      rw [rowB_true.2 rfl] at HAK
      have HEw := Hid.mk' (HE2.out.trans HEc.out)
      obtain ⟨A, hA⟩ : ∃ A, A = rowPut l cols 1 := ⟨_, rfl⟩
      obtain ⟨B, hB⟩ : ∃ B, B = rowPut l cols 2 := ⟨_, rfl⟩
      have hA1 : isB A ∧ A.length ≤ 70000 := by rw [hA]; exact ⟨hB1.b, hB1.n⟩
      have hB3 : isB B ∧ B.length ≤ 70000 := by rw [hB]; exact ⟨hB2.b, hB2.n⟩
      rw [← hA] at HTK1
      rw [← hB] at HTK2
      have HEN1' := Hid.mk' (fun W' (h : Ext wc W') => (HEN1.out W' h).mono (R' := fun e w' => ∃ v, e = .returned (.tuple #[v, .int .i64 0]) ∧ OB w' W'.heap.size v A ∧ Ext W' w') (by rintro e w' ⟨v, rfl, q1, -, q3⟩; exact ⟨v, rfl, by rw [hA]; exact q1 rfl, q3⟩))
      have HEN2' := Hid.mk' (fun W' (h : Ext wc W') => (HEN2.out W' h).mono (R' := fun e w' => ∃ v, e = .returned (.tuple #[v, .int .i64 0]) ∧ OB w' W'.heap.size v B ∧ Ext W' w') (by rintro e w' ⟨v, rfl, q1, -, q3⟩; exact ⟨v, rfl, by rw [hB]; exact q1 rfl, q3⟩))
      have HIA := Hid.mk' hA1
      have HIB := Hid.mk' hB3
      have hAl := hA1.2
      have hBl := hB3.2
      have HX0 : Hid (∀ w', Ext wc w' → ∀ i, w'.cell? ⟨X, i, none⟩ = (#[.int .u32 oid, .int .u32 ver, .string nm, .int .u8 id, .slice a3 cols.length cap3])[i]?) := Hid.mk' (fun w' h => (HX.out.ext h).cell)
      have hXl := HX.out.lt
      have gX := HX0.out wc (Ext.refl _)
      have H4' := H4
      clear HP HSS HO8 HOa HS H3 H4 HE2 HEc HX HEN1 HEN2 hT1 hT2 hB1 hB2 hFE hFW hen1 hen2 e1 e2 hA hB hA1 hB3 h3X hhl htl
      go_upto_region 5 with (go_at_call 38; refine (HEN1'.out _ (by (repeat (with_reducible (first | exact Ext.refl _ | assumption | exact held_left (by assumption) | apply Ext.drewN | apply Ext.drew | apply Ext.alloc | (refine Ext.setCell ?_ (by first | (simp; done) | (simp; omega) | omega) _) | (refine Ext.trans ?_ (by assumption)) | (refine Ext.trans ?_ (held_left (by assumption)))))))).mono ?_; rintro e w3 ⟨v1, rfl, ho1, hb3⟩; have HO1 := Hid.mk' ho1; have k3 := HX0.out w3 (by (repeat (with_reducible (first | exact Ext.refl _ | assumption | exact held_left (by assumption) | apply Ext.drewN | apply Ext.drew | apply Ext.alloc | (refine Ext.setCell ?_ (by first | (simp; done) | (simp; omega) | omega) _) | (refine Ext.trans ?_ (by assumption)) | (refine Ext.trans ?_ (held_left (by assumption))))))); have z3 := hb3.size; clear ho1 gX)
      go_upto_region 8 with (go_at_call 38; refine (HEN2'.out _ (by (repeat (with_reducible (first | exact Ext.refl _ | assumption | exact held_left (by assumption) | apply Ext.drewN | apply Ext.drew | apply Ext.alloc | (refine Ext.setCell ?_ (by first | (simp; done) | (simp; omega) | omega) _) | (refine Ext.trans ?_ (by assumption)) | (refine Ext.trans ?_ (held_left (by assumption)))))))).mono ?_; rintro e w4 ⟨v2, rfl, ho2, hb4⟩; have HO2 := Hid.mk' ho2; clear ho2 k3)
      have HE4 := Hid.mk' (show Ext wc w4 by (repeat (with_reducible (first | exact Ext.refl _ | assumption | exact held_left (by assumption) | apply Ext.drewN | apply Ext.drew | apply Ext.alloc | (refine Ext.setCell ?_ (by first | (simp; done) | (simp; omega) | omega) _) | (refine Ext.trans ?_ (by assumption)) | (refine Ext.trans ?_ (held_left (by assumption)))))))
      have HO14 := Hid.mk' (HO1.out.ext hb4)
      clear hb3 hb4 HO1 HEN1' HEN2'
      have HN1 := Hid.mk' (fun W (h : Ext w4 W) => NB.of_own (HO14.out.ext h))
      have HN2 := Hid.mk' (fun W (h : Ext w4 W) => NB.of_own (HO2.out.ext h))
      clear HO14 HO2
      go_wp2_with (at_builtin; refine app_bytes rfl _ _ rfl w4.heap.size (.slice (some ⟨w4.heap.size, 0, none⟩) 0 0) [] rfl ?c0 v1 A rfl (HN1.out _ ((Ext.refl w4).alloc _)) ?c1 ?c2 ?_)
      case c0 => exact ⟨rfl, .inr ⟨_, 0, #[], rfl, Nat.le_refl _, Blk.new w4 #[] _, Nat.le_refl _, Nat.zero_le _, rfl, rfl⟩⟩
      case c1 => simp; omega
      case c2 => simp
      intro v5 w5 ho5 hgrow
      have hE5 : Ext w4 w5 := OB.grown (W := w4) (v := .slice (some ⟨w4.heap.size, 0, none⟩) 0 0) (l := []) ((Ext.refl w4).alloc _) ⟨rfl, .inr ⟨_, 0, #[], rfl, Nat.le_refl _, Blk.new w4 #[] _, Nat.le_refl _, Nat.zero_le _, rfl, rfl⟩⟩ hgrow
      clear hgrow
      have ho5 : OB w5 w4.heap.size v5 A := ho5
      have HO5 := Hid.mk' ho5
      have HE5 := Hid.mk' hE5
      have hz5 := hE5.size
      clear ho5 hE5
      go_wp2_with (at_builtin; refine app_bytes rfl _ _ rfl w4.heap.size v5 A rfl HO5.out v1 A rfl (HN1.out _ HE5.out) ?d1 ?d2 ?_)
      case d1 => omega
      case d2 => exact hz5
      intro v6 w6 ho6 hgrow
      have HO6 := Hid.mk' ho6
      have HE6 := Hid.mk' (OB.grown HE5.out HO5.out hgrow)
      clear ho6 hgrow HO5 HE5
      go_wp2_with (first
        | (go_at_call 49; refine (read_any _ (A ++ A) _ HO6.out.sl (by rw [List.length_append]; omega) (HIA.out.1.append HIA.out.1)).mono ?_; rintro e w7 ⟨g, rfl, hg, hr, hb7⟩; have HR7 := Hid.mk' hr; have hgl := hr.lt; have HE7 := Hid.mk' (HE6.out.trans hb7); clear hr hb7)
        | (at_builtin; refine app_bytes rfl _ _ rfl w7.heap.size (.slice (some ⟨w7.heap.size, 0, none⟩) 0 0) [] rfl ?c0 v2 B rfl (HN2.out _ (HE7.out.alloc _)) ?c1 ?c2 ?_))
      case c0 => exact ⟨rfl, .inr ⟨_, 0, #[], rfl, Nat.le_refl _, Blk.new w7 #[] _, Nat.le_refl _, Nat.zero_le _, rfl, rfl⟩⟩
      case c1 => simp; omega
      case c2 => simp
      intro v8 w8 ho8 hgrow
      have hE8 : Ext w7 w8 := OB.grown (W := w7) (v := .slice (some ⟨w7.heap.size, 0, none⟩) 0 0) (l := []) ((Ext.refl w7).alloc _) ⟨rfl, .inr ⟨_, 0, #[], rfl, Nat.le_refl _, Blk.new w7 #[] _, Nat.le_refl _, Nat.zero_le _, rfl, rfl⟩⟩ hgrow
      clear hgrow
      have ho8 : OB w8 w7.heap.size v8 B := ho8
      have HO8 := Hid.mk' ho8
      have HE8 := Hid.mk' hE8
      have hz8 := hE8.size
      clear ho8 hE8
      go_wp2_with (at_builtin; refine app_bytes rfl _ _ rfl w7.heap.size v8 B rfl HO8.out v2 B rfl (HN2.out _ (HE7.out.trans HE8.out)) ?d1 ?d2 ?_)
      case d1 => omega
      case d2 => exact hz8
      intro v9 w9 ho9 hgrow
      have HO9 := Hid.mk' ho9
      have HE9 := Hid.mk' (OB.grown HE8.out HO8.out hgrow)
      clear ho9 hgrow HO8 HE8
      have hz9 := HE9.out.size
      go_upto_block 0 with (go_at_call 49; refine (read_any _ (B ++ B) _ HO9.out.sl (by rw [List.length_append]; omega) (HIB.out.1.append HIB.out.1)).mono ?_; rintro e w10 ⟨q, rfl, hq, hr, hb10⟩; have HQ10 := Hid.mk' hr; have hql := hr.lt; have HR10 := Hid.mk' (HR7.out.ext (HE9.out.trans hb10)); have HE10 := Hid.mk' (HE4.out.trans (HE7.out.trans (HE9.out.trans hb10))); clear hr hb10)
      have hgw : wc.heap.size ≤ g := by have := HE4.out.size; have := HE6.out.size; omega
      have hqg : g < w9.heap.size := by omega
      have hqw : wc.heap.size ≤ q := by omega
      rw [← reps_two] at HR10 HQ10
      have HEND := Hid.mk' (fun g d w h => rend_any g d ⟨[], 0⟩ w h)
      have hen : endE ⟨[], 0⟩ = 0 := rfl
      rw [hen] at HEND
      clear hen HIA HIB HN1 HN2 HO6 HE6 HR7 HE7 HO9 HE9 HE4 hAl hBl
      go_wp2
      go_loopw [13] (fun i wr => ∃ k n : Nat, k + n = 2 ∧ i = .int .i64 k ∧ Hid (RD wr g w6.heap.size (reps A n)) ∧ Hid (RD wr q w9.heap.size (reps B n)) ∧ Hid (Ext wc wr)) (fun i _ => 2 - (intOf i).toNat)
      case atStart => exact ⟨0, 2, rfl, rfl, HR10, HQ10, HE10⟩
      case round =>
        obtain ⟨k, n, hkn, rfl, hr1, hr2, hE⟩ := hrel
        by_cases hlt : k < 2
        · obtain ⟨m, rfl⟩ : ∃ m, n = m + 1 := ⟨n - 1, by omega⟩
          have gX := HX0.out wr hE.out
          have hgr := hr1.out.lt
          have hqr := hr2.out.lt
          have hwr := hE.out.size
          go_upto_region 15 with (go_at_call 50; refine (HTK1.out g w6.heap.size m _ (by rw [← reps_succ]; exact hr1.out) hE.out hgw).mono ?_; rintro e w11 ⟨a4, c4, a5, c5, rfl, hs4, hs5, ha4, ha5, hr3, ht3⟩; have HE11 := Hid.mk' (Tch.ext hE.out hgw ht3); have HR3 := Hid.mk' hr3; have HQ3 := Hid.mk' (hr2.out.tch ht3 (by omega) (.inl hqg)); have HS4 := Hid.mk' hs4; have HS5 := Hid.mk' hs5; have HA4 := Hid.mk' ha4; have HA5 := Hid.mk' ha5; have z11 := ht3.size; have k11 := HX0.out w11 HE11.out; clear hs4 hs5 ha4 ha5 hr3 ht3 gX)
          go_upto_region 16 with (go_at_call 50; refine (HTK2.out q w9.heap.size m _ (by rw [← reps_succ]; exact HQ3.out) HE11.out hqw).mono ?_; rintro e w12 ⟨a6, c6, a7, c7, rfl, hs6, hs7, ha6, ha7, hr4, ht4⟩; have HE12 := Hid.mk' (Tch.ext HE11.out hqw ht4); have HQ4 := Hid.mk' hr4; have HR4 := Hid.mk' (HR3.out.tch ht4 (by omega) (.inr (by omega))); have HS6 := Hid.mk' hs6; have HS7 := Hid.mk' hs7; have HS42 := Hid.mk' (HS4.out.tch ht4 (fun b o e => by have := HA4.out b o e; omega)); have HS52 := Hid.mk' (HS5.out.tch ht4 (fun b o e => by have := HA5.out b o e; omega)); clear hs6 hs7 ha6 ha7 hr4 ht4 k11)
          clear HR3 HQ3 HS4 HS5 HA4 HA5 HE11
          go_upto_region 17 with (first
            | (go_at_call 41; refine (HTX.out _ HE12.out).mono ?_; rintro e w13 ⟨at1, ct1, rfl, hst, hb13⟩; have HT13 := Hid.mk' hst; have HB13 := Hid.mk' hb13; clear hst hb13)
            | (go_at_call 47; refine (HFL.out _ _ _ _ _ _ _ (HS42.out.ext HB13.out) (HS52.out.ext HB13.out) HT13.out).mono ?_; rintro e w14 ⟨a8, c8, rfl, hs8, hb14⟩; have HS8 := Hid.mk' hs8; have HB14 := Hid.mk' (HB13.out.trans hb14); clear hs8 hb14))
          go_upto_region 18 with (first
            | (go_at_call 41; refine (HTX.out _ (HE12.out.trans HB14.out)).mono ?_; rintro e w15 ⟨at2, ct2, rfl, hst, hb15⟩; have HT15 := Hid.mk' hst; have HB15 := Hid.mk' hb15; clear hst hb15)
            | (go_at_call 47; refine (HFL.out _ _ _ _ _ _ _ (HS6.out.ext (HB14.out.trans HB15.out)) (HS7.out.ext (HB14.out.trans HB15.out)) HT15.out).mono ?_; rintro e w16 ⟨a10, c10, rfl, hs10, hb16⟩; have HS10 := Hid.mk' hs10; have HB16 := Hid.mk' (HB15.out.trans hb16); clear hs10 hb16))
          have HE16 := Hid.mk' (HE12.out.trans (HB14.out.trans HB16.out))
          clear HT13 HT15 HS42 HS52 HS6 HS7 HB13 HB15
          go_wp2_with (first
            | (go_at_call 32; (with_reducible refine (HAK.out _ a8 b c8 bc (HS8.out.ext HB16.out) (H4'.out.ext HE16.out)).mono ?_); rintro e w17 ⟨rfl, hb17⟩; have HB17 := Hid.mk' hb17; clear hb17)
            | (go_at_call 32; (with_reducible refine (HAK.out _ a10 b c10 bc (HS10.out.ext HB17.out) (H4'.out.ext (HE16.out.trans HB17.out))).mono ?_); rintro e w18 ⟨rfl, hb18⟩; have HB18 := Hid.mk' hb18; clear hb18))
          have HBX := Hid.mk' (HB14.out.trans (HB16.out.trans (HB17.out.trans HB18.out)))
          go_roundw
          case rel => exact ⟨k + 1, m, by omega, by go_num, Hid.mk' (HR4.out.ext HBX.out), Hid.mk' (HQ4.out.ext HBX.out), Hid.mk' (HE12.out.trans HBX.out)⟩
          case measure => simp [intOf]; omega
        · obtain rfl : k = 2 := by omega
          obtain rfl : n = 0 := by omega
          clear hlt
          have H1 : Hid (RD wr g w6.heap.size ⟨[], 0⟩) := hr1
          have H2 : Hid (RD wr q w9.heap.size ⟨[], 0⟩) := hr2
          clear hr1 hr2
          go_wp2_with (first
            | (go_at_call 55; (with_reducible refine (HEND.out g _ _ H1.out).mono ?_); rintro e w20 ⟨rfl, rfl⟩)
            | (go_at_call 55; (with_reducible refine (HEND.out q _ _ H2.out).mono ?_); rintro e w21 ⟨rfl, rfl⟩)
            | (go_at_call 46; refine (awake10_any _).mono ?_; rintro e w22 ⟨rfl, hb22⟩))
          go_ret
          exact ⟨rfl, HEw.out.trans (hE.out.trans hb22)⟩

end Go.Proofs.Ytdbepkfblfhlhaa
