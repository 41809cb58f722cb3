/-
The walk of ImageStrict; what may be is one thing.
-/
import Derived.Test.YtdbepkfblfhlhaaImgR
import Derived.Test.YtdbepkfblfhlhaaOwnF
import Derived.Test.YtdbepkfblfhlhaaFive
import Derived.Test.YtdbepkfblfhlhaaImgK
namespace Go.Proofs.Ytdbepkfblfhlhaa
open Go.RowKit

theorem keyed_len {l : List K} {r : Rl} (h : keyedE l r = 0) : 0 < l.length := by
  obtain ⟨h1, h2, -⟩ := fits_zero (keyed_fits h)
  unfold Rl.right at h1
  (repeat' split at h1) <;> first | omega | (exfalso; omega)
theorem isKey_keyed {l : List K} {r : Rl} (h : isKeyE l r = 0) : keyedE l r = 0 := by
  unfold isKeyE at h
  split at h
  · rename_i h1; exact absurd h h1
  · rename_i h1; simpa using h1
theorem img_zero {r : Rl} {kind old : Int} {b a : List K} (h : imgE r kind old b a = 0) : (4 ≤ kind ∧ kind ≤ 6) ∧ old ≤ 2 ∧ (old = 0 → b.length = 0) ∧ (kind = 6 → a.length = 0) ∧ allowB r.id kind old = true ∧ (old = 1 → isKeyE b r = 0) ∧ (old = 2 → isFullE b r = 0) ∧ (kind = 4 → isFullE a r = 0) := by
  unfold imgE at h
  by_cases c1 : kind < 4 ∨ 6 < kind
  · rw [if_pos c1] at h; cases h
  rw [if_neg c1] at h
  by_cases c2 : 2 < old
  · rw [if_pos c2] at h; cases h
  rw [if_neg c2] at h
  by_cases c3 : old = 0 ∧ 0 < b.length
  · rw [if_pos c3] at h; cases h
  rw [if_neg c3] at h
  by_cases c4 : kind = 6 ∧ 0 < a.length
  · rw [if_pos c4] at h; cases h
  rw [if_neg c4] at h
  by_cases c5 : allowB r.id kind old = false
  · rw [if_pos c5] at h; cases h
  rw [if_neg c5] at h
  by_cases c6 : old = 1 ∧ isKeyE b r ≠ 0
  · rw [if_pos c6] at h; exact absurd h c6.2
  rw [if_neg c6] at h
  by_cases c7 : old = 2 ∧ isFullE b r ≠ 0
  · rw [if_pos c7] at h; exact absurd h c7.2
  rw [if_neg c7] at h
  refine ⟨by omega, by omega, fun e => by omega, fun e => by omega, by simpa using c5, fun e => Classical.byContradiction fun q => c6 ⟨e, q⟩, fun e => Classical.byContradiction fun q => c7 ⟨e, q⟩, fun e => Classical.byContradiction fun q => ?_⟩
  rw [if_neg (by omega), if_pos ⟨e, q⟩] at h
  exact q h
theorem img_one {r : Rl} {kind o1 o2 : Int} {b a : List K} (h1 : imgE r kind o1 b a = 0) (h2 : imgE r kind o2 b a = 0) : o1 = o2 := by
  obtain ⟨k1, p1, z1, -, al1, ky1, -, -⟩ := img_zero h1
  obtain ⟨k2, p2, z2, -, al2, ky2, -, -⟩ := img_zero h2
  unfold allowB at al1 al2
  by_cases c4 : kind = 4
  · rw [if_pos c4, decide_eq_true_iff] at al1 al2; omega
  · rw [if_neg c4] at al1 al2
    by_cases c5 : kind = 5
    · rw [if_pos c5, Bool.or_eq_true, Bool.and_eq_true, decide_eq_true_iff, decide_eq_true_iff, decide_eq_true_iff] at al1 al2
      rcases al1 with al1 | ⟨al1, i1⟩ <;> rcases al2 with al2 | ⟨al2, i2⟩
      · omega
      · have := keyed_len (isKey_keyed (ky1 (by omega)))
        have := z2 al2
        omega
      · have := keyed_len (isKey_keyed (ky2 (by omega)))
        have := z1 al1
        omega
      · omega
    · rw [if_neg c5, Bool.and_eq_true, decide_eq_true_iff] at al1 al2; omega
/-- How many kinds of old images are right, of the first n. -/
noncomputable def manyE (f : Int → Int) : Nat → Int
  | 0 => 0
  | n + 1 => manyE f n + if f n = 0 then 1 else 0
theorem many_bd (f : Int → Int) : ∀ n, 0 ≤ manyE f n ∧ manyE f n ≤ n
  | 0 => ⟨Int.le_refl _, Int.le_refl _⟩
  | n + 1 => by
    have := many_bd f n
    unfold manyE
    split <;> omega
theorem many_one {r : Rl} {kind : Int} {b a : List K} : manyE (fun o => imgE r kind o b a) 4 ≤ 1 := by
  have u01 : imgE r kind 0 b a = 0 → imgE r kind 1 b a = 0 → False := fun h h' => absurd (img_one h h') (by decide)
  have u02 : imgE r kind 0 b a = 0 → imgE r kind 2 b a = 0 → False := fun h h' => absurd (img_one h h') (by decide)
  have u03 : imgE r kind 0 b a = 0 → imgE r kind 3 b a = 0 → False := fun h h' => absurd (img_one h h') (by decide)
  have u12 : imgE r kind 1 b a = 0 → imgE r kind 2 b a = 0 → False := fun h h' => absurd (img_one h h') (by decide)
  have u13 : imgE r kind 1 b a = 0 → imgE r kind 3 b a = 0 → False := fun h h' => absurd (img_one h h') (by decide)
  have u23 : imgE r kind 2 b a = 0 → imgE r kind 3 b a = 0 → False := fun h h' => absurd (img_one h h') (by decide)
  show ((((0 : Int) + if imgE r kind 0 b a = 0 then (1 : Int) else 0) + if imgE r kind 1 b a = 0 then (1 : Int) else 0) + if imgE r kind 2 b a = 0 then (1 : Int) else 0) + (if imgE r kind 3 b a = 0 then (1 : Int) else 0) ≤ 1
  split <;> split <;> split <;> split
  all_goals first
    | omega
    | (exfalso; apply u01 <;> assumption)
    | (exfalso; apply u02 <;> assumption)
    | (exfalso; apply u03 <;> assumption)
    | (exfalso; apply u12 <;> assumption)
    | (exfalso; apply u13 <;> assumption)
    | (exfalso; apply u23 <;> assumption)
theorem insert_one {r : Rl} {old : Int} {b a : List K} (h : imgE r 4 0 b a = 0) : b.length = 0 ∧ isFullE a r = 0 ∧ imgE r 6 old b a ≠ 0 := by
  obtain ⟨-, -, z, -, -, -, -, f⟩ := img_zero h
  refine ⟨z rfl, f rfl, fun h6 => ?_⟩
  obtain ⟨-, -, -, a6, -⟩ := img_zero h6
  have := keyed_len (full_keyed (f rfl))
  have := a6 rfl
  omega

set_option maxRecDepth 100000 in set_option maxHeartbeats 20000000 in
theorem imgstrict_any (kind old : Int) (lb la : List K) (ab aa : Option Addr) (cb ca : Nat) (oid ver : Int) (nm : ByteArray) (id : Int) (cols : List Col) (a2 : Option Addr) (cap2 : Nat) (w : World) (hb : Sl w (.slice ab lb.length cb) 6 (lb.map K.rc)) (ha : Sl w (.slice aa la.length ca) 6 (la.map K.rc)) (hl2 : Sl w (.slice a2 cols.length cap2) 3 (cols.map Col.cells))
    (hlb : lb.length ≤ 9223372036854775807) (hla : la.length ≤ 9223372036854775807) (hlen2 : cols.length ≤ 9223372036854775807) (hsb : ∀ c ∈ lb, c.wk) (hsa : ∀ c ∈ la, c.wk) (hs2 : ∀ c ∈ cols, c.nm.size ≤ 9223372036854775807) (hnm : nm.size ≤ 9223372036854775807) (hid : 0 ≤ id) (hold : 0 ≤ old) :
    Calls Try.prog 6 #[.agg #[.int .u32 oid, .int .u32 ver, .string nm, .int .u8 id, .slice a2 cols.length cap2], .agg #[.int .u8 kind, .int .u8 old, .slice ab lb.length cb, .slice aa la.length ca]] w fun e w' => e = .returned (.bool true) ∧ Ext w w' := by
  have HGb := Hid.mk' (fun W (h : Ext w W) => greatK_any lb ab cb oid ver nm id cols a2 cap2 W (hb.ext h) (hl2.ext h) hlb hlen2 (fun c hc => (hsb c hc).s) hs2 hnm)
  have HGa := Hid.mk' (fun W (h : Ext w W) => greatK_any la aa ca oid ver nm id cols a2 cap2 W (ha.ext h) (hl2.ext h) hla hlen2 (fun c hc => (hsa c hc).s) hs2 hnm)
  have HO8 := Hid.mk' (fun W (h : Ext w W) (hn : cols.length ≤ 1000) => own8_fr oid ver nm id cols a2 cap2 W (hl2.ext h) hn)
  have HOb := Hid.mk' (fun W (h : Ext w W) (hn : lb.length ≤ 1000) => ownK_fr lb ab cb W (hb.ext h) hn)
  have HOa := Hid.mk' (fun W (h : Ext w W) (hn : la.length ≤ 1000) => ownK_fr la aa ca W (ha.ext h) hn)
  have HSS := Hid.mk' (⟨hsb, hsa, hs2, hnm⟩ : (∀ c ∈ lb, c.wk) ∧ (∀ c ∈ la, c.wk) ∧ (∀ c ∈ cols, c.nm.size ≤ 9223372036854775807) ∧ nm.size ≤ 9223372036854775807)
  clear hb ha hl2 hsb hsa hs2 hnm
  go_enter Try.func6, Try.ntmps6
  go_upto_region 3 with (first
    | (go_at_call_of 14 (Value.slice ab lb.length cb); refine (HGb.out _ (by (repeat (with_reducible (first | exact Ext.refl _ | assumption | exact held_left (by assumption) | apply Ext.drewN | apply Ext.drew | apply Ext.alloc | (refine Ext.setCell ?_ (by first | (simp; done) | (simp; omega) | omega) _) | (refine Ext.trans ?_ (by assumption)) | (refine Ext.trans ?_ (held_left (by assumption)))))))).mono ?_; rintro e w1 ⟨g, rfl, hg, hb1⟩; have g0 := (((Blk.new w #[.int .u32 oid, .int .u32 ver, .string nm, .int .u8 id, .slice a2 cols.length cap2] 27).alloc (.cells #[.int .u8 kind, .int .u8 old, .slice ab lb.length cb, .slice aa la.length ca] 71)).ext hb1).cell; have g1 := ((Blk.new' (b := w.heap.size + 1) #[.int .u8 kind, .int .u8 old, .slice ab lb.length cb, .slice aa la.length ca] 71 (by simp)).ext hb1).cell; have HB := Hid.mk' hg; clear hg; cases g)
    | (go_at_call_of 14 (Value.slice aa la.length ca); refine (HGa.out _ (by (repeat (with_reducible (first | exact Ext.refl _ | assumption | exact held_left (by assumption) | apply Ext.drewN | apply Ext.drew | apply Ext.alloc | (refine Ext.setCell ?_ (by first | (simp; done) | (simp; omega) | omega) _) | (refine Ext.trans ?_ (by assumption)) | (refine Ext.trans ?_ (held_left (by assumption)))))))).mono ?_; rintro e w2 ⟨g', rfl, hg', hb2⟩; have g2 := (((Blk.new w #[.int .u32 oid, .int .u32 ver, .string nm, .int .u8 id, .slice a2 cols.length cap2] 27).alloc (.cells #[.int .u8 kind, .int .u8 old, .slice ab lb.length cb, .slice aa la.length ca] 71)).ext (hb1.trans hb2)).cell; have g3 := ((Blk.new' (b := w.heap.size + 1) #[.int .u8 kind, .int .u8 old, .slice ab lb.length cb, .slice aa la.length ca] 71 (by simp)).ext (hb1.trans hb2)).cell; have HA := Hid.mk' hg'; clear hg'; cases g'))
  all_goals try (go_ret; exact ⟨rfl, by (repeat (with_reducible (first | exact Ext.refl _ | assumption | exact held_left (by assumption) | apply Ext.drewN | apply Ext.drew | apply Ext.alloc | (refine Ext.setCell ?_ (by first | (simp; done) | (simp; omega) | omega) _) | (refine Ext.trans ?_ (by assumption)) | (refine Ext.trans ?_ (held_left (by assumption))))))⟩)
  have hn8 : cols.length ≤ 1000 := by have := (HB.out (by first | exact rfl | exact trivial)).2.2.2.1; omega
  have hnb : lb.length ≤ 1000 := by have := (HB.out (by first | exact rfl | exact trivial)).2.2.1; omega
  have hna : la.length ≤ 1000 := by have := (HA.out (by first | exact rfl | exact trivial)).2.2.1; omega
  have HE2 := Hid.mk' (show Ext w w2 by (repeat (with_reducible (first | exact Ext.refl _ | assumption | exact held_left (by assumption) | apply Ext.drewN | apply Ext.drew | apply Ext.alloc | (refine Ext.setCell ?_ (by first | (simp; done) | (simp; omega) | omega) _) | (refine Ext.trans ?_ (by assumption)) | (refine Ext.trans ?_ (held_left (by assumption)))))))
  have z0 : w.heap.size + 1 < w2.heap.size := by have := (hb1.trans hb2).size; simp at this; omega
  have HS : Hid (∀ w', Ext w2 w' → Ext w2 w' ∧ (∀ i, w'.cell? ⟨w.heap.size, i, none⟩ = (#[.int .u32 oid, .int .u32 ver, .string nm, .int .u8 id, .slice a2 cols.length cap2])[i]?) ∧ (∀ i, w'.cell? ⟨w.heap.size + 1, i, none⟩ = (#[.int .u8 kind, .int .u8 old, .slice ab lb.length cb, .slice aa la.length ca])[i]?) ∧ (∀ b o, b < w2.heap.size → w'.frozen? ⟨b, o, none⟩ = w2.frozen? ⟨b, o, none⟩)) := Hid.mk' (fun w' h => ⟨h, (((Blk.new w #[.int .u32 oid, .int .u32 ver, .string nm, .int .u8 id, .slice a2 cols.length cap2] 27).alloc (.cells #[.int .u8 kind, .int .u8 old, .slice ab lb.length cb, .slice aa la.length ca] 71)).ext ((hb1.trans hb2).trans h)).cell, ((Blk.new' (b := w.heap.size + 1) #[.int .u8 kind, .int .u8 old, .slice ab lb.length cb, .slice aa la.length ca] 71 (by simp)).ext ((hb1.trans hb2).trans h)).cell, h.cells.2⟩)
  clear HB HA HGb HGa g0 g1 g2 g3 hb1 hb2
  go_cut [5, 6, 7] (fun p q r wx => ∃ X a3 cap3 b bc a ac, p = .pointer (some ⟨X, 0, none⟩) ∧ q = .slice b lb.length bc ∧ r = .slice a la.length ac ∧ cols.length ≤ cap3 ∧ Hid (Blk wx X #[.int .u32 oid, .int .u32 ver, .string nm, .int .u8 id, .slice a3 cols.length cap3] 42) ∧ Hid (Sl wx (.slice a3 cols.length cap3) 3 (cols.map Col.cells)) ∧ Hid (Sl wx (.slice b lb.length bc) 5 (lb.map K.pc)) ∧ Hid (Sl wx (.slice a la.length ac) 5 (la.map K.pc)) ∧ Hid (Ext w2 wx))
  case first =>
    as_aux_lemma =>
      go_region_held3 (fun w' => Ext w2 w' ∧ (∀ i, w'.cell? ⟨w.heap.size, i, none⟩ = (#[.int .u32 oid, .int .u32 ver, .string nm, .int .u8 id, .slice a2 cols.length cap2])[i]?) ∧ (∀ i, w'.cell? ⟨w.heap.size + 1, i, none⟩ = (#[.int .u8 kind, .int .u8 old, .slice ab lb.length cb, .slice aa la.length ca])[i]?) ∧ (∀ b o, b < w2.heap.size → w'.frozen? ⟨b, o, none⟩ = w2.frozen? ⟨b, o, none⟩)) (exact HS.out _ (by (repeat (with_reducible (first | exact Ext.refl _ | assumption | exact held_left (by assumption) | apply Ext.drewN | apply Ext.drew | apply Ext.alloc | (refine Ext.setCell ?_ (by first | (simp; done) | (simp; omega) | omega) _) | (refine Ext.trans ?_ (by assumption)) | (refine Ext.trans ?_ (held_left (by assumption))))))))
        (first
          | (go_at_call 17; refine (HO8.out _ (HE2.out.trans (by (repeat (with_reducible (first | exact Ext.refl _ | assumption | exact held_left (by assumption) | apply Ext.drewN | apply Ext.drew | apply Ext.alloc | (refine Ext.setCell ?_ (by first | (simp; done) | (simp; omega) | omega) _) | (refine Ext.trans ?_ (by assumption)) | (refine Ext.trans ?_ (held_left (by assumption)))))))) hn8).mono ?_; rintro e w3 ⟨a3, cap3, rfl, h3, hs3, hb3⟩; have H3 := Hid.mk' hs3; clear hs3; obtain ⟨hc3, hf3⟩ := hb3.cells; have hz3 := hb3.size; (try simp at hz3); (try have q3 : w2.heap.size < w3.heap.size := (by omega)))
          | (go_at_call_of 15 (Value.slice ab lb.length cb); refine (HOb.out _ (HE2.out.trans (by (repeat (with_reducible (first | exact Ext.refl _ | assumption | exact held_left (by assumption) | apply Ext.drewN | apply Ext.drew | apply Ext.alloc | (refine Ext.setCell ?_ (by first | (simp; done) | (simp; omega) | omega) _) | (refine Ext.trans ?_ (by assumption)) | (refine Ext.trans ?_ (held_left (by assumption)))))))) hnb).mono ?_; rintro e w4 ⟨b, bc, rfl, h4, hs4, hb4⟩; have H4 := Hid.mk' hs4; clear hs4; obtain ⟨hc4, hf4⟩ := hb4.cells; have hz4 := hb4.size; (try simp at hz4); (try have q4 : w2.heap.size < w4.heap.size := (by omega)); (try have q43 : w3.heap.size < w4.heap.size := (by omega)))
          | (go_at_call_of 15 (Value.slice aa la.length ca); refine (HOa.out _ (HE2.out.trans (by (repeat (with_reducible (first | exact Ext.refl _ | assumption | exact held_left (by assumption) | apply Ext.drewN | apply Ext.drew | apply Ext.alloc | (refine Ext.setCell ?_ (by first | (simp; done) | (simp; omega) | omega) _) | (refine Ext.trans ?_ (by assumption)) | (refine Ext.trans ?_ (held_left (by assumption)))))))) hna).mono ?_; rintro e w5 ⟨a, ac, rfl, h5, hs5, hb5⟩; have H5 := Hid.mk' hs5; clear hs5; obtain ⟨hc5, hf5⟩ := hb5.cells; have hz5 := hb5.size; (try simp at hz5); (try have q5 : w2.heap.size < w5.heap.size := (by omega)); (try have q53 : w3.heap.size < w5.heap.size := (by omega)); (try have q54 : w4.heap.size < w5.heap.size := (by omega))))
      all_goals
        go_wp2
        go_meet
        case rel =>
          refine ⟨_, a3, cap3, b, bc, a, ac, rfl, rfl, rfl, h3, Hid.mk' ?_, Hid.mk' ?_, Hid.mk' ?_, Hid.mk' ?_, Hid.mk' ?_⟩
          · repeat (with_reducible (first | exact Blk.new _ _ _ | (refine Blk.new' _ _ ?_; (simp; done)) | apply Blk.five | refine Blk.alloc ?_ _ | refine Blk.drew ?_ | refine Blk.ext ?_ hb5 | refine Blk.ext ?_ hb4 | refine Blk.ext ?_ hb3))
          · first | ((with_reducible refine Fr.sl (Fr.five (Fr.ext H3.out ?_) ?_)); (· (repeat (with_reducible (first | exact Ext.refl _ | assumption | exact held_left (by assumption) | apply Ext.drewN | apply Ext.drew | apply Ext.alloc | (refine Ext.setCell ?_ (by first | (simp; done) | (simp; omega) | omega) _) | (refine Ext.trans ?_ (by assumption)) | (refine Ext.trans ?_ (held_left (by assumption))))))); (· first | (simp; done) | (simp; omega) | omega | (left; simp; done) | (left; simp; omega) | (right; simp; done) | (right; simp; omega))) | ((with_reducible refine Fr.sl (Fr.ext H3.out ?_)); · (repeat (with_reducible (first | exact Ext.refl _ | assumption | exact held_left (by assumption) | apply Ext.drewN | apply Ext.drew | apply Ext.alloc | (refine Ext.setCell ?_ (by first | (simp; done) | (simp; omega) | omega) _) | (refine Ext.trans ?_ (by assumption)) | (refine Ext.trans ?_ (held_left (by assumption)))))))
          · first | ((with_reducible refine Fr.sl (Fr.five (Fr.ext H4.out ?_) ?_)); (· (repeat (with_reducible (first | exact Ext.refl _ | assumption | exact held_left (by assumption) | apply Ext.drewN | apply Ext.drew | apply Ext.alloc | (refine Ext.setCell ?_ (by first | (simp; done) | (simp; omega) | omega) _) | (refine Ext.trans ?_ (by assumption)) | (refine Ext.trans ?_ (held_left (by assumption))))))); (· first | (simp; done) | (simp; omega) | omega | (left; simp; done) | (left; simp; omega) | (right; simp; done) | (right; simp; omega))) | ((with_reducible refine Fr.sl (Fr.ext H4.out ?_)); · (repeat (with_reducible (first | exact Ext.refl _ | assumption | exact held_left (by assumption) | apply Ext.drewN | apply Ext.drew | apply Ext.alloc | (refine Ext.setCell ?_ (by first | (simp; done) | (simp; omega) | omega) _) | (refine Ext.trans ?_ (by assumption)) | (refine Ext.trans ?_ (held_left (by assumption)))))))
          · first | ((with_reducible refine Fr.sl (Fr.five (Fr.ext H5.out ?_) ?_)); (· (repeat (with_reducible (first | exact Ext.refl _ | assumption | exact held_left (by assumption) | apply Ext.drewN | apply Ext.drew | apply Ext.alloc | (refine Ext.setCell ?_ (by first | (simp; done) | (simp; omega) | omega) _) | (refine Ext.trans ?_ (by assumption)) | (refine Ext.trans ?_ (held_left (by assumption))))))); (· first | (simp; done) | (simp; omega) | omega | (left; simp; done) | (left; simp; omega) | (right; simp; done) | (right; simp; omega))) | ((with_reducible refine Fr.sl (Fr.ext H5.out ?_)); · (repeat (with_reducible (first | exact Ext.refl _ | assumption | exact held_left (by assumption) | apply Ext.drewN | apply Ext.drew | apply Ext.alloc | (refine Ext.setCell ?_ (by first | (simp; done) | (simp; omega) | omega) _) | (refine Ext.trans ?_ (by assumption)) | (refine Ext.trans ?_ (held_left (by assumption)))))))
          · (repeat (with_reducible (first | exact Ext.refl _ | assumption | exact held_left (by assumption) | apply Ext.drewN | apply Ext.drew | apply Ext.alloc | (refine Ext.setCell ?_ (by first | (simp; done) | (simp; omega) | omega) _) | (refine Ext.trans ?_ (by assumption)) | (refine Ext.trans ?_ (held_left (by assumption))))))
  case rest =>
    as_aux_lemma =>
      obtain ⟨X, a3, cap3, b, bc, a, ac, rfl, rfl, rfl, h3, HX, H3, H4, H5, HEc⟩ := hcut
      have HIM := Hid.mk' (fun (kk oo : Int) (ho : 0 ≤ oo) W' (h : Ext wc W') => image_any kk oo lb la b a bc ac oid ver nm id cols a3 cap3 W' (H3.out.ext h) h3 hn8 (H4.out.ext h) (H5.out.ext h) hnb hna HSS.out.1 HSS.out.2.1 HSS.out.2.2.1 HSS.out.2.2.2 hid ho)
      have HF := Hid.mk' (fun W' (h : Ext wc W') => isFull_any' oid ver nm id cols a3 cap3 la a ac W' (H3.out.ext h) h3 hn8 (H5.out.ext h) hna HSS.out.2.1 HSS.out.2.2.1 HSS.out.2.2.2)
      have HM := Hid.mk' (many_one (r := (⟨oid, ver, nm, id, cols⟩ : Rl)) (kind := kind) (b := lb) (a := la))
      have HI := Hid.mk' (fun h => insert_one (r := (⟨oid, ver, nm, id, cols⟩ : Rl)) (old := old) (b := lb) (a := la) h)
      generalize imgE (⟨oid, ver, nm, id, cols⟩ : Rl) = IM at HIM HM HI
      generalize isFullE la (⟨oid, ver, nm, id, cols⟩ : Rl) = EF at HF HI
      have HV := Hid.mk' (fun W' (h : Ext wc W') => (HS.out _ (HEc.out.trans h)).2.2.1)
      have HEw := Hid.mk' (HE2.out.trans HEc.out)
      clear HSS HO8 HOb HOa HS H3 H4 H5 hn8 hnb hna HE2 HEc
      go_wp2
      go_loopw [8, 9] (fun m i wr => ∃ k : Nat, k ≤ 4 ∧ i = .int .u8 k ∧ m = .int .i64 (manyE (fun o => IM kind o lb la) k) ∧ Hid (Ext wc wr)) (fun _ i _ => 4 - (intOf i).toNat)
      case atStart => exact ⟨0, by omega, rfl, rfl, Hid.mk' (Ext.refl _)⟩
      case round =>
        obtain ⟨k, hk, rfl, rfl, hE⟩ := hrel
        have x0 := (HX.out.ext hE.out).cell
        have v0 := HV.out _ hE.out
        by_cases hlt : k < 4
        · have hlt' : ((k : Nat) : Int) < 4 := by omega
          have hmb := many_bd (fun o => IM kind o lb la) k
          have HS1 := Hid.mk' (show manyE (fun o => IM kind o lb la) (k + 1) = manyE (fun o => IM kind o lb la) k + if IM kind k lb la = 0 then 1 else 0 from rfl)
          generalize manyE (fun o => IM kind o lb la) k = M at HS1 hmb ⊢
          obtain ⟨E, hEE⟩ : ∃ E, E = IM kind (k : Nat) lb la := ⟨_, rfl⟩
          have HIK := Hid.mk' (HIM.out kind (k : Nat) (by omega) wr hE.out)
          rw [← hEE] at HIK HS1
          clear HIM hEE
          by_cases h0 : E = 0
          · have HS2 := Hid.mk' (HS1.out.trans (by rw [if_pos h0]))
            clear HS1
            subst h0
            go_wp2_with (go_at_call 33; refine HIK.out.mono ?_; rintro e w6 ⟨rfl, hb6⟩)
            go_roundw
            case rel => exact ⟨k + 1, by omega, by go_num, congrArg (Value.int .i64) HS2.out.symm, Hid.mk' (hE.out.trans hb6)⟩
            case measure => simp [intOf]; omega
          · have HS2 := Hid.mk' (HS1.out.trans (show _ = M from by rw [if_neg h0, Int.add_zero]))
            have h0' : (E == 0) = false := by simpa using h0
            clear HS1 h0
            go_wp2_with (go_at_call 33; refine HIK.out.mono ?_; rintro e w6 ⟨rfl, hb6⟩)
            go_roundw
            case rel => exact ⟨k + 1, by omega, by go_num, congrArg (Value.int .i64) HS2.out.symm, Hid.mk' (hE.out.trans hb6)⟩
            case measure => simp [intOf]; omega
        · obtain rfl : k = 4 := by omega
          have hM := HM.out
          generalize manyE (fun o => IM kind o lb la) 4 = M at hM ⊢
          clear HM
          have HR4 := Hid.mk' (fun W' (h : Ext wc W') => HIM.out 4 0 (by decide) W' h)
          have HR6 := Hid.mk' (fun W' (h : Ext wc W') => HIM.out 6 old hold W' h)
          clear HIM
          by_cases h4 : IM 4 0 lb la = 0
          · obtain ⟨i1, i2, i3⟩ := HI.out h4
            have hlb0 : ¬ ((0 : Nat) < lb.length) := by omega
            rw [h4] at HR4
            rw [i2] at HF
            generalize IM 6 old lb la = E6 at HR6 i3
            have i3' : (E6 == 0) = false := by simpa using i3
            clear i1 i2 i3 h4 HI
            go_wp2_with (first
              | (go_at_call_of 33 (Value.int .u8 4); refine (HR4.out _ (by have := hE.out; (repeat (with_reducible (first | exact Ext.refl _ | assumption | exact held_left (by assumption) | apply Ext.drewN | apply Ext.drew | apply Ext.alloc | (refine Ext.setCell ?_ (by first | (simp; done) | (simp; omega) | omega) _) | (refine Ext.trans ?_ (by assumption)) | (refine Ext.trans ?_ (held_left (by assumption)))))))).mono ?_; rintro e w7 ⟨rfl, hb7⟩; have hE7 := hE.out.trans hb7; have x7 := (HX.out.ext hE7).cell; have v7 := HV.out _ hE7)
              | (go_at_call 29; refine (HF.out _ hE7).mono ?_; rintro e w8 ⟨rfl, hb8⟩; have hE8 := hE7.trans hb8; have x8 := (HX.out.ext hE8).cell; have v8 := HV.out _ hE8)
              | (go_at_call_of 33 (Value.int .u8 6); refine (HR6.out _ hE8).mono ?_; rintro e w9 ⟨rfl, hb9⟩)
              | (go_at_call 31; refine (awake12_any _).mono ?_; rintro e w10 ⟨rfl, hb10⟩))
            go_ret
            exact ⟨rfl, HEw.out.trans (hE8.trans (hb9.trans hb10))⟩
          · generalize IM 4 0 lb la = E4 at HR4 h4
            have h4' : (E4 == 0) = false := by simpa using h4
            clear h4 HI
            go_wp2_with (first
              | (go_at_call_of 33 (Value.int .u8 4); refine (HR4.out _ (by have := hE.out; (repeat (with_reducible (first | exact Ext.refl _ | assumption | exact held_left (by assumption) | apply Ext.drewN | apply Ext.drew | apply Ext.alloc | (refine Ext.setCell ?_ (by first | (simp; done) | (simp; omega) | omega) _) | (refine Ext.trans ?_ (by assumption)) | (refine Ext.trans ?_ (held_left (by assumption)))))))).mono ?_; rintro e w7 ⟨rfl, hb7⟩; have hE7 := hE.out.trans hb7; have x7 := (HX.out.ext hE7).cell; have v7 := HV.out _ hE7)
              | (go_at_call 31; refine (awake12_any _).mono ?_; rintro e w10 ⟨rfl, hb10⟩))
            go_ret
            exact ⟨rfl, HEw.out.trans (hE7.trans hb10)⟩

end Go.Proofs.Ytdbepkfblfhlhaa
