/-
The next row of a relation: the program's Take.
-/
import Derived.Deep.CutBlock
import Derived.IntWalk
import Derived.Test.YtdbepkfblfhlhaaP10
namespace Go.Proofs.Ytdbepkfblfhlhaa
open Go.RowKit

theorem right_cols16 {r : Rl} (h : r.right = 0) : r.cols.length ≤ 16 ∧ ∀ i (hi : i < r.cols.length), 1 ≤ r.cols[i].ty ∧ r.cols[i].ty ≤ 6 := by
  unfold Rl.right at h
  by_cases h1 : r.oid = 0 ∨ r.ver = 0
  · rw [if_pos h1] at h; cases h
  rw [if_neg h1] at h
  by_cases h2 : namedB r.nm = false
  · rw [if_pos h2] at h; cases h
  rw [if_neg h2] at h
  by_cases h3 : 2 < r.id
  · rw [if_pos h3] at h; cases h
  rw [if_neg h3] at h
  by_cases h4 : r.cols.length < 1 ∨ 16 < r.cols.length
  · rw [if_pos h4] at h; cases h
  rw [if_neg h4] at h
  by_cases h5 : firstE (colAt r.cols) r.cols.length ≠ 0
  · rw [if_pos h5] at h; exact absurd h h5
  refine ⟨by omega, fun i hi => ?_⟩
  have h6 := firstE_all (by simpa using h5) i hi
  rw [colAt_lt hi] at h6
  unfold colE at h6
  by_cases q1 : namedB r.cols[i].nm = false
  · rw [if_pos q1] at h6; cases h6
  rw [if_neg q1] at h6
  by_cases q2 : (r.cols.take i).any (fun o => decide (o.nm = r.cols[i].nm)) = true
  · rw [if_pos q2] at h6; cases h6
  rw [if_neg q2] at h6
  by_cases q3 : r.cols[i].ty < 1 ∨ 6 < r.cols[i].ty
  · rw [if_pos q3] at h6; cases h6
  · omega
theorem fail_zero {st : RS} {x : Int} (h : (failS st x).e = 0) : x = 0 ∧ st.e = 0 ∧ failS st x = st := by
  unfold failS at h ⊢
  by_cases hx : x = 0
  · subst hx; rw [if_neg (by decide)] at h ⊢; exact ⟨rfl, h, rfl⟩
  · rw [if_pos hx] at h
    unfold giveS at h
    by_cases he : st.e = 0
    · rw [if_pos he] at h; exact absurd h hx
    · rw [if_neg he] at h; exact absurd h he
theorem give_bad (st : RS) {x : Int} (hx : x ≠ 0) : (giveS st x).e ≠ 0 := by
  unfold giveS; split
  · exact hx
  · assumption
theorem owns_far {W : World} {base X : Nat} {e : TypeId} {size n : Nat} {v : Value} {xs : List Value} (h : W.ownsRow base e size v n xs) (hX : ∀ k, v.ownBlock = some k → k ≠ X) (i : Nat) (u : Value) : (W.setCell ⟨X, i, none⟩ u).ownsRow base e size v n xs := by
  obtain ⟨h1, h2⟩ := h
  refine ⟨h1, ?_⟩
  rcases h2 with h2 | ⟨k, cap, cur, hv, hb, hh, hr⟩
  · exact .inl h2
  · exact .inr ⟨k, cap, cur, hv, hb, Blk.other (b := k) hh _ _ (hX k (by rw [hv]; rfl)), hr⟩
theorem owns_five {W : World} {base X : Nat} {e : TypeId} {size n : Nat} {v : Value} {xs : List Value} {v0 v1 v2 v3 v4 : Value} (h : W.ownsRow base e size v n xs) (hX : ∀ k, v.ownBlock = some k → k ≠ X) :
    (((((W.setCell ⟨X, 0, none⟩ v0).setCell ⟨X, 1, none⟩ v1).setCell ⟨X, 2, none⟩ v2).setCell ⟨X, 3, none⟩ v3).setCell ⟨X, 4, none⟩ v4).ownsRow base e size v n xs :=
  owns_far (owns_far (owns_far (owns_far (owns_far h hX _ _) hX _ _) hX _ _) hX _ _) hX _ _
theorem owns_lt2 {w : World} {base : Nat} {e : TypeId} {size n : Nat} {v : Value} {xs : List Value} (h : w.ownsRow base e size v n xs) : ∀ k, v.ownBlock = some k → base ≤ k ∧ k < w.heap.size := by
  intro k hk
  rcases h.2 with ⟨rfl, _⟩ | ⟨g', cap, cur, rfl, hb, hh, hr⟩
  · simp [Value.ownBlock] at hk
  · simp [Value.ownBlock] at hk; subst hk; exact ⟨hb, Blk.lt (b := g') hh⟩

/-- The program's take. -/
def takeP (r : Rl) (ver : Int) (st : RS) : (List K × List Ho) × RS :=
  if (begR r ver st).e ≠ 0 then (([], []), begR r ver st)
  else finT (tkUp (mapR r.cols.length (begR r ver st)).1 r.cols ver (mapR r.cols.length (begR r ver st)).2 (mapR r.cols.length (begR r ver st)).1.length)
theorem mapR_len {n : Nat} {st : RS} : (mapR n st).1.length ≤ n := by
  unfold mapR unmapL
  simp only
  split
  · exact Nat.zero_le _
  · simp [unbits_len]
def TkPost (R : (List K × List Ho) × RS) (g d : Nat) (w : World) (e : Ending) (w' : World) : Prop :=
  ∃ a1 c1 a2 c2, e = .returned (.tuple #[.slice a1 R.1.1.length c1, .slice a2 R.1.2.length c2]) ∧ Sl w' (.slice a1 R.1.1.length c1) 5 (R.1.1.map K.pc) ∧ Sl w' (.slice a2 R.1.2.length c2) 2 (R.1.2.map Ho.cells) ∧
    (∀ k o, a1 = some ⟨k, o, none⟩ → w.heap.size ≤ k) ∧ (∀ k o, a2 = some ⟨k, o, none⟩ → w.heap.size ≤ k) ∧ RD w' g d R.2 ∧ Tch g w w'
theorem TkPost.bad {R : (List K × List Ho) × RS} {S : RS} {g d : Nat} {w w' : World} (h : R = (([], []), S)) (hr : RD w' g d S) (ht : Tch g w w') : TkPost R g d w (.returned (.tuple #[.slice none 0 0, .slice none 0 0])) w' := by
  subst h
  exact ⟨none, 0, none, 0, rfl, ⟨none, 0, rfl, .inl rfl⟩, ⟨none, 0, rfl, .inl rfl⟩, (fun _ _ e => by cases e), (fun _ _ e => by cases e), hr, ht⟩
theorem pc_len {l : List K} : ∀ xs ∈ l.map K.pc, xs.length = 5 := by intro xs hxs; simp at hxs; obtain ⟨a, _, rfl⟩ := hxs; rfl
theorem ho_len {l : List Ho} : ∀ xs ∈ l.map Ho.cells, xs.length = 2 := by intro xs hxs; simp at hxs; obtain ⟨a, _, rfl⟩ := hxs; rfl

set_option maxRecDepth 100000 in set_option maxHeartbeats 8000000 in
theorem take_any (g d : Nat) (st : RS) (oid ver : Int) (nm : ByteArray) (id : Int) (cols : List Col) (a2 : Option Addr) (cap2 : Nat) (version : Int) (w : World) (h : RD w g d st) (hl2 : Sl w (.slice a2 cols.length cap2) 3 (cols.map Col.cells)) (ha2 : ∀ b o, a2 = some ⟨b, o, none⟩ → cols ≠ [] → b ≠ g)
    (hcap2 : cols.length ≤ cap2) (hlen2 : cols.length ≤ 1000) (hs2 : ∀ c ∈ cols, c.nm.size ≤ 9223372036854775807) (hnm : nm.size ≤ 9223372036854775807) :
    Calls Try.prog 50 #[.pointer (some ⟨g, 0, none⟩), .agg #[.int .u32 oid, .int .u32 ver, .string nm, .int .u8 id, .slice a2 cols.length cap2], .int .u8 version] w (TkPost (takeP (⟨oid, ver, nm, id, cols⟩ : Rl) version st) g d w) := by
  have hg := h.lt
  have H := Hid.mk' h
  have HR8 := Hid.mk' (fun W (h : Ext w W) => right8_any oid ver nm id cols a2 cap2 W (hl2.ext h) hcap2 hlen2 hnm hs2)
  have HFA := Hid.mk' (fun S x w h => fail_any g d S x w h)
  have HER := Hid.mk' (fun S w h => rerr_any g d S w h)
  have HTP : Hid (takeP (⟨oid, ver, nm, id, cols⟩ : Rl) version st = if (begR (⟨oid, ver, nm, id, cols⟩ : Rl) version st).e ≠ 0 then (([], []), begR (⟨oid, ver, nm, id, cols⟩ : Rl) version st) else finT (tkUp (mapR cols.length (begR (⟨oid, ver, nm, id, cols⟩ : Rl) version st)).1 cols version (mapR cols.length (begR (⟨oid, ver, nm, id, cols⟩ : Rl) version st)).2 (mapR cols.length (begR (⟨oid, ver, nm, id, cols⟩ : Rl) version st)).1.length)) := Hid.mk' rfl
  have HBR : Hid (begR (⟨oid, ver, nm, id, cols⟩ : Rl) version st = if version = 1 ∨ version = 2 then failS st (Rl.right (⟨oid, ver, nm, id, cols⟩ : Rl)) else giveS (failS st (Rl.right (⟨oid, ver, nm, id, cols⟩ : Rl))) 18) := Hid.mk' rfl
  have HC16 := Hid.mk' (right_cols16 (r := (⟨oid, ver, nm, id, cols⟩ : Rl)))
  have HL2 := Hid.mk' hl2
  clear h hl2 hs2 hnm
  obtain ⟨E, hE⟩ : ∃ E, E = Rl.right (⟨oid, ver, nm, id, cols⟩ : Rl) := ⟨_, rfl⟩
  rw [← hE] at HR8 HBR HC16
  clear hE
  by_cases hv : version = 1 ∨ version = 2
  case neg =>
    have HB2 := Hid.mk' (HBR.out.trans (if_neg hv))
    have hne : (begR (⟨oid, ver, nm, id, cols⟩ : Rl) version st).e ≠ 0 := by rw [HB2.out]; exact give_bad _ (by decide)
    have HT2 := Hid.mk' (HTP.out.trans (if_pos hne))
    rw [HB2.out] at HT2 hne
    have hf18 : failS (failS st E) 18 = giveS (failS st E) 18 := by unfold failS; rw [if_pos (show (18 : Int) ≠ 0 by decide)]
    have HF18 := Hid.mk' (HFA.out (failS st E) 18)
    rw [hf18] at HF18
    obtain ⟨S, hS⟩ : ∃ S, S = giveS (failS st E) 18 := ⟨_, rfl⟩
    rw [← hS] at HT2 hne HF18
    have hne2 : (S.e == 0) = false := by simpa using hne
    have hne3 : (S.e != 0) = true := by simpa using hne
    have hv2 : version < 1 ∨ 2 < version := by omega
    clear hv HBR HB2 hf18 hne hS HTP
    rcases hv2 with hv2 | hv2
    all_goals
      go_enter Try.func50, Try.ntmps50
      go_upto_region 2 with (first
        | (go_at_call 57; refine (HR8.out _ (by (repeat (with_reducible (first | exact Ext.refl _ | assumption | exact held_left (by assumption) | apply Ext.drewN | apply Ext.drew | apply Ext.alloc | (refine Ext.setCell ?_ (by first | (simp; done) | (simp; omega) | omega) _) | (refine Ext.trans ?_ (by assumption)) | (refine Ext.trans ?_ (held_left (by assumption)))))))).mono ?_; rintro e w1 ⟨rfl, hb1⟩)
        | (go_at_call 86; refine (HFA.out st E _ (H.out.ext (by (repeat (with_reducible (first | exact Ext.refl _ | assumption | exact held_left (by assumption) | apply Ext.drewN | apply Ext.drew | apply Ext.alloc | (refine Ext.setCell ?_ (by first | (simp; done) | (simp; omega) | omega) _) | (refine Ext.trans ?_ (by assumption)) | (refine Ext.trans ?_ (held_left (by assumption))))))))).mono ?_; rintro e w2 ⟨rfl, hr2, ht2⟩; have HR2 := Hid.mk' hr2; have HT3 := Hid.mk' ((Tch.of_ext (show Ext w w1 by (repeat (with_reducible (first | exact Ext.refl _ | assumption | exact held_left (by assumption) | apply Ext.drewN | apply Ext.drew | apply Ext.alloc | (refine Ext.setCell ?_ (by first | (simp; done) | (simp; omega) | omega) _) | (refine Ext.trans ?_ (by assumption)) | (refine Ext.trans ?_ (held_left (by assumption)))))))).trans ht2); clear hr2 ht2))
      go_wp2_with (first
        | (go_at_call 86; refine (HF18.out _ HR2.out).mono ?_; rintro e w3 ⟨rfl, hr3, ht3⟩; have HR3 := Hid.mk' hr3; have HT4 := Hid.mk' (HT3.out.trans ht3); clear hr3 ht3)
        | (go_at_call 52; refine (HER.out S _ HR3.out).mono ?_; rintro e w4 ⟨rfl, rfl⟩))
      go_ret2
      exact TkPost.bad HT2.out HR3.out HT4.out
  have HB2 := Hid.mk' (HBR.out.trans (if_pos hv))
  have hv1 : 1 ≤ version := by omega
  have hv2 : version ≤ 2 := by omega
  clear hv HBR
  rw [HB2.out] at HTP
  by_cases he : (failS st E).e = 0
  case neg =>
    have HT2 := Hid.mk' (HTP.out.trans (if_pos he))
    obtain ⟨S, hS⟩ : ∃ S, S = failS st E := ⟨_, rfl⟩
    have HFE := Hid.mk' (HFA.out st E)
    rw [← hS] at HT2 he HFE
    have hne2 : (S.e == 0) = false := by simpa using he
    have hne3 : (S.e != 0) = true := by simpa using he
    clear he hS HTP HB2 HFA
    go_enter Try.func50, Try.ntmps50
    go_wp2_with (first
      | (go_at_call 57; refine (HR8.out _ (by (repeat (with_reducible (first | exact Ext.refl _ | assumption | exact held_left (by assumption) | apply Ext.drewN | apply Ext.drew | apply Ext.alloc | (refine Ext.setCell ?_ (by first | (simp; done) | (simp; omega) | omega) _) | (refine Ext.trans ?_ (by assumption)) | (refine Ext.trans ?_ (held_left (by assumption)))))))).mono ?_; rintro e w1 ⟨rfl, hb1⟩)
      | (go_at_call 86; refine (HFE.out _ (H.out.ext (by (repeat (with_reducible (first | exact Ext.refl _ | assumption | exact held_left (by assumption) | apply Ext.drewN | apply Ext.drew | apply Ext.alloc | (refine Ext.setCell ?_ (by first | (simp; done) | (simp; omega) | omega) _) | (refine Ext.trans ?_ (by assumption)) | (refine Ext.trans ?_ (held_left (by assumption))))))))).mono ?_; rintro e w2 ⟨rfl, hr2, ht2⟩; have HR2 := Hid.mk' hr2; have HT3 := Hid.mk' ((Tch.of_ext (show Ext w w1 by (repeat (with_reducible (first | exact Ext.refl _ | assumption | exact held_left (by assumption) | apply Ext.drewN | apply Ext.drew | apply Ext.alloc | (refine Ext.setCell ?_ (by first | (simp; done) | (simp; omega) | omega) _) | (refine Ext.trans ?_ (by assumption)) | (refine Ext.trans ?_ (held_left (by assumption)))))))).trans ht2); clear hr2 ht2)
      | (go_at_call 52; refine (HER.out S _ HR2.out).mono ?_; rintro e w4 ⟨rfl, rfl⟩))
    go_ret2
    exact TkPost.bad HT2.out HR2.out HT3.out
  obtain ⟨hE0, hst, hfs⟩ := fail_zero he
  subst hE0
  rw [hfs] at HTP
  have HT2 := Hid.mk' (HTP.out.trans (if_neg (by simpa using hst)))
  obtain ⟨hc16, hty⟩ := HC16.out rfl
  have HTY := Hid.mk' hty
  have hc16 : cols.length ≤ 16 := hc16
  have HFE := Hid.mk' (HFA.out st 0)
  rw [hfs] at HFE
  have HM := Hid.mk' (fun W h => mapped_any g d cols.length st W h hc16)
  unfold MapPost at HM
  have hml := mapR_len (n := cols.length) (st := st)
  obtain ⟨L, hL⟩ : ∃ L, L = (mapR cols.length st).1 := ⟨_, rfl⟩
  obtain ⟨S, hS⟩ : ∃ S, S = (mapR cols.length st).2 := ⟨_, rfl⟩
  rw [← hL, ← hS] at HT2 HM
  rw [← hL] at hml
  have hst2 : (st.e == 0) = true := by simpa using hst
  clear he hfs hty HTP HB2 HC16 hL hS hst
  go_enter Try.func50, Try.ntmps50
  go_wp2_with (first
    | (go_at_call 57; refine (HR8.out _ (by (repeat (with_reducible (first | exact Ext.refl _ | assumption | exact held_left (by assumption) | apply Ext.drewN | apply Ext.drew | apply Ext.alloc | (refine Ext.setCell ?_ (by first | (simp; done) | (simp; omega) | omega) _) | (refine Ext.trans ?_ (by assumption)) | (refine Ext.trans ?_ (held_left (by assumption)))))))).mono ?_; rintro e w1 ⟨rfl, hb1⟩; have HE1 := Hid.mk' hb1; clear hb1)
    | (go_at_call 86; refine (HFE.out _ (H.out.ext (((Ext.refl w).alloc _).trans HE1.out))).mono ?_; rintro e w2 ⟨rfl, hr2, ht2⟩; have HR2 := Hid.mk' hr2; have HT3 := Hid.mk' ((Tch.of_ext HE1.out).trans ht2); have g0 := ((Blk.new w #[.int .u32 oid, .int .u32 ver, .string nm, .int .u8 id, .slice a2 cols.length cap2] 42).tch HT3.out (by omega)).cell; have z0 := ((Blk.new w #[.int .u32 oid, .int .u32 ver, .string nm, .int .u8 id, .slice a2 cols.length cap2] 42).tch HT3.out (by omega)).lt; clear hr2 ht2)
    | (go_at_call 52; refine (HER.out st _ HR2.out).mono ?_; rintro e w4 ⟨rfl, rfl⟩)
    | (go_at_call 87; refine (HM.out _ HR2.out).mono ?_; rintro e w5 ⟨a5, c5, rfl, hs5, ha5, hr5, ht5⟩; have H5 := Hid.mk' hs5; have HA5 := Hid.mk' (fun k o e => Nat.lt_of_lt_of_le z0 (ha5 k o e)); have HR5 := Hid.mk' hr5; have HT5 := Hid.mk' (HT3.out.trans ht5); clear hs5 ha5 hr5 ht5 g0))
  obtain ⟨i0, hi, hz0, hz1, hz2⟩ := info_parts Try.infoCellP
  obtain ⟨j0, hj, hy0, hy1, hy2⟩ := info_parts Try.infoHole
  have hTL : Hid (Tch g (w.alloc (.cells #[.int .u32 oid, .int .u32 ver, .string nm, .int .u8 id, .slice a2 cols.length cap2] 42)) w5) := HT5
  obtain ⟨T, hT⟩ : ∃ T : Nat → (List K × List Ho) × RS, T = tkUp L cols version S := ⟨_, rfl⟩
  have HTD := Hid.mk' hT
  have hT0 : T 0 = (([], []), S) := by rw [hT]; rfl
  have HTlen : Hid (∀ k, k ≤ L.length → (T k).1.1.length = k) := Hid.mk' (fun k hk => by rw [hT]; exact tkUp_len k hk (by omega))
  have HThol : Hid (∀ k, (T k).1.2.length ≤ k) := Hid.mk' (fun k => by rw [hT]; exact tkUp_holes k)
  have HTnull : Hid (∀ k (h1 : k < L.length), L[k] = true → T (k + 1) = (((T k).1.1 ++ [K.zero], (T k).1.2), (T k).2)) := Hid.mk' (fun k h1 h => by rw [hT]; exact tkUp_null h1 (by omega) h)
  have HTcell : Hid (∀ k (h1 : k < L.length) (h2 : k < cols.length), L[k] = false → ∀ c m U, takeC cols[k].ty version (T k).2 = ((c, m), U) → T (k + 1) = (((T k).1.1 ++ [c], if 0 < m then (T k).1.2 ++ [⟨k, (m : Nat)⟩] else (T k).1.2), U)) := Hid.mk' (fun k h1 h2 h c m U he => by rw [hT] at he ⊢; exact tkUp_cell h1 h2 h he)
  have HTfin := Hid.mk' (HT2.out.trans (show _ = finT (T L.length) by rw [hT]))
  have HT0 := Hid.mk' hT0
  clear hT hT0 HT2 HTD
  have hz5 := HT5.out.size
  simp at hz5
  go_loopw [8, 9, 35] (fun v u i wr => ∃ k : Nat, k ≤ L.length ∧ i = .int .i64 k ∧ Hid (wr.ownsRow w5.heap.size 78 5 v k (((T k).1.1.map K.pc).flatten)) ∧ Hid (wr.ownsRow w5.heap.size 98 2 u (T k).1.2.length (((T k).1.2.map Ho.cells).flatten)) ∧ Hid (RD wr g d (T k).2) ∧ Hid (Tch g w5 wr) ∧ Hid (Tch g (w.alloc (.cells #[.int .u32 oid, .int .u32 ver, .string nm, .int .u8 id, .slice a2 cols.length cap2] 42)) wr)) (fun _ _ i _ => L.length - (intOf i).toNat)
  case atStart => exact ⟨0, Nat.zero_le _, rfl, Hid.mk' (by rw [HT0.out]; exact World.ownsRow_nil _ _ _ _), Hid.mk' (by rw [HT0.out]; exact World.ownsRow_nil _ _ _ _), Hid.mk' (by rw [HT0.out]; exact HR5.out), Hid.mk' (Tch.refl g _), HT5⟩
  case round =>
    obtain ⟨k, hk, rfl, hown, hown2, hr, hT5, hTW⟩ := hrel
    have hB0 := (Blk.new w #[.int .u32 oid, .int .u32 ver, .string nm, .int .u8 id, .slice a2 cols.length cap2] 42).tch hTW.out (by omega)
    have g0 := hB0.cell
    have z1 := hB0.lt
    have HB0 := Hid.mk' hB0
    clear hB0
    by_cases hlt : k < L.length
    · have hlt2 : k < cols.length := by omega
      obtain ⟨bL, oL, rfl, hbL, hxL⟩ := H5.out.at_ (i := k) (by simpa using hlt)
      have fL : wr.cell? ⟨bL, oL + k, none⟩ = some (.bool L[k]) := by
        rw [hT5.out.cell hbL (by have := HA5.out bL oL rfl; omega)]
        exact boolC_at hlt hxL hbL (Ext.refl _)
      have hbLw : bL < wr.heap.size := Nat.lt_of_lt_of_le hbL hT5.out.size
      have hkl := HTlen.out k (by omega)
      have hhl := HThol.out k
      clear hxL
      cases hq : L[k] with
      | true =>
        rw [hq] at fL
        have HS := Hid.mk' (HTnull.out k hlt hq)
        obtain ⟨P, hP⟩ : ∃ P, P = T k := ⟨_, rfl⟩
        rw [← hP] at HS hown hown2 hr hkl hhl
        clear hq hP
        have HOW := Hid.mk' (hown.out.alloc (.cells #[.int .u8 0, .int .u8 0, .int .i64 0, .complex .f64 0 0, .string ByteArray.empty] 78))
        go_wp2_with (at_builtin; refine wpList_append_own _ rfl _ _ 33 rfl w5.heap.size 78 i0 _ 5 56 Try.underlying33 hi hz0 hz1 hz2 rfl (by decide) _ _ _ rfl (HOW.out.alloc _) ⟨_, 0, none⟩ 1 1 K.zero.pc rfl rfl ?c1 ?c2 ?c3 ?c4 ?c5 ?_)
        case c1 => exact cells_new' _ #[.int .u8 0, .int .u8 0, .int .i64 0, .complex .f64 0 0, .string ByteArray.empty] _ (by simp)
        case c2 => intro u hu; simp [K.pc, K.zero, V.zero] at hu; rcases hu with rfl | rfl | rfl | rfl | rfl <;> rfl
        case c3 => unfold maxLen; omega
        case c4 => omega
        case c5 => have := hT5.out.size; simp; omega
        intro v' w6 hown' hgrow _
        have hlt2' := owns_lt2 hown.out
        have HN1 := Hid.mk' hown'
        have HN2 := Hid.mk' (owns_grown2 ((hown2.out.alloc (.cells #[.int .u8 0, .int .u8 0, .int .i64 0, .complex .f64 0 0, .string ByteArray.empty] 78)).alloc (.cells #[.int .u8 0, .int .u8 0, .int .i64 0, .complex .f64 0 0, .string ByteArray.empty] 78)) hgrow (fun q hq e => owns_apart hown2.out hown.out (by decide) q hq e))
        have HNR := Hid.mk' (((hr.out.ext ((Ext.refl wr).alloc (.cells #[.int .u8 0, .int .u8 0, .int .i64 0, .complex .f64 0 0, .string ByteArray.empty] 78))).ext ((Ext.refl _).alloc (.cells #[.int .u8 0, .int .u8 0, .int .i64 0, .complex .f64 0 0, .string ByteArray.empty] 78))).grown hgrow (fun j hj => by have := hlt2' j hj; omega))
        have HNT := Hid.mk' (((hT5.out.alloc (.cells #[.int .u8 0, .int .u8 0, .int .i64 0, .complex .f64 0 0, .string ByteArray.empty] 78)).alloc (.cells #[.int .u8 0, .int .u8 0, .int .i64 0, .complex .f64 0 0, .string ByteArray.empty] 78)).grown hgrow (fun j hj => (hlt2' j hj).1))
        have HNW := Hid.mk' (((hTW.out.alloc (.cells #[.int .u8 0, .int .u8 0, .int .i64 0, .complex .f64 0 0, .string ByteArray.empty] 78)).alloc (.cells #[.int .u8 0, .int .u8 0, .int .i64 0, .complex .f64 0 0, .string ByteArray.empty] 78)).grown hgrow (fun j hj => by have := hlt2' j hj; have := hT5.out.size; simp; omega))
        clear hown' hgrow
        go_wp2
        go_roundw
        case rel => exact ⟨k + 1, by omega, by go_num, Hid.mk' (by rw [HS.out, List.map_append, List.flatten_append]; simpa using HN1.out), Hid.mk' (by rw [HS.out]; exact HN2.out), Hid.mk' (by rw [HS.out]; exact HNR.out), HNT, HNW⟩
        case measure => simp [intOf]; omega
      | false =>
        rw [hq] at fL
        obtain ⟨b2, o2, ha2e, hb2, hx2⟩ := HL2.out.at_ (i := k) (by simpa using hlt2)
        have hTw : Tch g w wr := (Tch.of_ext ((Ext.refl w).alloc _)).trans hTW.out
        have p1 : wr.cell? ⟨b2, o2 + k * 3 + 1, none⟩ = some (.int .u8 cols[k].ty) := by
          rw [hTw.cell hb2 (ha2 b2 o2 ha2e (List.ne_nil_of_length_pos (by omega)))]
          exact (Col.at_ hlt2 hx2 hb2 (Ext.refl _)).2.1
        have hb2w : b2 < wr.heap.size := Nat.lt_of_lt_of_le hb2 hTw.size
        have hty := HTY.out k hlt2
        have HTC := Hid.mk' (HTcell.out k hlt hlt2 hq)
        have HCT := Hid.mk' (fun W h => ctake_any g d (T k).2 cols[k].ty version W h (by have := hty.1; omega) (by have := hty.2; omega))
        obtain ⟨c, m, U, hTC⟩ : ∃ c m U, takeC cols[k].ty version (T k).2 = ((c, m), U) := ⟨_, _, _, rfl⟩
        rw [hTC] at HCT
        have HS := Hid.mk' (HTC.out c m U hTC)
        simp only [K.agg] at HCT
        obtain ⟨P, hP⟩ : ∃ P, P = T k := ⟨_, rfl⟩
        rw [← hP] at HS HCT hown hown2 hr hkl hhl
        obtain ⟨ty, hte⟩ : ∃ ty, ty = cols[k].ty := ⟨_, rfl⟩
        rw [← hte] at p1 HCT
        have HA2 := Hid.mk' ha2
        subst ha2e
        clear hq hP hTC hte hx2 hty HTC
        go_upto_region 14 with (go_at_call 88; refine (HCT.out _ (hr.out.ext ((Ext.refl wr).alloc _))).mono ?_; rintro e w6 ⟨rfl, hr6, ht6⟩; have hX := (Blk.new wr #[.int .u8 0, .int .u8 0, .int .i64 0, .complex .f64 0 0, .string ByteArray.empty] 78).tch ht6 (by omega); have kX := hX.cell; have fX := hX.frozen; have zX := hX.lt; have HR6 := Hid.mk' hr6; have HT6 := Hid.mk' ht6; have HX6 := Hid.mk' hX; have HO6 := Hid.mk' (owns_tch (hown.out.alloc (.cells #[.int .u8 0, .int .u8 0, .int .i64 0, .complex .f64 0 0, .string ByteArray.empty] 78)) ht6 (by omega)); have HP6 := Hid.mk' (owns_tch (hown2.out.alloc (.cells #[.int .u8 0, .int .u8 0, .int .i64 0, .complex .f64 0 0, .string ByteArray.empty] 78)) ht6 (by omega)); clear hr6 ht6 hX)
        have hl1 := owns_lt2 hown.out
        have hl2 := owns_lt2 hown2.out
        have h5r := hT5.out.size
        have hB7 : Blk (((((w6.setCell ⟨wr.heap.size, 0, none⟩ (.int .u8 c.k)).setCell ⟨wr.heap.size, 1, none⟩ (.int .u8 c.v.ty)).setCell ⟨wr.heap.size, 2, none⟩ (.int .i64 c.v.n)).setCell ⟨wr.heap.size, 3, none⟩ (.complex .f64 c.v.x c.v.y)).setCell ⟨wr.heap.size, 4, none⟩ (.string c.v.s)) wr.heap.size #[.int .u8 c.k, .int .u8 c.v.ty, .int .i64 c.v.n, .complex .f64 c.v.x c.v.y, .string c.v.s] 78 := Blk.five HX6.out
        have hO7 : (((((w6.setCell ⟨wr.heap.size, 0, none⟩ (.int .u8 c.k)).setCell ⟨wr.heap.size, 1, none⟩ (.int .u8 c.v.ty)).setCell ⟨wr.heap.size, 2, none⟩ (.int .i64 c.v.n)).setCell ⟨wr.heap.size, 3, none⟩ (.complex .f64 c.v.x c.v.y)).setCell ⟨wr.heap.size, 4, none⟩ (.string c.v.s)).ownsRow w5.heap.size 78 5 u8 k ((P.1.1.map K.pc).flatten) := owns_five HO6.out (fun q hq => by have := hl1 q hq; omega)
        have hP7 : (((((w6.setCell ⟨wr.heap.size, 0, none⟩ (.int .u8 c.k)).setCell ⟨wr.heap.size, 1, none⟩ (.int .u8 c.v.ty)).setCell ⟨wr.heap.size, 2, none⟩ (.int .i64 c.v.n)).setCell ⟨wr.heap.size, 3, none⟩ (.complex .f64 c.v.x c.v.y)).setCell ⟨wr.heap.size, 4, none⟩ (.string c.v.s)).ownsRow w5.heap.size 98 2 u9 P.1.2.length ((P.1.2.map Ho.cells).flatten) := owns_five HP6.out (fun q hq => by have := hl2 q hq; omega)
        have hR7 : RD (((((w6.setCell ⟨wr.heap.size, 0, none⟩ (.int .u8 c.k)).setCell ⟨wr.heap.size, 1, none⟩ (.int .u8 c.v.ty)).setCell ⟨wr.heap.size, 2, none⟩ (.int .i64 c.v.n)).setCell ⟨wr.heap.size, 3, none⟩ (.complex .f64 c.v.x c.v.y)).setCell ⟨wr.heap.size, 4, none⟩ (.string c.v.s)) g d U := RD.five HR6.out (by omega)
        have hT7 : Tch g w5 (((((w6.setCell ⟨wr.heap.size, 0, none⟩ (.int .u8 c.k)).setCell ⟨wr.heap.size, 1, none⟩ (.int .u8 c.v.ty)).setCell ⟨wr.heap.size, 2, none⟩ (.int .i64 c.v.n)).setCell ⟨wr.heap.size, 3, none⟩ (.complex .f64 c.v.x c.v.y)).setCell ⟨wr.heap.size, 4, none⟩ (.string c.v.s)) := Tch.five ((hT5.out.alloc _).trans HT6.out) h5r
        have hV7 : Tch g _ (((((w6.setCell ⟨wr.heap.size, 0, none⟩ (.int .u8 c.k)).setCell ⟨wr.heap.size, 1, none⟩ (.int .u8 c.v.ty)).setCell ⟨wr.heap.size, 2, none⟩ (.int .i64 c.v.n)).setCell ⟨wr.heap.size, 3, none⟩ (.complex .f64 c.v.x c.v.y)).setCell ⟨wr.heap.size, 4, none⟩ (.string c.v.s)) := Tch.five ((hTW.out.alloc _).trans HT6.out) (by simp; omega)
        obtain ⟨W7, hW7⟩ : ∃ W7, W7 = ((((w6.setCell ⟨wr.heap.size, 0, none⟩ (.int .u8 c.k)).setCell ⟨wr.heap.size, 1, none⟩ (.int .u8 c.v.ty)).setCell ⟨wr.heap.size, 2, none⟩ (.int .i64 c.v.n)).setCell ⟨wr.heap.size, 3, none⟩ (.complex .f64 c.v.x c.v.y)).setCell ⟨wr.heap.size, 4, none⟩ (.string c.v.s) := ⟨_, rfl⟩
        rw [← hW7] at hB7 hO7 hP7 hR7 hT7 hV7 ⊢
        clear hW7 kX fX zX HX6 HO6 HP6 HR6 HT6 g0
        have k7 := hB7.cell
        have z7 := hB7.lt
        have HO7 := Hid.mk' hO7
        have HP7 := Hid.mk' hP7
        have HR7 := Hid.mk' hR7
        have HT7 := Hid.mk' hT7
        have HV7 := Hid.mk' hV7
        clear hB7 hO7 hP7 hR7 hT7 hV7
        go_upto_region 15 with (at_builtin; refine wpList_append_own _ rfl _ _ 33 rfl w5.heap.size 78 i0 _ 5 56 Try.underlying33 hi hz0 hz1 hz2 rfl (by decide) _ _ _ rfl (HO7.out.alloc _) ⟨_, 0, none⟩ 1 1 c.pc rfl rfl ?c1 ?c2 ?c3 ?c4 ?c5 ?_)
        case c1 => exact cells_new _ #[.int .u8 c.k, .int .u8 c.v.ty, .int .i64 c.v.n, .complex .f64 c.v.x c.v.y, .string c.v.s] _
        case c2 => intro u hu; simp [K.pc] at hu; rcases hu with rfl | rfl | rfl | rfl | rfl <;> rfl
        case c3 => unfold maxLen; omega
        case c4 => omega
        case c5 => have := HT7.out.size; simp; omega
        intro v' w8 hown' hgrow _
        have hl7 := owns_lt2 HO7.out
        have HN1 := Hid.mk' hown'
        have HN2 := Hid.mk' (owns_grown2 (HP7.out.alloc (.cells #[.int .u8 c.k, .int .u8 c.v.ty, .int .i64 c.v.n, .complex .f64 c.v.x c.v.y, .string c.v.s] 78)) hgrow (fun q hq e => owns_apart HP7.out HO7.out (by decide) q hq e))
        have HNR := Hid.mk' ((HR7.out.ext ((Ext.refl _).alloc (.cells #[.int .u8 c.k, .int .u8 c.v.ty, .int .i64 c.v.n, .complex .f64 c.v.x c.v.y, .string c.v.s] 78))).grown hgrow (fun j hj => by have := hl7 j hj; omega))
        have HNT := Hid.mk' ((HT7.out.alloc (.cells #[.int .u8 c.k, .int .u8 c.v.ty, .int .i64 c.v.n, .complex .f64 c.v.x c.v.y, .string c.v.s] 78)).grown hgrow (fun j hj => (hl7 j hj).1))
        have HNW := Hid.mk' ((HV7.out.alloc (.cells #[.int .u8 c.k, .int .u8 c.v.ty, .int .i64 c.v.n, .complex .f64 c.v.x c.v.y, .string c.v.s] 78)).grown hgrow (fun j hj => by have := hl7 j hj; simp; omega))
        clear hown' hgrow hl7 hl1 hl2 k7 z7 HO7 HP7 HR7 HT7 HV7
        by_cases hm : 0 < m
        · rw [if_pos hm] at HS
          go_upto_region 17 with (at_builtin; refine wpList_append_own _ rfl _ _ 93 rfl w5.heap.size 98 j0 _ 2 16 Try.underlying93 hj hy0 hy1 hy2 rfl (by decide) _ _ _ rfl (HN2.out.alloc _) ⟨_, 0, none⟩ 1 1 (Ho.cells ⟨k, m⟩) rfl rfl ?d1 ?d2 ?d3 ?d4 ?d5 ?_)
          case d1 => exact cells_new _ #[.int .i64 (k : Int), .int .i64 (m : Int)] _
          case d2 => intro u hu; simp [Ho.cells] at hu; rcases hu with rfl | rfl <;> rfl
          case d3 => unfold maxLen; omega
          case d4 => omega
          case d5 => have := HNT.out.size; simp; omega
          intro u' w9 hown' hgrow _
          have hl7 := owns_lt2 HN2.out
          have HM2 := Hid.mk' hown'
          have HM1 := Hid.mk' (owns_grown2 (HN1.out.alloc (.cells #[.int .i64 (k : Int), .int .i64 (m : Int)] 98)) hgrow (fun q hq e => owns_apart HN1.out HN2.out (by decide) q hq e))
          have HMR := Hid.mk' ((HNR.out.ext ((Ext.refl _).alloc (.cells #[.int .i64 (k : Int), .int .i64 (m : Int)] 98))).grown hgrow (fun j hj => by have := hl7 j hj; omega))
          have HMT := Hid.mk' ((HNT.out.alloc (.cells #[.int .i64 (k : Int), .int .i64 (m : Int)] 98)).grown hgrow (fun j hj => (hl7 j hj).1))
          have HMW := Hid.mk' ((HNW.out.alloc (.cells #[.int .i64 (k : Int), .int .i64 (m : Int)] 98)).grown hgrow (fun j hj => by have := hl7 j hj; simp; omega))
          clear hown' hgrow hl7 HN1 HN2 HNR HNT HNW
          go_wp2
          go_roundw
          case rel => exact ⟨k + 1, by omega, by go_num, Hid.mk' (by rw [HS.out, List.map_append, List.flatten_append]; simpa using HM1.out), Hid.mk' (by rw [HS.out, List.map_append, List.flatten_append, List.length_append]; simpa using HM2.out), Hid.mk' (by rw [HS.out]; exact HMR.out), HMT, HMW⟩
          case measure => simp [intOf]; omega
        · rw [if_neg hm] at HS
          have hm0 : m = 0 := by omega
          subst hm0
          go_wp2
          go_roundw
          case rel => exact ⟨k + 1, by omega, by go_num, Hid.mk' (by rw [HS.out, List.map_append, List.flatten_append]; simpa using HN1.out), Hid.mk' (by rw [HS.out]; exact HN2.out), Hid.mk' (by rw [HS.out]; exact HNR.out), HNT, HNW⟩
          case measure => simp [intOf]; omega
    · have hkk : k = L.length := by omega
      subst hkk
      have hkl := HTlen.out _ (Nat.le_refl _)
      have HF := HTfin
      obtain ⟨P, hP⟩ : ∃ P, P = T L.length := ⟨_, rfl⟩
      rw [← hP] at HF hown hown2 hr hkl
      have hTw : Hid (Tch g w wr) := Hid.mk' ((Tch.of_ext ((Ext.refl w).alloc _)).trans hTW.out)
      have hz6 := hT5.out.size
      obtain ⟨a8, c8, rfl⟩ := owns_shape hown.out
      obtain ⟨a9, c9, rfl⟩ := owns_shape hown2.out
      have HER2 := Hid.mk' (HER.out P.2)
      clear hP HTlen HThol HTnull HTcell HTfin
      by_cases hpe : P.2.e = 0
      · have hpe2 : (P.2.e != 0) = false := by simpa using hpe
        have HFF := Hid.mk' (HF.out.trans (show finT P = P by unfold finT; rw [if_neg (by simpa using hpe)]))
        clear hpe
        go_wp2_with (go_at_call 52; refine (HER2.out _ hr.out).mono ?_; rintro e w9 ⟨rfl, rfl⟩)
        go_ret2
        rw [HFF.out]
        unfold TkPost
        rw [hkl]
        refine ⟨a8, c8, a9, c9, rfl, ?_, ?_, fun q o e => by have := owns_at hown.out q o e; omega, fun q o e => by have := owns_at hown2.out q o e; omega, hr.out, hTw.out⟩
        · have := Sl.of_owns (base := w5.heap.size) (e := 78) (xss := P.1.1.map K.pc) (by rw [List.length_map, hkl]; exact hown.out) pc_len
          exact this
        · have := Sl.of_owns (base := w5.heap.size) (e := 98) (xss := P.1.2.map Ho.cells) (by rw [List.length_map]; exact hown2.out) ho_len
          exact this
      · have hpe2 : (P.2.e != 0) = true := by simpa using hpe
        have HFF := Hid.mk' (HF.out.trans (show finT P = (([], []), P.2) by unfold finT; rw [if_pos hpe]))
        clear hpe
        go_wp2_with (go_at_call 52; refine (HER2.out _ hr.out).mono ?_; rintro e w9 ⟨rfl, rfl⟩)
        go_ret2
        exact TkPost.bad HFF.out hr.out hTw.out

end Go.Proofs.Ytdbepkfblfhlhaa

/-
The reference's reader: bytes, numbers.
-/
namespace Go.Proofs.Ytdbepkfblfhlhaa
open Go.RowKit

/-- A part of a slice as a string. -/
theorem conv_part {w : World} {g d : Nat} {a : Option Addr} {L : List Int} {len cap i n : Nat} (h : SB w g d (.slice a len cap) L) (hi : i + n ≤ L.length) (a' : Option Addr) (cap' : Nat)
    (ha : n = 0 ∨ ∀ b o, a = some ⟨b, o, none⟩ → a' = some ⟨b, o + i, none⟩) : (convert 80 9 (.slice a' n cap')).run Try.prog w = .ok (.string (strOfNums ((L.drop i).take n))) w := by
  refine conv_Sl ⟨a', cap', by simp; omega, ?_⟩
  rcases Nat.eq_zero_or_pos n with hz | hz
  · subst hz; exact .inl rfl
  · obtain ⟨a0, c, hv, -, -, hs⟩ := h
    simp only [Value.slice.injEq] at hv
    obtain ⟨rfl, -, -⟩ := hv
    rcases hs with hs | ⟨b, o, hab, hb, -, hc⟩
    · subst hs; simp at hi; omega
    · rcases ha with ha | ha
      · omega
      · refine .inr ⟨b, o + i, ha b o hab, hb, fun k hk j hj => ?_⟩
        obtain rfl : j = 0 := by omega
        simp only [List.length_map, List.length_take, List.length_drop] at hk
        rw [Nat.mul_one, Nat.add_zero, Nat.add_assoc, hc (i + k) (by omega)]
        have h1 : i + k < L.length := by omega
        simp [bcell, List.getD, List.getElem?_map, List.getElem?_eq_getElem h1, show k < n by omega]

set_option maxRecDepth 100000 in set_option maxHeartbeats 1600000 in
theorem fbytes0_any (g d : Nat) (st : RS) (w : World) (h : RF w g d st) :
    Calls Try.prog 90 #[.pointer (some ⟨g, 0, none⟩), .int .u64 0] w (FPost g d w (.string (strOfNums [])) st) := by
  have H := Hid.mk' h
  have HLF := Hid.mk' (fun w h => fleft_any g d st w h)
  obtain ⟨v, L, a, hb, ⟨ad, cap, rfl, hlc, hnc, hs⟩, hat, hl, hB, hlen⟩ := h
  have hc := hb.cell
  have hf := hb.frozen
  have hlt := hb.lt
  have HB := Hid.mk' hb
  have hll : st.l.length ≤ 1000000 := by rw [hl]; split <;> simp <;> omega
  have HS : Hid (SB w g d (.slice ad L.length cap) L) := Hid.mk' ⟨ad, cap, rfl, hlc, hnc, hs⟩
  have HEND : Hid (∀ q k, FPost g d w (.string (strOfNums [])) st (.returned (.string (strOfNums []))) (((w.drewN q).setCell ⟨g, 1, none⟩ (.int .i64 (a : Int))).drewN k)) := Hid.mk' (fun q k => by
    have ht : Tch g w ((w.drewN q).setCell ⟨g, 1, none⟩ (.int .i64 (a : Int))) := (Tch.of_ext ((Ext.refl w).drewN q)).trans ((Tch.refl g _).set 1 _)
    refine ⟨rfl, RF.drewN ⟨_, L, a, by have h := (HB.out.drewN q).set 1 (.int .i64 (a : Int)); simpa using h, HS.out.tch ht (.inr (Nat.le_refl _)), hat, hl, hB, hlen⟩ k, ht.drewN k⟩)
  have HC2 : Hid (∀ q, ((w.drewN q).setCell ⟨g, 1, none⟩ (.int .i64 (a : Int))).cell? ⟨g, 0, none⟩ = some (.slice ad L.length cap) ∧ ((w.drewN q).setCell ⟨g, 1, none⟩ (.int .i64 (a : Int))).cell? ⟨g, 1, none⟩ = some (.int .i64 (a : Int))) := Hid.mk' (fun q => ⟨((HB.out.drewN q).set 1 (.int .i64 (a : Int))).cell 0, ((HB.out.drewN q).set 1 (.int .i64 (a : Int))).cell 1⟩)
  have hcv : ∀ (a' : Option Addr) (cap' : Nat) (w : World), (convert 80 9 (.slice a' 0 cap')).run Try.prog w = .ok (.string (strOfNums [])) w := fun a' cap' w => conv_Sl (l := []) ⟨a', cap', rfl, .inl rfl⟩
  clear hb hl hB hs
  by_cases hca : cap = a
  · subst hca
    go_enter Try.func90, Try.ntmps90
    go_upto_region 5 with (go_at_call 54; refine (HLF.out _ H.out).mono ?_; rintro e w1 ⟨rfl, q1, rfl⟩)
    obtain ⟨hg0, hg1⟩ := HC2.out q1
    obtain ⟨W2, hW2⟩ : ∃ W2 : World, W2 = (w.drewN q1).setCell ⟨g, 1, none⟩ (.int .i64 (cap : Int)) := ⟨_, rfl⟩
    have HE := HEND.out q1
    rw [← hW2] at hg0 hg1 HE ⊢
    have HEE := Hid.mk' HE
    clear hW2 HE
    go_quiet (fail)
    go_wp2
    go_ret
    exact HEE.out nq
  · cases ad with
    | none => have := hnc rfl; omega
    | some ad =>
      clear hnc
      go_enter Try.func90, Try.ntmps90
      go_upto_region 5 with (go_at_call 54; refine (HLF.out _ H.out).mono ?_; rintro e w1 ⟨rfl, q1, rfl⟩)
      obtain ⟨hg0, hg1⟩ := HC2.out q1
      obtain ⟨W2, hW2⟩ : ∃ W2 : World, W2 = (w.drewN q1).setCell ⟨g, 1, none⟩ (.int .i64 (a : Int)) := ⟨_, rfl⟩
      have HE := HEND.out q1
      rw [← hW2] at hg0 hg1 HE ⊢
      have HEE := Hid.mk' HE
      clear hW2 HE
      go_quiet (fail)
      go_wp2
      go_ret
      exact HEE.out nq

set_option maxRecDepth 100000 in set_option maxHeartbeats 1600000 in
theorem fbytes_any (g d : Nat) (st : RS) (n : Nat) (w : World) (h : RF w g d st) (hn : n < 18446744073709551616) :
    Calls Try.prog 90 #[.pointer (some ⟨g, 0, none⟩), .int .u64 n] w (FPost g d w (.string (strOfNums (bytesR n st).1)) (bytesR n st).2) := by
  rcases Nat.eq_zero_or_pos n with hz | hpos
  · subst hz
    have e : bytesR 0 st = ([], st) := by unfold bytesR; rw [if_neg (by omega)]; rfl
    rw [e]
    exact fbytes0_any g d st w h
  have H := Hid.mk' h
  have HLF := Hid.mk' (fun w h => fleft_any g d st w h)
  obtain ⟨v, L, a, hb, ⟨ad, cap, rfl, hlc, hnc, hs⟩, hat, hl, hB, hlen⟩ := h
  have hc := hb.cell
  have hf := hb.frozen
  have hlt := hb.lt
  have HB := Hid.mk' hb
  have HS : Hid (SB w g d (.slice ad L.length cap) L) := Hid.mk' ⟨ad, cap, rfl, hlc, hnc, hs⟩
  have hll : st.l.length ≤ 1000000 := by rw [hl]; split <;> simp <;> omega
  clear hb
  by_cases hk : st.l.length < n
  · have hE : Hid (bytesR n st = ([], giveS st 1)) := Hid.mk' (by unfold bytesR; rw [if_pos hk])
    have HG := Hid.mk' (fun w h => fgive_any g d st 1 w h (by decide))
    clear hs hlc hnc hl
    go_enter Try.func90, Try.ntmps90
    go_wp2_with (first
      | (go_at_call 54; refine (HLF.out _ H.out).mono ?_; rintro e w1 ⟨rfl, q1, rfl⟩)
      | (go_at_call 89; refine (HG.out _ (H.out.drewN q1)).mono ?_; rintro e w2 ⟨rfl, hr, ht⟩; have HR := Hid.mk' hr; have HT := Hid.mk' ht; clear hr ht))
    go_ret
    exact ⟨by rw [hE.out]; rfl, by rw [hE.out]; exact HR.out, (Tch.of_ext ((Ext.refl w).drewN q1)).trans HT.out⟩
  · have hE : Hid (bytesR n st = (st.l.take n, ⟨st.l.drop n, st.e⟩)) := Hid.mk' (by unfold bytesR; rw [if_neg hk])
    have hkn : n ≤ st.l.length := by omega
    clear hk
    by_cases he : st.e = 0
    · have hl2 : st.l = L.drop a := by rw [hl, if_pos he]
      have hal : a + n ≤ L.length := by rw [hl2, List.length_drop] at hkn; omega
      have HL2 := Hid.mk' hl2
      have HE := Hid.mk' he
      clear hl hl2 hs he
      have HLE : Hid (L.drop a = st.l) := Hid.mk' HL2.out.symm
      rw [HE.out] at hc HB
      have hBD := hB
      have HBI := Hid.mk' hB
      have HLEN := Hid.mk' hlen
      have hal' : (a : Int) + n ≤ 1000000 := by omega
      clear hB hBD
      obtain ⟨W2, hW2⟩ : ∃ W2 : Nat → World, ∀ q, W2 q = (w.drewN q).setCell ⟨g, 1, none⟩ (.int .i64 ((a : Int) + (n : Int))) := ⟨_, fun _ => rfl⟩
      have HW2 := Hid.mk' hW2
      have HT2 : Hid (∀ q, Tch g w (W2 q)) := Hid.mk' (fun q => by rw [HW2.out]; exact (Tch.of_ext ((Ext.refl w).drewN q)).trans ((Tch.refl g _).set 1 _))
      have HB2 : Hid (∀ q, Blk (W2 q) g #[.slice ad L.length cap, .int .i64 ((a + n : Nat) : Int), .int .i64 0] 108) := Hid.mk' (fun q => by rw [HW2.out]; have h := (HB.out.drewN q).set 1 (.int .i64 ((a : Int) + (n : Int))); simpa using h)
      have HS2 : Hid (∀ q, SB (W2 q) g d (.slice ad L.length cap) L) := Hid.mk' (fun q => HS.out.tch (HT2.out q) (.inr (Nat.le_refl _)))
      have HCV : Hid (∀ (a' : Option Addr) (cap' : Nat), (n = 0 ∨ ∀ b o, ad = some ⟨b, o, none⟩ → a' = some ⟨b, o + a, none⟩) → ∀ q k, (convert 80 9 (.slice a' n cap')).run Try.prog ((W2 q).drewN k) = .ok (.string (strOfNums (st.l.take n))) ((W2 q).drewN k)) := Hid.mk' (fun a' cap' ha q k => by
        have h := conv_part (g := g) (d := d) (i := a) (n := n) ((HS2.out q).ext ((Ext.refl _).drewN k)) hal a' cap' ha
        rw [HLE.out] at h; exact h)
      have HEND : Hid (∀ q k, FPost g d w (.string (strOfNums (bytesR n st).1)) (bytesR n st).2 (.returned (.string (strOfNums (st.l.take n)))) ((W2 q).drewN k)) := Hid.mk' (fun q k => by
        rw [hE.out]
        refine ⟨rfl, RF.drewN ⟨_, L, a + n, by rw [HE.out]; exact HB2.out q, HS2.out q, hal, ?_, HBI.out, HLEN.out⟩ k, (HT2.out q).drewN k⟩
        show st.l.drop n = _
        rw [if_pos HE.out, ← HLE.out, List.drop_drop])
      have hc2 : ∀ q, (W2 q).cell? ⟨g, 0, none⟩ = some (.slice ad L.length cap) ∧ (W2 q).cell? ⟨g, 1, none⟩ = some (.int .i64 ((a : Int) + (n : Int))) := fun q => ⟨(HB2.out q).cell 0, by rw [(HB2.out q).cell 1]; simp⟩
      have HC2 := Hid.mk' hc2
      clear hW2 hc2
      rcases HS.out with ⟨ad', cap', hv, -, -, hs⟩
      simp only [Value.slice.injEq] at hv
      obtain ⟨rfl, -, rfl⟩ := hv
      have hca : ¬ cap = a := by omega
      rcases hs with hs | ⟨b, o, rfl, -, -, -⟩
      · rw [hs] at hal; simp at hal; omega
      · go_enter Try.func90, Try.ntmps90
        go_upto_region 5 with (go_at_call 54; refine (HLF.out _ H.out).mono ?_; rintro e w1 ⟨rfl, q1, rfl⟩)
        rw [← HW2.out q1]
        obtain ⟨hg0, hg1⟩ := HC2.out q1
        have hcv := HCV.out (some ⟨b, o + a, none⟩) (cap - a) (.inr (fun b' o' h => by cases h; rfl)) q1
        go_quiet (fail)
        go_wp2
        go_ret
        exact HEND.out q1 nq
    · have hl0 : st.l = [] := by rw [hl, if_neg he]
      rw [hl0] at hkn
      simp at hkn
      omega

end Go.Proofs.Ytdbepkfblfhlhaa

/-
The reference's reader: numbers by sevens.
-/
namespace Go.Proofs.Ytdbepkfblfhlhaa
open Go.RowKit

theorem valL_drop_le : ∀ (k : Nat) (l : List Int), valL (l.drop k) ≤ valL l := by
  intro k
  induction k with
  | zero => intro l; simp
  | succ k ih =>
    intro l
    cases l with
    | nil => simp
    | cons x l => rw [List.drop_succ_cons, valL]; have := ih l; omega

theorem quiet_of2 {P : Program} {f : FuncId} {args : Array Value} {w : World} {q n : Nat} {v : Value}
    (h : Calls P f args (w.drewN (q + n)) fun e w' => e = .returned v ∧ ∃ m, w' = (w.drewN (q + n)).drewN m) : Calls P f args (w.drewN (q + n)) fun e w'' => e = .returned v ∧ ∃ m, w'' = w.drewN (q + m) :=
  h.mono fun _ _ ⟨he, m, hm⟩ => ⟨he, n + m, by rw [hm, World.drewN_drewN, Nat.add_assoc]⟩

def U2 (l : List Int) (n : Nat) (w : World) (v i : Value) (wr : World) : Prop := ∃ j q : Nat, j ≤ n + 1 ∧ i = .int .i64 ((j : Int) - 1) ∧ v = .int .u64 (valL ((l.take (n + 1)).drop j)) ∧ wr = w.drewN q
def UExit (l : List Int) (n : Nat) : Prop := n = 10 ∨ n = l.length ∨ (n < l.length ∧ l.getD n 0 < 128)
def ULoop (l : List Int) (w : World) (i : Value) (wr : World) : Prop := ∃ n q : Nat, n ≤ 10 ∧ n ≤ l.length ∧ i = .int .i64 n ∧ wr = w.drewN q ∧ ∀ i, i < n → 128 ≤ l.getD i 0
def UCut (l : List Int) (w : World) (i : Value) (wr : World) : Prop := ∃ n q : Nat, n ≤ 10 ∧ n ≤ l.length ∧ i = .int .i64 n ∧ wr = w.drewN q ∧ (∀ i, i < n → 128 ≤ l.getD i 0) ∧ UExit l n

set_option maxRecDepth 100000 in set_option maxHeartbeats 8000000 in
theorem fuint_any (g d : Nat) (st : RS) (m : Nat) (w : World) (h : RF w g d st) (_hm : m < 18446744073709551616) :
    Calls Try.prog 159 #[.pointer (some ⟨g, 0, none⟩), .int .u64 m] w (FPost g d w (.int .u64 (uintR m st).1) (uintR m st).2) := by
  have H := Hid.mk' h
  have HLF := Hid.mk' (fun w h => fleft_any g d st w h)
  have hok := h.ok
  obtain ⟨v, L, a, hb, ⟨ad, cap, rfl, hlc, hnc, hs⟩, hat, hl, hB, hlen⟩ := h
  have hc := hb.cell
  have hf := hb.frozen
  have hlt := hb.lt
  have HB := Hid.mk' hb
  have HS : Hid (SB w g d (.slice ad L.length cap) L) := Hid.mk' ⟨ad, cap, rfl, hlc, hnc, hs⟩
  have hll : st.l.length ≤ 1000000 := by rw [hl]; split <;> simp <;> omega
  have HCX : Hid (∀ n, n < st.l.length → a + n < L.length ∧ ∃ b o, ad = some ⟨b, o, none⟩ ∧ w.cell? ⟨b, o + (a + n), none⟩ = some (.int .u8 (st.l.getD n 0)) ∧ 0 ≤ st.l.getD n 0 ∧ st.l.getD n 0 < 256) := Hid.mk' (fun n hn => by
    have he : st.e = 0 := Classical.byContradiction fun he => by rw [hl, if_neg he] at hn; simp at hn
    have hl2 : st.l = L.drop a := by rw [hl, if_pos he]
    have hn2 : a + n < L.length := by rw [hl2, List.length_drop] at hn; omega
    refine ⟨hn2, ?_⟩
    rcases hs with hs | ⟨b, o, hab, hbb, hd, hcc⟩
    · rw [hs] at hn2; simp at hn2
    · have hx := hok.2 (st.l.getD n 0) (by rw [List.getD_eq_getElem?_getD, List.getElem?_eq_getElem hn]; exact List.getElem_mem hn)
      refine ⟨b, o, hab, ?_, hx⟩
      rw [hcc _ hn2]
      congr 2
      rw [hl2]; simp [List.getD])
  have HOK := Hid.mk' hok
  have HLL := Hid.mk' hl
  have HBI := Hid.mk' hB
  have HLEN := Hid.mk' hlen
  have HLC := Hid.mk' hlc
  clear hb hs hl hB hok hlc hnc hlen
  go_enter Try.func159, Try.ntmps159
  go_upto_block 0 with (fail)
  go_cut [5] (fun i wx => Hid (UCut st.l w i wx))
  case first =>
    as_aux_lemma =>
      go_wp2
      go_loopw [5] (fun i wr => ULoop st.l w i wr) (fun i _ => 10 - (intOf i).toNat)
      case atStart => exact ⟨0, 0, by omega, Nat.zero_le _, rfl, rfl, fun i h => by omega⟩
      case round =>
        obtain ⟨n, q, hn10, hnl, rfl, rfl, hb⟩ := hrel
        have HBB := Hid.mk' hb
        clear hb
        by_cases h10 : n < 10
        · by_cases hlt2 : n < st.l.length
          · obtain ⟨han, b, o, rfl, hx, hx0, hx1⟩ := HCX.out n hlt2
            have han' := HLC.out
            obtain ⟨x, hxx⟩ : ∃ x, x = st.l.getD n 0 := ⟨_, rfl⟩
            rw [← hxx] at hx hx0 hx1
            have HXX := Hid.mk' hxx
            clear hxx
            by_cases h128 : 127 < x
            · have t1 : (n : Int) < 10 := by omega
              have t2 : (n : Int) < (st.l.length : Int) := by omega
              have t3 : (0 : Int) ≤ (a : Int) + (n : Int) := by omega
              have t4 : (a : Int) + (n : Int) < (L.length : Int) := by omega
              have t5 : ((a : Int) + (n : Int)).toNat = a + n := by omega
              have t6 : IntKind.i64.wrap ((a : Int) + (n : Int)) = (a : Int) + (n : Int) := IntWalk.i64_in _ (by have := HLEN.out; omega)
              go_wp2
              go_quiet ((go_at_call 54; refine quiet_of2 (HLF.out _ (H.out.drewN _))))
              clear t1 t2 t3 t4 t5 t6
              go_wp2
              go_roundw
              case rel =>
                refine ⟨n + 1, q + nq, by omega, by omega, by go_num, by first | rfl | rw [World.drewN_drewN], fun i hi => ?_⟩
                by_cases hin : i = n
                · subst hin; rw [← HXX.out]; omega
                · exact HBB.out i (by omega)
              case measure => simp [intOf]; omega
            · have h128' : x ≤ 127 := by omega
              have d3 : decide (127 < x) = false := by simpa using h128
              clear h128
              have t1 : (n : Int) < 10 := by omega
              have t2 : (n : Int) < (st.l.length : Int) := by omega
              have t3 : (0 : Int) ≤ (a : Int) + (n : Int) := by omega
              have t4 : (a : Int) + (n : Int) < (L.length : Int) := by omega
              have t5 : ((a : Int) + (n : Int)).toNat = a + n := by omega
              have t6 : IntKind.i64.wrap ((a : Int) + (n : Int)) = (a : Int) + (n : Int) := IntWalk.i64_in _ (by have := HLEN.out; omega)
              go_wp2
              go_quiet ((go_at_call 54; refine quiet_of2 (HLF.out _ (H.out.drewN _))))
              clear t1 t2 t3 t4 t5 t6
              go_wp2
              go_meet
              case rel => exact ⟨n, q + nq, hn10, hnl, rfl, by first | rfl | rw [World.drewN_drewN], HBB.out, .inr (.inr ⟨hlt2, by rw [← HXX.out]; omega⟩)⟩
          · have hne : n = st.l.length := by omega
            have d2 : decide (n < st.l.length) = false := by simp; omega
            have t1 : (n : Int) < 10 := by omega
            have HNE := Hid.mk' hne
            clear hne hlt2
            go_wp2
            go_quiet ((go_at_call 54; refine quiet_of2 (HLF.out _ (H.out.drewN _))))
            clear d2
            go_wp2
            go_meet
            case rel => exact ⟨n, q + nq, hn10, hnl, rfl, by first | rfl | rw [World.drewN_drewN], HBB.out, .inr (.inl HNE.out)⟩
        · obtain rfl : n = 10 := by omega
          clear h10
          go_wp2
          go_quiet ((go_at_call 54; refine quiet_of2 (HLF.out _ (H.out.drewN _))))
          go_wp2
          go_meet
          case rel => exact ⟨10, q + nq, hn10, hnl, rfl, by first | rfl | rw [World.drewN_drewN], HBB.out, .inl rfl⟩
  case rest =>
    obtain ⟨n, q, hn10, hnl, rfl, rfl, hbb, hex⟩ := hcut.out
    have HBB := Hid.mk' hbb
    clear hcut hbb
    by_cases h10 : n = 10
    · subst h10
      have hE : Hid (uintR m st = (0, giveS st 5)) := Hid.mk' (by
        unfold uintR; simp only [digs_ten st.l hnl HBB.out]; rfl)
      have HG := Hid.mk' (fun w h => fgive_any g d st 5 w h (by decide))
      clear hex
      go_wp2
      go_quiet ((go_at_call 54; refine quiet_of2 (HLF.out _ (H.out.drewN _))))
      go_wp2_with (go_at_call 89; refine (HG.out _ ((H.out.drewN _))).mono ?_; rintro e w2 ⟨rfl, hr, ht⟩; have HR := Hid.mk' hr; have HT := Hid.mk' ht; clear hr ht)
      go_ret
      exact ⟨by rw [hE.out]; rfl, by rw [hE.out]; exact HR.out, (Tch.of_ext ((Ext.refl w).drewN _)).trans HT.out⟩
    · have hn9 : n ≤ 9 := by omega
      by_cases hlt2 : n < st.l.length
      · obtain ⟨han, b, o, rfl, hx, hx0, hx1⟩ := HCX.out n hlt2
        have hx128 : st.l.getD n 0 < 128 := by rcases hex with h | h | h <;> omega
        have hdig := digs_at st.l n hlt2 hn9 HBB.out hx128
        have hvm := digs_lt st.l 0 0 HOK.out.2 (by omega) (by decide)
        obtain ⟨x, hxx⟩ : ∃ x, x = st.l.getD n 0 := ⟨_, rfl⟩
        rw [← hxx] at hx hx0 hx1 hx128 hdig
        have HXX := Hid.mk' hxx
        have hlc := HLC.out
        have d3 : ((n : Int) == 10) = false := by simp; omega
        have d6 : decide (st.l.length ≤ n) = false := by simp; omega
        have d7 : (n : Int) < (st.l.length : Int) := by omega
        clear hxx hex
        by_cases c1 : n = 9 ∧ 1 < x
        · rw [if_pos c1] at hdig
          have hE : Hid (uintR m st = (0, giveS st 5)) := Hid.mk' (by unfold uintR; simp only [hdig]; rfl)
          have HG := Hid.mk' (fun w h => fgive_any g d st 5 w h (by decide))
          obtain ⟨hn, hx2⟩ := c1
          have d5 : ((n : Int) == 9) = true := by simp; omega
          clear hdig hvm hn
          have t1 : (n : Int) < (st.l.length : Int) := by omega
          have t2 : n < st.l.length := by omega
          have t3 : (0 : Int) ≤ (a : Int) + (n : Int) := by omega
          have t4 : (a : Int) + (n : Int) < (L.length : Int) := by omega
          have t5 : ((a : Int) + (n : Int)).toNat = a + n := by omega
          have t6 : IntKind.i64.wrap ((a : Int) + (n : Int)) = (a : Int) + (n : Int) := IntWalk.i64_in _ (by have := HLEN.out; omega)
          go_wp2
          go_quiet ((go_at_call 54; refine quiet_of2 (HLF.out _ (H.out.drewN _))))
          clear t1 t2 t3 t4 t5 t6
          go_wp2_with (go_at_call 89; refine (HG.out _ ((H.out.drewN _))).mono ?_; rintro e w2 ⟨rfl, hr, ht⟩; have HR := Hid.mk' hr; have HT := Hid.mk' ht; clear hr ht)
          go_ret
          exact ⟨by rw [hE.out]; rfl, by rw [hE.out]; exact HR.out, (Tch.of_ext ((Ext.refl w).drewN _)).trans HT.out⟩
        · rw [if_neg c1] at hdig
          by_cases c2 : 1 ≤ n ∧ x = 0
          · rw [if_pos c2] at hdig
            have hE : Hid (uintR m st = (0, giveS st 5)) := Hid.mk' (by unfold uintR; simp only [hdig]; rfl)
            have HG := Hid.mk' (fun w h => fgive_any g d st 5 w h (by decide))
            obtain ⟨hn1, rfl⟩ := c2
            have hn1' : (0 : Int) < (n : Int) := by omega
            have hn0n : 0 < n := by omega
            clear hdig hvm c1
            by_cases h9 : n = 9
            · have d5 : ((n : Int) == 9) = true := by simp; omega
              clear h9
              have t1 : (n : Int) < (st.l.length : Int) := by omega
              have t2 : n < st.l.length := by omega
              have t3 : (0 : Int) ≤ (a : Int) + (n : Int) := by omega
              have t4 : (a : Int) + (n : Int) < (L.length : Int) := by omega
              have t5 : ((a : Int) + (n : Int)).toNat = a + n := by omega
              have t6 : IntKind.i64.wrap ((a : Int) + (n : Int)) = (a : Int) + (n : Int) := IntWalk.i64_in _ (by have := HLEN.out; omega)
              go_wp2
              go_quiet ((go_at_call 54; refine quiet_of2 (HLF.out _ (H.out.drewN _))))
              go_wp2_with (go_at_call 54; refine (HLF.out _ (H.out.drewN _)).mono ?_; rintro e w1 ⟨rfl, q1, rfl⟩)
              go_quiet (fail)
              clear t1 t2 t3 t4 t5 t6
              go_wp2_with (go_at_call 89; refine (HG.out _ ((H.out.drewN _))).mono ?_; rintro e w2 ⟨rfl, hr, ht⟩; have HR := Hid.mk' hr; have HT := Hid.mk' ht; clear hr ht)
              go_ret
              exact ⟨by rw [hE.out]; rfl, by rw [hE.out]; exact HR.out, (Tch.of_ext ((Ext.refl w).drewN _)).trans HT.out⟩
            · have d5 : ((n : Int) == 9) = false := by simp; omega
              clear h9
              have t1 : (n : Int) < (st.l.length : Int) := by omega
              have t2 : n < st.l.length := by omega
              have t3 : (0 : Int) ≤ (a : Int) + (n : Int) := by omega
              have t4 : (a : Int) + (n : Int) < (L.length : Int) := by omega
              have t5 : ((a : Int) + (n : Int)).toNat = a + n := by omega
              have t6 : IntKind.i64.wrap ((a : Int) + (n : Int)) = (a : Int) + (n : Int) := IntWalk.i64_in _ (by have := HLEN.out; omega)
              go_wp2
              go_quiet ((go_at_call 54; refine quiet_of2 (HLF.out _ (H.out.drewN _))))
              go_wp2_with (go_at_call 54; refine (HLF.out _ (H.out.drewN _)).mono ?_; rintro e w1 ⟨rfl, q1, rfl⟩)
              go_quiet (fail)
              clear t1 t2 t3 t4 t5 t6
              go_wp2_with (go_at_call 89; refine (HG.out _ ((H.out.drewN _))).mono ?_; rintro e w2 ⟨rfl, hr, ht⟩; have HR := Hid.mk' hr; have HT := Hid.mk' ht; clear hr ht)
              go_ret
              exact ⟨by rw [hE.out]; rfl, by rw [hE.out]; exact HR.out, (Tch.of_ext ((Ext.refl w).drewN _)).trans HT.out⟩
          · rw [if_neg c2] at hdig
            rw [hdig] at hvm
            have HDG := Hid.mk' hdig
            have HVM := Hid.mk' hvm
            clear hdig hvm
            have HLT2 := Hid.mk' hlt2
            by_cases h9 : n = 9
            · have d5 : ((n : Int) == 9) = true := by simp; omega
              have hx2 : x ≤ 1 := by omega
              have hx3 : (x == 0) = false := by simp; omega
              have hx4 : decide (1 < x) = false := by simp; omega
              have hn1' : (0 : Int) < (n : Int) := by omega
              have hn0n : 0 < n := by omega
              clear h9 c1 c2
              have t1 : (n : Int) < (st.l.length : Int) := by omega
              have t2 : n < st.l.length := by omega
              have t3 : (0 : Int) ≤ (a : Int) + (n : Int) := by omega
              have t4 : (a : Int) + (n : Int) < (L.length : Int) := by omega
              have t5 : ((a : Int) + (n : Int)).toNat = a + n := by omega
              have t6 : IntKind.i64.wrap ((a : Int) + (n : Int)) = (a : Int) + (n : Int) := IntWalk.i64_in _ (by have := HLEN.out; omega)
              go_wp2
              go_quiet ((go_at_call 54; refine quiet_of2 (HLF.out _ (H.out.drewN _))))
              go_wp2_with (go_at_call 54; refine (HLF.out _ (H.out.drewN _)).mono ?_; rintro e w1 ⟨rfl, q1, rfl⟩)
              go_quiet (fail)
              clear t1 t2 t3 t4 t5 t6 d3 d5 d6 hx3 hx4
              go_wp2
              go_loopw [6, 7] (fun v i wr => U2 st.l n w v i wr) (fun _ i _ => (intOf i + 1).toNat)
              case atStart => exact ⟨n + 1, _, Nat.le_refl _, by congr 1; omega, by rw [List.drop_eq_nil_of_le (by simp; omega)]; rfl, by first | rfl | rw [World.drewN_drewN]⟩
              case round =>
                obtain ⟨j, q2, hj, rfl, rfl, rfl⟩ := hrel
                cases j with
                | succ k =>
                  obtain ⟨hak, bk, ok, hab, hxk, hk0, hk1⟩ := HCX.out k (by omega)
                  simp only [Option.some.injEq, Addr.mk.injEq, and_true] at hab
                  obtain ⟨rfl, rfl⟩ := hab
                  have e : (((k + 1 : Nat) : Int) - 1) = (k : Int) := by omega
                  rw [e]
                  clear e
                  have hd : (st.l.take (n + 1)).drop k = st.l.getD k 0 :: (st.l.take (n + 1)).drop (k + 1) := by
                    have h1 : k < (st.l.take (n + 1)).length := by simp; omega
                    rw [List.drop_eq_getElem_cons h1]
                    congr 1
                    have h2 : k < st.l.length := by omega
                    simp [List.getD, List.getElem?_eq_getElem h2]
                  have hle := valL_drop_le k (st.l.take (n + 1))
                  have hM := HVM.out
                  generalize st.l.getD k 0 = z at *
                  have HN : Hid ((valL ((st.l.take (n + 1)).drop k) : Int) = 128 * (valL ((st.l.take (n + 1)).drop (k + 1)) : Int) + z % 128) := Hid.mk' (by rw [hd, valL]; push_cast; omega)
                  have hbd : 128 * (valL ((st.l.take (n + 1)).drop (k + 1)) : Int) + z % 128 < 18446744073709551616 := by rw [← HN.out]; omega
                  generalize valL ((st.l.take (n + 1)).drop (k + 1)) = vv at *
                  clear hle hM hd
                  have s3 : (0 : Int) ≤ (a : Int) + (k : Int) := by omega
                  have s4 : (a : Int) + (k : Int) < (L.length : Int) := by omega
                  have s7 : (128 : Int) * (vv : Int) < 18446744073709551616 := by omega
                  have s8 : IntKind.u64.wrap (128 * (vv : Int)) = 128 * (vv : Int) := by rw [u64_wrap']; omega
                  have s9 : IntKind.u64.wrap (128 * (vv : Int) + z % 128) = 128 * (vv : Int) + z % 128 := by rw [u64_wrap']; omega
                  have s5 : ((a : Int) + (k : Int)).toNat = a + k := by omega
                  have s6 : IntKind.i64.wrap ((a : Int) + (k : Int)) = (a : Int) + (k : Int) := IntWalk.i64_in _ (by have := HLEN.out; omega)
                  go_wp2
                  go_quiet (fail)
                  clear s3 s4 s5 s6 s7 s8 s9
                  go_wp2
                  go_roundw
                  case rel => exact ⟨k, q2 + nq, by omega, by first | rfl | (congr 1; omega), by rw [HN.out], by first | rfl | rw [World.drewN_drewN]⟩
                  case measure => simp [intOf]
                | zero =>
                  have e : (((0 : Nat) : Int) - 1) = -1 := by omega
                  rw [e]
                  clear e
                  simp only [List.drop_zero]
                  have hM := HVM.out
                  generalize valL (st.l.take (n + 1)) = vv at *
                  have hb1 : (a : Int) + (n : Int) + 1 ≤ 2000000 := by have := HLEN.out; omega
                  by_cases hgt : m < vv
                  · have hE : Hid (uintR m st = (0, giveS st 4)) := Hid.mk' (by unfold uintR; simp only [HDG.out]; rw [if_neg (by simp), if_pos hgt])
                    have HG := Hid.mk' (fun w h => fgive_any g d st 4 w h (by decide))
                    have hgt' : (m : Int) < (vv : Int) := by omega
                    go_wp2_with (go_at_call 89; refine (HG.out _ ((H.out.drewN _))).mono ?_; rintro e w2 ⟨rfl, hr, ht⟩; have HR := Hid.mk' hr; have HT := Hid.mk' ht; clear hr ht)
                    go_ret
                    exact ⟨by rw [hE.out]; rfl, by rw [hE.out]; exact HR.out, (Tch.of_ext ((Ext.refl w).drewN _)).trans HT.out⟩
                  · have hE : Hid (uintR m st = (vv, ⟨st.l.drop (n + 1), st.e⟩)) := Hid.mk' (by unfold uintR; simp only [HDG.out]; rw [if_neg (by simp), if_neg hgt])
                    have hgt' : (vv : Int) ≤ (m : Int) := by omega
                    go_wp2
                    go_ret
                    have hT : Tch g w ((w.drewN q2).setCell ⟨g, 1, none⟩ (.int .i64 ((a : Int) + (n : Int) + 1))) := (Tch.of_ext ((Ext.refl w).drewN q2)).trans ((Tch.refl g _).set 1 _)
                    refine ⟨by rw [hE.out]; rfl, ?_, hT⟩
                    rw [hE.out]
                    have he : st.e = 0 := Classical.byContradiction fun he => by have h := HLL.out; rw [if_neg he] at h; rw [h] at hlt2; simp at hlt2
                    have hlL : st.l = L.drop a := by have h := HLL.out; rw [if_pos he] at h; exact h
                    refine ⟨_, L, a + n + 1, by have h := (HB.out.drewN q2).set 1 (.int .i64 ((a : Int) + (n : Int) + 1)); simpa using h, HS.out.tch hT (.inr (Nat.le_refl _)), by omega, ?_, HBI.out, HLEN.out⟩
                    show st.l.drop (n + 1) = if st.e = 0 then _ else _
                    rw [if_pos he, hlL, List.drop_drop, Nat.add_assoc]
            · have d5 : ((n : Int) == 9) = false := by simp; omega
              by_cases h0 : n = 0
              · have d8 : decide ((0 : Int) < (n : Int)) = false := by simp; omega
                have d9 : decide (0 < n) = false := by simp; omega
                clear h9 c1 c2 h0
                have t1 : (n : Int) < (st.l.length : Int) := by omega
                have t2 : n < st.l.length := by omega
                have t3 : (0 : Int) ≤ (a : Int) + (n : Int) := by omega
                have t4 : (a : Int) + (n : Int) < (L.length : Int) := by omega
                have t5 : ((a : Int) + (n : Int)).toNat = a + n := by omega
                have t6 : IntKind.i64.wrap ((a : Int) + (n : Int)) = (a : Int) + (n : Int) := IntWalk.i64_in _ (by have := HLEN.out; omega)
                go_wp2
                go_quiet ((go_at_call 54; refine quiet_of2 (HLF.out _ (H.out.drewN _))))
                go_wp2_with (go_at_call 54; refine (HLF.out _ (H.out.drewN _)).mono ?_; rintro e w1 ⟨rfl, q1, rfl⟩)
                go_quiet (fail)
                clear t1 t2 t3 t4 t5 t6 d3 d5 d6 d8 d9
                go_wp2
                go_loopw [6, 7] (fun v i wr => U2 st.l n w v i wr) (fun _ i _ => (intOf i + 1).toNat)
                case atStart => exact ⟨n + 1, _, Nat.le_refl _, by congr 1; omega, by rw [List.drop_eq_nil_of_le (by simp; omega)]; rfl, by first | rfl | rw [World.drewN_drewN]⟩
                case round =>
                  obtain ⟨j, q2, hj, rfl, rfl, rfl⟩ := hrel
                  cases j with
                  | succ k =>
                    obtain ⟨hak, bk, ok, hab, hxk, hk0, hk1⟩ := HCX.out k (by omega)
                    simp only [Option.some.injEq, Addr.mk.injEq, and_true] at hab
                    obtain ⟨rfl, rfl⟩ := hab
                    have e : (((k + 1 : Nat) : Int) - 1) = (k : Int) := by omega
                    rw [e]
                    clear e
                    have hd : (st.l.take (n + 1)).drop k = st.l.getD k 0 :: (st.l.take (n + 1)).drop (k + 1) := by
                      have h1 : k < (st.l.take (n + 1)).length := by simp; omega
                      rw [List.drop_eq_getElem_cons h1]
                      congr 1
                      have h2 : k < st.l.length := by omega
                      simp [List.getD, List.getElem?_eq_getElem h2]
                    have hle := valL_drop_le k (st.l.take (n + 1))
                    have hM := HVM.out
                    generalize st.l.getD k 0 = z at *
                    have HN : Hid ((valL ((st.l.take (n + 1)).drop k) : Int) = 128 * (valL ((st.l.take (n + 1)).drop (k + 1)) : Int) + z % 128) := Hid.mk' (by rw [hd, valL]; push_cast; omega)
                    have hbd : 128 * (valL ((st.l.take (n + 1)).drop (k + 1)) : Int) + z % 128 < 18446744073709551616 := by rw [← HN.out]; omega
                    generalize valL ((st.l.take (n + 1)).drop (k + 1)) = vv at *
                    clear hle hM hd
                    have s3 : (0 : Int) ≤ (a : Int) + (k : Int) := by omega
                    have s4 : (a : Int) + (k : Int) < (L.length : Int) := by omega
                    have s7 : (128 : Int) * (vv : Int) < 18446744073709551616 := by omega
                    have s8 : IntKind.u64.wrap (128 * (vv : Int)) = 128 * (vv : Int) := by rw [u64_wrap']; omega
                    have s9 : IntKind.u64.wrap (128 * (vv : Int) + z % 128) = 128 * (vv : Int) + z % 128 := by rw [u64_wrap']; omega
                    have s5 : ((a : Int) + (k : Int)).toNat = a + k := by omega
                    have s6 : IntKind.i64.wrap ((a : Int) + (k : Int)) = (a : Int) + (k : Int) := IntWalk.i64_in _ (by have := HLEN.out; omega)
                    go_wp2
                    go_quiet (fail)
                    clear s3 s4 s5 s6 s7 s8 s9
                    go_wp2
                    go_roundw
                    case rel => exact ⟨k, q2 + nq, by omega, by first | rfl | (congr 1; omega), by rw [HN.out], by first | rfl | rw [World.drewN_drewN]⟩
                    case measure => simp [intOf]
                  | zero =>
                    have e : (((0 : Nat) : Int) - 1) = -1 := by omega
                    rw [e]
                    clear e
                    simp only [List.drop_zero]
                    have hM := HVM.out
                    generalize valL (st.l.take (n + 1)) = vv at *
                    have hb1 : (a : Int) + (n : Int) + 1 ≤ 2000000 := by have := HLEN.out; omega
                    by_cases hgt : m < vv
                    · have hE : Hid (uintR m st = (0, giveS st 4)) := Hid.mk' (by unfold uintR; simp only [HDG.out]; rw [if_neg (by simp), if_pos hgt])
                      have HG := Hid.mk' (fun w h => fgive_any g d st 4 w h (by decide))
                      have hgt' : (m : Int) < (vv : Int) := by omega
                      go_wp2_with (go_at_call 89; refine (HG.out _ ((H.out.drewN _))).mono ?_; rintro e w2 ⟨rfl, hr, ht⟩; have HR := Hid.mk' hr; have HT := Hid.mk' ht; clear hr ht)
                      go_ret
                      exact ⟨by rw [hE.out]; rfl, by rw [hE.out]; exact HR.out, (Tch.of_ext ((Ext.refl w).drewN _)).trans HT.out⟩
                    · have hE : Hid (uintR m st = (vv, ⟨st.l.drop (n + 1), st.e⟩)) := Hid.mk' (by unfold uintR; simp only [HDG.out]; rw [if_neg (by simp), if_neg hgt])
                      have hgt' : (vv : Int) ≤ (m : Int) := by omega
                      go_wp2
                      go_ret
                      have hT : Tch g w ((w.drewN q2).setCell ⟨g, 1, none⟩ (.int .i64 ((a : Int) + (n : Int) + 1))) := (Tch.of_ext ((Ext.refl w).drewN q2)).trans ((Tch.refl g _).set 1 _)
                      refine ⟨by rw [hE.out]; rfl, ?_, hT⟩
                      rw [hE.out]
                      have he : st.e = 0 := Classical.byContradiction fun he => by have h := HLL.out; rw [if_neg he] at h; rw [h] at hlt2; simp at hlt2
                      have hlL : st.l = L.drop a := by have h := HLL.out; rw [if_pos he] at h; exact h
                      refine ⟨_, L, a + n + 1, by have h := (HB.out.drewN q2).set 1 (.int .i64 ((a : Int) + (n : Int) + 1)); simpa using h, HS.out.tch hT (.inr (Nat.le_refl _)), by omega, ?_, HBI.out, HLEN.out⟩
                      show st.l.drop (n + 1) = if st.e = 0 then _ else _
                      rw [if_pos he, hlL, List.drop_drop, Nat.add_assoc]
              · have hx3 : (x == 0) = false := by simp; omega
                have hn1' : (0 : Int) < (n : Int) := by omega
                have hn0n : 0 < n := by omega
                clear h9 c1 c2 h0
                have t1 : (n : Int) < (st.l.length : Int) := by omega
                have t2 : n < st.l.length := by omega
                have t3 : (0 : Int) ≤ (a : Int) + (n : Int) := by omega
                have t4 : (a : Int) + (n : Int) < (L.length : Int) := by omega
                have t5 : ((a : Int) + (n : Int)).toNat = a + n := by omega
                have t6 : IntKind.i64.wrap ((a : Int) + (n : Int)) = (a : Int) + (n : Int) := IntWalk.i64_in _ (by have := HLEN.out; omega)
                go_wp2
                go_quiet ((go_at_call 54; refine quiet_of2 (HLF.out _ (H.out.drewN _))))
                go_wp2_with (go_at_call 54; refine (HLF.out _ (H.out.drewN _)).mono ?_; rintro e w1 ⟨rfl, q1, rfl⟩)
                go_quiet (fail)
                clear t1 t2 t3 t4 t5 t6 d3 d5 d6 hx3
                go_wp2
                go_loopw [6, 7] (fun v i wr => U2 st.l n w v i wr) (fun _ i _ => (intOf i + 1).toNat)
                case atStart => exact ⟨n + 1, _, Nat.le_refl _, by congr 1; omega, by rw [List.drop_eq_nil_of_le (by simp; omega)]; rfl, by first | rfl | rw [World.drewN_drewN]⟩
                case round =>
                  obtain ⟨j, q2, hj, rfl, rfl, rfl⟩ := hrel
                  cases j with
                  | succ k =>
                    obtain ⟨hak, bk, ok, hab, hxk, hk0, hk1⟩ := HCX.out k (by omega)
                    simp only [Option.some.injEq, Addr.mk.injEq, and_true] at hab
                    obtain ⟨rfl, rfl⟩ := hab
                    have e : (((k + 1 : Nat) : Int) - 1) = (k : Int) := by omega
                    rw [e]
                    clear e
                    have hd : (st.l.take (n + 1)).drop k = st.l.getD k 0 :: (st.l.take (n + 1)).drop (k + 1) := by
                      have h1 : k < (st.l.take (n + 1)).length := by simp; omega
                      rw [List.drop_eq_getElem_cons h1]
                      congr 1
                      have h2 : k < st.l.length := by omega
                      simp [List.getD, List.getElem?_eq_getElem h2]
                    have hle := valL_drop_le k (st.l.take (n + 1))
                    have hM := HVM.out
                    generalize st.l.getD k 0 = z at *
                    have HN : Hid ((valL ((st.l.take (n + 1)).drop k) : Int) = 128 * (valL ((st.l.take (n + 1)).drop (k + 1)) : Int) + z % 128) := Hid.mk' (by rw [hd, valL]; push_cast; omega)
                    have hbd : 128 * (valL ((st.l.take (n + 1)).drop (k + 1)) : Int) + z % 128 < 18446744073709551616 := by rw [← HN.out]; omega
                    generalize valL ((st.l.take (n + 1)).drop (k + 1)) = vv at *
                    clear hle hM hd
                    have s3 : (0 : Int) ≤ (a : Int) + (k : Int) := by omega
                    have s4 : (a : Int) + (k : Int) < (L.length : Int) := by omega
                    have s7 : (128 : Int) * (vv : Int) < 18446744073709551616 := by omega
                    have s8 : IntKind.u64.wrap (128 * (vv : Int)) = 128 * (vv : Int) := by rw [u64_wrap']; omega
                    have s9 : IntKind.u64.wrap (128 * (vv : Int) + z % 128) = 128 * (vv : Int) + z % 128 := by rw [u64_wrap']; omega
                    have s5 : ((a : Int) + (k : Int)).toNat = a + k := by omega
                    have s6 : IntKind.i64.wrap ((a : Int) + (k : Int)) = (a : Int) + (k : Int) := IntWalk.i64_in _ (by have := HLEN.out; omega)
                    go_wp2
                    go_quiet (fail)
                    clear s3 s4 s5 s6 s7 s8 s9
                    go_wp2
                    go_roundw
                    case rel => exact ⟨k, q2 + nq, by omega, by first | rfl | (congr 1; omega), by rw [HN.out], by first | rfl | rw [World.drewN_drewN]⟩
                    case measure => simp [intOf]
                  | zero =>
                    have e : (((0 : Nat) : Int) - 1) = -1 := by omega
                    rw [e]
                    clear e
                    simp only [List.drop_zero]
                    have hM := HVM.out
                    generalize valL (st.l.take (n + 1)) = vv at *
                    have hb1 : (a : Int) + (n : Int) + 1 ≤ 2000000 := by have := HLEN.out; omega
                    by_cases hgt : m < vv
                    · have hE : Hid (uintR m st = (0, giveS st 4)) := Hid.mk' (by unfold uintR; simp only [HDG.out]; rw [if_neg (by simp), if_pos hgt])
                      have HG := Hid.mk' (fun w h => fgive_any g d st 4 w h (by decide))
                      have hgt' : (m : Int) < (vv : Int) := by omega
                      go_wp2_with (go_at_call 89; refine (HG.out _ ((H.out.drewN _))).mono ?_; rintro e w2 ⟨rfl, hr, ht⟩; have HR := Hid.mk' hr; have HT := Hid.mk' ht; clear hr ht)
                      go_ret
                      exact ⟨by rw [hE.out]; rfl, by rw [hE.out]; exact HR.out, (Tch.of_ext ((Ext.refl w).drewN _)).trans HT.out⟩
                    · have hE : Hid (uintR m st = (vv, ⟨st.l.drop (n + 1), st.e⟩)) := Hid.mk' (by unfold uintR; simp only [HDG.out]; rw [if_neg (by simp), if_neg hgt])
                      have hgt' : (vv : Int) ≤ (m : Int) := by omega
                      go_wp2
                      go_ret
                      have hT : Tch g w ((w.drewN q2).setCell ⟨g, 1, none⟩ (.int .i64 ((a : Int) + (n : Int) + 1))) := (Tch.of_ext ((Ext.refl w).drewN q2)).trans ((Tch.refl g _).set 1 _)
                      refine ⟨by rw [hE.out]; rfl, ?_, hT⟩
                      rw [hE.out]
                      have he : st.e = 0 := Classical.byContradiction fun he => by have h := HLL.out; rw [if_neg he] at h; rw [h] at hlt2; simp at hlt2
                      have hlL : st.l = L.drop a := by have h := HLL.out; rw [if_pos he] at h; exact h
                      refine ⟨_, L, a + n + 1, by have h := (HB.out.drewN q2).set 1 (.int .i64 ((a : Int) + (n : Int) + 1)); simpa using h, HS.out.tch hT (.inr (Nat.le_refl _)), by omega, ?_, HBI.out, HLEN.out⟩
                      show st.l.drop (n + 1) = if st.e = 0 then _ else _
                      rw [if_pos he, hlL, List.drop_drop, Nat.add_assoc]
      · have hne : n = st.l.length := by omega
        have hE : Hid (uintR m st = (0, giveS st 1)) := Hid.mk' (by
          unfold uintR; simp only [digs_short st.l n hne hn9 HBB.out]; rfl)
        have HG := Hid.mk' (fun w h => fgive_any g d st 1 w h (by decide))
        have d2 : decide (n < st.l.length) = false := by simp; omega
        have d3 : ((n : Int) == 10) = false := by simp; omega
        have hge : (st.l.length : Int) ≤ (n : Int) := by omega
        have d4 : decide (st.l.length ≤ n) = true := by simp; omega
        clear hex hne hlt2 h10
        by_cases h9 : n = 9
        · have d5 : ((n : Int) == 9) = true := by simp; omega
          clear h9
          go_wp2
          go_quiet ((go_at_call 54; refine quiet_of2 (HLF.out _ (H.out.drewN _))))
          go_wp2_with (first
            | (go_at_call 54; refine (HLF.out _ (H.out.drewN _)).mono ?_; rintro e w1 ⟨rfl, q1, rfl⟩)
            | (go_at_call 89; refine (HG.out _ ((H.out.drewN _))).mono ?_; rintro e w2 ⟨rfl, hr, ht⟩; have HR := Hid.mk' hr; have HT := Hid.mk' ht; clear hr ht))
          go_ret
          exact ⟨by rw [hE.out]; rfl, by rw [hE.out]; exact HR.out, (Tch.of_ext ((Ext.refl w).drewN _)).trans HT.out⟩
        · have d5 : ((n : Int) == 9) = false := by simp; omega
          clear h9
          go_wp2
          go_quiet ((go_at_call 54; refine quiet_of2 (HLF.out _ (H.out.drewN _))))
          go_wp2_with (first
            | (go_at_call 54; refine (HLF.out _ (H.out.drewN _)).mono ?_; rintro e w1 ⟨rfl, q1, rfl⟩)
            | (go_at_call 89; refine (HG.out _ ((H.out.drewN _))).mono ?_; rintro e w2 ⟨rfl, hr, ht⟩; have HR := Hid.mk' hr; have HT := Hid.mk' ht; clear hr ht))
          go_ret
          exact ⟨by rw [hE.out]; rfl, by rw [hE.out]; exact HR.out, (Tch.of_ext ((Ext.refl w).drewN _)).trans HT.out⟩

end Go.Proofs.Ytdbepkfblfhlhaa

/-
The reference's reader: numbers with a sign, texts, bytes, words.
-/
namespace Go.Proofs.Ytdbepkfblfhlhaa
open Go.RowKit

set_option maxRecDepth 100000 in set_option maxHeartbeats 1600000 in
theorem zag_any (n : Nat) (w : World) (hn : n < 2 ^ 64) :
    Calls Try.prog 171 #[.int .u64 n] w fun e w' => e = .returned (.int .i64 (zag n)) ∧ w = w' := by
  by_cases h : n % 2 = 1
  · have HZ : Hid (zag n = -((n : Int) / 2) - 1) := Hid.mk' (by unfold zag; rw [if_pos h]; omega)
    have h1 : (n : Int) % 2 = 1 := by omega
    go_enter Try.func171, Try.ntmps171
    go_wp2
    go_ret
    exact ⟨ret_int (by rw [HZ.out]), rfl⟩
  · have HZ : Hid (zag n = (n : Int) / 2) := Hid.mk' (by unfold zag; rw [if_neg h]; omega)
    have h1 : (n : Int) % 2 = 0 := by omega
    go_enter Try.func171, Try.ntmps171
    go_wp2
    go_ret
    exact ⟨ret_int (by rw [HZ.out]), rfl⟩

set_option maxRecDepth 100000 in set_option maxHeartbeats 1600000 in
theorem fint_any (g d : Nat) (st : RS) (w : World) (h : RF w g d st) :
    Calls Try.prog 167 #[.pointer (some ⟨g, 0, none⟩)] w (FPost g d w (.int .i64 (intR st).1) (intR st).2) := by
  have H := Hid.mk' h
  have HU := Hid.mk' (fun w h => fuint_any g d st 18446744073709551615 w h (by omega))
  have hle := uintR_le (st := st) 18446744073709551615
  unfold intR
  simp only
  generalize uintR 18446744073709551615 st = U at *
  obtain ⟨n, st1⟩ := U
  simp only at *
  have HL : Hid (n < 2 ^ 64) := Hid.mk' (by omega)
  clear h
  go_enter Try.func167, Try.ntmps167
  go_wp2_with (first
    | (go_at_call 159; refine (HU.out _ H.out).mono ?_; rintro e w1 ⟨rfl, hr, ht⟩; have HR := Hid.mk' hr; have HT := Hid.mk' ht; clear hr ht)
    | (go_at_call 171; refine (zag_any n _ HL.out).mono ?_; rintro e w2 ⟨rfl, rfl⟩))
  go_ret
  exact ⟨rfl, HR.out, HT.out⟩

set_option maxRecDepth 100000 in set_option maxHeartbeats 1600000 in
theorem ftext_any (g d : Nat) (st : RS) (m : Nat) (w : World) (h : RF w g d st) (hm : m ≤ 1000000) :
    Calls Try.prog 158 #[.pointer (some ⟨g, 0, none⟩), .int .i64 m] w (FPost g d w (.string (strOfNums (textR m st).1)) (textR m st).2) := by
  have H := Hid.mk' h
  have HU := Hid.mk' (fun w h => fuint_any g d st m w h (by omega))
  have hle := uintR_le (st := st) m
  unfold textR
  simp only
  generalize uintR m st = U at *
  obtain ⟨n, st1⟩ := U
  simp only at *
  have HB := Hid.mk' (fun w h => fbytes_any g d st1 n w h (by omega))
  have hm0 : (0 : Int) ≤ (m : Int) := by omega
  clear h
  go_enter Try.func158, Try.ntmps158
  go_wp2_with (first
    | (go_at_call 159; refine (HU.out _ H.out).mono ?_; rintro e w1 ⟨rfl, hr, ht⟩; have HR := Hid.mk' hr; have HT := Hid.mk' ht; clear hr ht)
    | (go_at_call 90; refine (HB.out _ HR.out).mono ?_; rintro e w2 ⟨rfl, hr2, ht2⟩; have HR2 := Hid.mk' hr2; have HT2 := Hid.mk' ht2; clear hr2 ht2))
  go_ret
  exact ⟨rfl, HR2.out, HT.out.trans HT2.out⟩

theorem strOf_get {l : List Int} (hb : isB l) {k : Nat} (hk : k < (strOfNums l).size) : ((strOfNums l)[k].toNat : Int) = l.getD k 0 := by
  have hk2 : k < l.length := by rwa [strOfNums_size] at hk
  have h : (strOfNums l)[k] = UInt8.ofNat (l[k]).toNat := by
    show (strOfNums l).data[k] = _
    simp [strOfNums]
  rw [h]
  have := hb l[k] (List.getElem_mem hk2)
  simp only [UInt8.toNat_ofNat', List.getD, List.getElem?_eq_getElem hk2, Option.getD_some]
  omega

set_option maxRecDepth 100000 in set_option maxHeartbeats 1600000 in
theorem fbyte_any (g d : Nat) (st : RS) (w : World) (h : RF w g d st) :
    Calls Try.prog 155 #[.pointer (some ⟨g, 0, none⟩)] w (FPost g d w (.int .u8 (byteR st).1) (byteR st).2) := by
  have H := Hid.mk' h
  have hok := h.ok
  have HB := Hid.mk' (fun w h => fbytes_any g d st 1 w h (by omega))
  have hib := bytesR_isB hok 1
  have hln : (bytesR 1 st).1.length ≤ 1 := by unfold bytesR; split <;> simp; omega
  unfold byteR
  simp only
  generalize bytesR 1 st = U at *
  obtain ⟨L, st1⟩ := U
  simp only at *
  clear h hok
  cases L with
  | nil =>
    have e : strOfNums [] = ByteArray.empty := rfl
    rw [e] at HB
    clear e
    go_enter Try.func155, Try.ntmps155
    go_wp2_with (go_at_call 90; refine (HB.out _ H.out).mono ?_; rintro e w2 ⟨rfl, hr2, ht2⟩; have HR2 := Hid.mk' hr2; have HT2 := Hid.mk' ht2; clear hr2 ht2)
    go_ret
    exact ⟨rfl, HR2.out, HT2.out⟩
  | cons x L =>
    have hL : L = [] := by cases L with | nil => rfl | cons y L => simp at hln
    subst hL
    have h0 := hib.head
    obtain ⟨s, hs⟩ : ∃ s, s = strOfNums [x] := ⟨_, rfl⟩
    have h1 : s.size = 1 := by rw [hs, strOfNums_size]; rfl
    have h2 : (s[0].toNat : Int) = x := by
      have hh : ∀ (t : ByteArray) (h : 0 < t.size), t = strOfNums [x] → (t[0].toNat : Int) = x := by
        rintro t h rfl; exact strOf_get hib h
      exact hh s (by omega) hs
    have h3 : s.toList ≠ [] := by
      intro h
      have : s.data.toList = [] := by rw [← ByteArray.toList_eq]; exact h
      have h4 : s.data.toList.length = s.size := by simp
      rw [this] at h4; simp at h4; omega
    rw [← hs] at HB
    clear hs hib hln
    have h5 : s.toList.isEmpty = false := by cases h : s.toList with | nil => exact absurd h h3 | cons a b => rfl
    have h6 : (s.toList == []) = false := by cases h : s.toList with | nil => exact absurd h h3 | cons a b => rfl
    clear h3
    go_enter Try.func155, Try.ntmps155
    go_wp2_with (go_at_call 90; refine (HB.out _ H.out).mono ?_; rintro e w2 ⟨rfl, hr2, ht2⟩; have HR2 := Hid.mk' hr2; have HT2 := Hid.mk' ht2; clear hr2 ht2)
    go_ret
    exact ⟨ret_int (by first | exact h2 | simp | rfl), HR2.out, HT2.out⟩

end Go.Proofs.Ytdbepkfblfhlhaa

/-
The reference's reader: words; floats and parts.
-/
namespace Go.Proofs.Ytdbepkfblfhlhaa
open Go.RowKit

theorem ofBytes_drop_le : ∀ (k : Nat) (l : List Int), ofBytes (l.drop k) ≤ ofBytes l := by
  intro k
  induction k with
  | zero => intro l; simp
  | succ k ih =>
    intro l
    cases l with
    | nil => simp
    | cons x l => rw [List.drop_succ_cons, ofBytes]; have := ih l; omega

set_option maxRecDepth 100000 in set_option maxHeartbeats 1600000 in
theorem fword_any (g d : Nat) (st : RS) (w : World) (h : RF w g d st) :
    Calls Try.prog 166 #[.pointer (some ⟨g, 0, none⟩)] w (FPost g d w (.int .u64 (wordR st).1) (wordR st).2) := by
  have H := Hid.mk' h
  have hok := h.ok
  have HB := Hid.mk' (fun w h => fbytes_any g d st 8 w h (by omega))
  have hib := bytesR_isB hok 8
  have hln : (bytesR 8 st).1.length ≤ 8 := by unfold bytesR; split <;> simp <;> omega
  have hlt := ofBytes_lt64 hib hln
  unfold wordR
  simp only
  generalize bytesR 8 st = U at *
  obtain ⟨L, st1⟩ := U
  simp only at *
  obtain ⟨s, hs⟩ : ∃ s, s = strOfNums L := ⟨_, rfl⟩
  have hsz : s.size = L.length := by rw [hs, strOfNums_size]
  have HG : Hid (∀ (k : Nat) (h : k < s.size), (s[k].toNat : Int) = L.getD k 0) := Hid.mk' (by subst hs; exact fun k h => strOf_get hib h)
  rw [← hs] at HB
  have HSZ := Hid.mk' hsz
  have HIB := Hid.mk' hib
  have hs8 : s.size ≤ 8 := by omega
  have HLT := Hid.mk' hlt
  clear h hok hs hib hsz hlt
  go_enter Try.func166, Try.ntmps166
  go_wp2_with (go_at_call 90; refine (HB.out _ H.out).mono ?_; rintro e w2 ⟨rfl, hr2, ht2⟩; have HR2 := Hid.mk' hr2; have HT2 := Hid.mk' ht2; clear hr2 ht2)
  go_loop [4, 5] (fun v i => ∃ j : Nat, j ≤ s.size ∧ i = .int .i64 ((j : Int) - 1) ∧ v = .int .u64 (ofBytes (L.drop j))) (fun _ i => (intOf i + 1).toNat)
  case atStart => exact ⟨s.size, Nat.le_refl _, rfl, by rw [HSZ.out, List.drop_length]; rfl⟩
  case round =>
    obtain ⟨j, hj, rfl, rfl⟩ := hrel
    cases j with
    | succ k =>
      have e : (((k + 1 : Nat) : Int) - 1) = (k : Int) := by omega
      rw [e]
      clear e
      have hks : k < s.size := by omega
      have hkl : k < L.length := by rw [← HSZ.out]; exact hks
      have hx := HG.out k hks
      have hx0 := HIB.out (L.getD k 0) (by rw [List.getD_eq_getElem?_getD, List.getElem?_eq_getElem hkl]; exact List.getElem_mem hkl)
      have hd : L.drop k = L.getD k 0 :: L.drop (k + 1) := by
        rw [List.drop_eq_getElem_cons hkl]; simp [List.getD, List.getElem?_eq_getElem hkl]
      have hle := ofBytes_drop_le k L
      have hM := HLT.out
      have HN : Hid ((ofBytes (L.drop k) : Int) = 256 * (ofBytes (L.drop (k + 1)) : Int) + (s[k].toNat : Int)) := Hid.mk' (by rw [hx, hd, ofBytes]; push_cast; omega)
      have hbd : 256 * (ofBytes (L.drop (k + 1)) : Int) + (s[k].toNat : Int) < 18446744073709551616 := by rw [← HN.out]; omega
      clear hx hx0 hd hle hM hkl
      generalize ofBytes (L.drop (k + 1)) = vv at *
      have hb0 : (s[k].toNat : Int) < 256 := by have := s[k].toNat_lt; omega
      go_wp2
      go_round
      case rel => exact ⟨k, by omega, rfl, by rw [HN.out]⟩
      case measure => simp [intOf]
    | zero =>
      have e : (((0 : Nat) : Int) - 1) = -1 := by omega
      rw [e]
      clear e
      simp only [List.drop_zero]
      go_wp2
      go_ret
      exact ⟨rfl, HR2.out, HT2.out⟩

set_option maxRecDepth 100000 in set_option maxHeartbeats 1600000 in
theorem ftf_any (g d : Nat) (st : RS) (ver : Int) (w : World) (h : RF w g d st) :
    Calls Try.prog 168 #[.pointer (some ⟨g, 0, none⟩), .int .u8 ver] w (FPost g d w (.int .u64 (floatR ver st).1) (floatR ver st).2) := by
  have H := Hid.mk' h
  by_cases h1 : ver = 1
  · have HW := Hid.mk' (fun w h => fword_any g d st w h)
    subst h1
    unfold floatR
    rw [if_pos rfl]
    clear h
    go_enter Try.func168, Try.ntmps168
    go_wp2_with (go_at_call 166; refine (HW.out _ H.out).mono ?_; rintro e w1 ⟨rfl, hr, ht⟩; have HR := Hid.mk' hr; have HT := Hid.mk' ht; clear hr ht)
    go_ret
    exact ⟨rfl, HR.out, HT.out⟩
  · have HU := Hid.mk' (fun w h => fuint_any g d st 18446744073709551615 w h (by omega))
    have hle := uintR_le (st := st) 18446744073709551615
    unfold floatR
    rw [if_neg h1]
    simp only
    generalize uintR 18446744073709551615 st = U at *
    obtain ⟨n, st1⟩ := U
    simp only at *
    have HL : Hid (n < 2 ^ 64) := Hid.mk' (by omega)
    clear h
    go_enter Try.func168, Try.ntmps168
    go_wp2_with (first
      | (go_at_call 159; refine (HU.out _ H.out).mono ?_; rintro e w1 ⟨rfl, hr, ht⟩; have HR := Hid.mk' hr; have HT := Hid.mk' ht; clear hr ht)
      | (go_at_call 164; refine (rturned_any n _ HL.out).mono ?_; rintro e w2 ⟨rfl, hb2⟩; have HR2 := Hid.mk' (HR.out.ext hb2); have HT2 := Hid.mk' (HT.out.trans (Tch.of_ext hb2)); clear hb2))
    go_ret
    exact ⟨rfl, HR2.out, HT2.out⟩

set_option maxRecDepth 100000 in set_option maxHeartbeats 1600000 in
theorem fpart_any (g d : Nat) (st : RS) (t : Bool) (w : World) (h : RF w g d st) :
    Calls Try.prog 169 #[.pointer (some ⟨g, 0, none⟩), .bool t] w (FPost g d w (.int .u64 (partR t st).1) (partR t st).2) := by
  have H := Hid.mk' h
  clear h
  cases t with
  | false =>
    go_enter Try.func169, Try.ntmps169
    go_wp2
    go_ret
    exact ⟨rfl, H.out, Tch.refl g w⟩
  | true =>
    have HF := Hid.mk' (fun w h => ftf_any g d st 2 w h)
    unfold partR
    rw [if_pos rfl]
    simp only
    generalize floatR 2 st = U at *
    obtain ⟨x, st1⟩ := U
    simp only at *
    have HG := Hid.mk' (fun w h => fgive_any g d st1 3 w h (by decide))
    by_cases x0 : x = 0
    · subst x0
      go_enter Try.func169, Try.ntmps169
      go_wp2_with (first
        | (go_at_call 168; refine (HF.out _ H.out).mono ?_; rintro e w1 ⟨rfl, hr, ht⟩; have HR := Hid.mk' hr; have HT := Hid.mk' ht; clear hr ht)
        | (go_at_call 89; refine (HG.out _ HR.out).mono ?_; rintro e w2 ⟨rfl, hr2, ht2⟩; have HR2 := Hid.mk' hr2; have HT2 := Hid.mk' ht2; clear hr2 ht2))
      go_ret
      exact ⟨rfl, HR2.out, HT.out.trans HT2.out⟩
    · have x1 : ((x : Int) == 0) = false := by simpa using x0
      have X0 := Hid.mk' x0
      clear x0
      go_enter Try.func169, Try.ntmps169
      go_wp2_with (first
        | (go_at_call 168; refine (HF.out _ H.out).mono ?_; rintro e w1 ⟨rfl, hr, ht⟩; have HR := Hid.mk' hr; have HT := Hid.mk' ht; clear hr ht))
      go_ret
      exact ⟨rfl, by first | exact HR.out | (rw [if_neg X0.out]; exact HR.out), HT.out⟩

end Go.Proofs.Ytdbepkfblfhlhaa
