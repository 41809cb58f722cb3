import Derived.RangeFuncBox
import Derived.Test.YthdjinicmnhgpaaGreatP6

/-
A catalog of relations: the program's New, Of, Len, Get; the laws' Own of relations, Ref.
-/
namespace Go.Proofs.YthdjinicmnhgpaaGreat
open Go.RowKit

theorem Ca.new (w : World) : Ca (w.alloc (.cells #[.slice none 0 0] 103)) w.heap.size w.heap.size (.slice none 0 0) [] :=
  ⟨Blk.new _ _ _, World.ownsRow_nil _ _ _ _, Nat.le_refl _, (by intro h; cases h), (fun p h => by cases h), (fun p h => by cases h), CatOk.nil, (fun p h => by cases h)⟩

set_option maxRecDepth 20000 in set_option maxHeartbeats 400000 in
theorem new_any (w : World) : Calls Tryz.prog 19 #[] w fun e w' => e = .returned (.pointer (some ⟨w.heap.size, 0, none⟩)) ∧ w' = w.alloc (.cells #[.slice none 0 0] 103) := by
  go_enter Tryz.func19, Tryz.ntmps19
  go_wp2
  go_ret
  exact ⟨rfl, rfl⟩

set_option maxRecDepth 20000 in set_option maxHeartbeats 400000 in
theorem ref9_any (o v : Int) (w : World) : Calls Tryz.prog 15 #[.agg #[.int .u32 o, .int .u32 v]] w fun e w' => e = .returned (.agg #[.int .u32 o, .int .u32 v]) ∧ Ext w w' := by
  go_enter Tryz.func15, Tryz.ntmps15
  go_wp2
  simp [bodyPost, results, Tryz.results15, go_sem, *]
  (repeat (with_reducible (first | exact Ext.refl _ | assumption | exact held_left (by assumption) | apply Ext.drewN | apply Ext.drew | apply Ext.alloc | (refine Ext.setCell ?_ (by first | (simp; done) | (simp; omega) | omega) _) | (refine Ext.trans ?_ (by assumption)) | (refine Ext.trans ?_ (held_left (by assumption))))))

theorem own9_one (p : RR) (w : World) (hp : p.in w) (hn : p.r.cols.length ≤ 5864062014634) :
    Calls Tryz.prog 21 #[p.agg] w fun e w' => ∃ q : RR, e = .returned q.agg ∧ q.r = p.r ∧ q.r.cols.length ≤ q.c ∧ q.owned w.heap.size w' ∧ Ext w w' := by
  obtain ⟨⟨oid, ver, nm, id, cols⟩, a, cap⟩ := p
  refine (own8_big oid ver nm id cols a cap w hp hn).mono fun e w' h => ?_
  obtain ⟨a', c', h1, h2, h3, h4⟩ := h
  exact ⟨⟨⟨oid, ver, nm, id, cols⟩, a', c'⟩, h1, rfl, h2, h3, h4⟩

/-- Relations of the call's own, in a row of its own, all from N on. -/
structure OwnR (W : World) (N : Nat) (ps : List RR) (k : Nat) (v : Value) (qs : List RR) : Prop where
  own : W.ownsRow N 70 5 v k (qs.map RR.cells).flatten
  len : qs.length = k
  r : ∀ i (h : i < qs.length) (h2 : i < ps.length), qs[i].r = ps[i].r
  cap : ∀ q ∈ qs, q.r.cols.length ≤ q.c
  sl : ∀ q ∈ qs, q.owned N W
  ne : ∀ q ∈ qs, ∀ b o, q.a = some ⟨b, o, none⟩ → v.ownBlock ≠ some b
theorem OwnR.nil (W : World) (N : Nat) (ps : List RR) : OwnR W N ps 0 (.slice none 0 0) [] :=
  ⟨World.ownsRow_nil _ _ _ _, rfl, (fun i h => absurd h (Nat.not_lt_zero _)), (fun q h => by cases h), (fun q h => by cases h), (fun q h => by cases h)⟩
theorem OwnR.ext {W W' : World} {N k : Nat} {ps qs : List RR} {v : Value} (h : OwnR W N ps k v qs) (he : Ext W W') : OwnR W' N ps k v qs :=
  ⟨owns_ext h.own he, h.len, h.r, h.cap, fun q hq => (h.sl q hq).ext he, h.ne⟩
theorem OwnR.push {W W' : World} {N k : Nat} {ps qs : List RR} {v v' : Value} {q : RR} (h : OwnR W N ps k v qs) (hk : k < ps.length) (hr : q.r = ps[k].r) (hc : q.r.cols.length ≤ q.c) (hs : q.owned N W) (hn : ∀ b o, q.a = some ⟨b, o, none⟩ → v.ownBlock ≠ some b)
    (hg : W.grownBy W' v.ownBlock) (hat : v'.ownBlock = v.ownBlock ∨ v'.ownBlock = some W.heap.size) (ho : W'.ownsRow N 70 5 v' (k + 1) ((qs.map RR.cells).flatten ++ q.cells)) : OwnR W' N ps (k + 1) v' (qs ++ [q]) := by
  have hall : ∀ x ∈ qs ++ [q], x.r.cols.length ≤ x.c ∧ x.owned N W ∧ ∀ b o, x.a = some ⟨b, o, none⟩ → v.ownBlock ≠ some b := fun x hx => by
    rcases List.mem_append.1 hx with hx | hx
    · exact ⟨h.cap x hx, h.sl x hx, h.ne x hx⟩
    · obtain rfl : x = q := by simpa using hx
      exact ⟨hc, hs, hn⟩
  have hk1 : Kp (fun k => v.ownBlock = some k) W W' := Kp.of_grown hg
  refine ⟨by simpa using ho, by rw [List.length_append, h.len]; rfl, fun i h1 h2 => ?_, fun x hx => (hall x hx).1, fun x hx => ?_, fun x hx b o e => ?_⟩
  · by_cases hi : i < qs.length
    · rw [List.getElem_append_left hi]; exact h.r i hi h2
    · have hql := h.len
      rw [List.length_append, List.length_singleton] at h1
      obtain rfl : i = k := by omega
      rw [List.getElem_append_right (by omega)]
      simpa using hr
  · obtain ⟨-, h2, h3⟩ := hall x hx
    refine owns_kp h2 hk1 (fun b hb => ?_)
    obtain ⟨xr, xa, xc⟩ := x
    cases xa with
    | none => cases hb
    | some ad =>
      obtain ⟨b', o', sp⟩ := ad
      have hb' : b' = b := by simpa [Value.ownBlock] using hb
      subst hb'
      rcases h2.2 with ⟨hv, -⟩ | ⟨g, cap, cur, hv, -⟩
      · cases hv
      · simp only [Value.slice.injEq, Option.some.injEq, Addr.mk.injEq] at hv
        obtain ⟨⟨rfl, rfl, rfl⟩, -⟩ := hv
        exact h3 _ _ rfl
  · obtain ⟨-, h2, h3⟩ := hall x hx
    rcases hat with h4 | h4
    · rw [h4]; exact h3 b o e
    · rw [h4]; intro h5; injection h5 with h5
      have := (h2.at_ e).2; omega
theorem OwnR.rl {W : World} {N : Nat} {ps qs : List RR} {v : Value} (h : OwnR W N ps ps.length v qs) : RL W v qs := ⟨Sl.of_owns (base := N) (e := 70) (by rw [List.length_map, h.len]; exact h.own) (RR.len qs), fun q hq => (h.sl q hq).in⟩
theorem OwnR.rs {W : World} {N : Nat} {ps qs : List RR} {v : Value} (h : OwnR W N ps ps.length v qs) : qs.map RR.r = ps.map RR.r := by
  apply List.ext_getElem
  · rw [List.length_map, List.length_map, h.len]
  · intro i h1 h2
    rw [List.getElem_map, List.getElem_map]
    rw [List.length_map] at h1 h2
    exact h.r i h1 h2
theorem OwnR.wb {W : World} {N : Nat} {ps qs : List RR} {v : Value} (h : OwnR W N ps ps.length v qs) (hw : ∀ p ∈ ps, p.r.wb) : ∀ q ∈ qs, q.r.wb := fun q hq => by
  obtain ⟨i, hi, rfl⟩ := List.getElem_of_mem hq
  rw [h.r i hi (by rw [← h.len]; exact hi)]
  exact hw _ (List.getElem_mem _)

set_option maxRecDepth 100000 in set_option maxHeartbeats 4000000 in
theorem own9_any (ps : List RR) (a : Option Addr) (cap : Nat) (w : World) (hl : RL w (.slice a ps.length cap) ps) (hlen : ps.length ≤ 1000) (hb : ∀ p ∈ ps, p.r.wb) :
    Calls Tryz.prog 7 #[.slice a ps.length cap] w fun e w' => ∃ a' c' qs, e = .returned (.slice a' ps.length c') ∧ OwnR w' w.heap.size ps ps.length (.slice a' ps.length c') qs ∧ Ext w w' := by
  obtain ⟨i0, hi, hz0, hz1, hz2⟩ := info_parts Tryz.infoRel
  have HL := Hid.mk' hl
  have HB := Hid.mk' hb
  clear hl hb
  go_enter Tryz.func7, Tryz.ntmps7
  go_wp2
  go_loopw [3, 4] (fun v i wr => ∃ (k : Nat) (qs : List RR), k ≤ ps.length ∧ i = .int .i64 k ∧ Hid (OwnR wr w.heap.size ps k v qs) ∧ Hid (Ext w wr)) (fun _ i _ => ps.length - (intOf i).toNat)
  case atStart => exact ⟨0, [], Nat.zero_le _, rfl, Hid.mk' (OwnR.nil _ _ _), Hid.mk' (Ext.refl _)⟩
  case round =>
    obtain ⟨k, qs, hk, rfl, hown, hE⟩ := hrel
    by_cases hlt : k < ps.length
    · obtain ⟨b, o, rfl, hb, hx⟩ := HL.out.row.at_ (i := k) (by simpa using hlt)
      obtain ⟨f0, f1, f2, f3, f4⟩ := RR.at_ hlt hx hb hE.out
      have hbw : b < wr.heap.size := Nat.lt_of_lt_of_le hb hE.out.size
      have HO := Hid.mk' (fun W (h : Ext wr W) => own9_one ps[k] W ((HL.out.sl _ (List.getElem_mem hlt)).ext (hE.out.trans h)) (HB.out _ (List.getElem_mem hlt)).n)
      obtain ⟨p, hp⟩ : ∃ p, p = ps[k] := ⟨_, rfl⟩
      rw [← hp] at f0 f1 f2 f3 f4 HO
      unfold RR.agg at HO
      have HP := Hid.mk' hp
      have hwz := hE.out.size
      clear hx hp
      go_wp2_with (first
        | (go_at_call 21; refine (HO.out _ (Ext.refl _)).mono ?_; rintro e w1 ⟨⟨r', a', c'⟩, rfl, hr, hcp, ho, hb1⟩; simp only at hr; subst hr; have HQ := Hid.mk' ho; have HCP := Hid.mk' hcp; have HB1 := Hid.mk' hb1; have hz1' := hb1.size; clear ho hcp hb1; try simp only)
        | (at_builtin; refine wpList_append_own_at _ rfl _ _ 31 rfl w.heap.size 70 i0 _ 5 56 Tryz.underlying31 hi hz0 hz1 hz2 rfl (by decide) _ _ _ rfl (owns_ext hown.out.own (HB1.out.alloc _)) ⟨_, 0, none⟩ 1 1 (RR.cells ⟨p.r, a', c'⟩) rfl rfl (cells_new _ #[.int .u32 p.r.oid, .int .u32 p.r.ver, .string p.r.nm, .int .u8 p.r.id, .slice a' p.r.cols.length c'] _) (by intro u hu; simp [RR.cells] at hu; rcases hu with rfl | rfl | rfl | rfl | rfl <;> rfl) (by unfold maxLen; omega) (by omega) (by simp; omega) ?_))
      intro v' w2 hown' hgrow _ hat
      have HE2 := Hid.mk' ((hE.out.trans HB1.out).alloc (.cells #[.int .u32 p.r.oid, .int .u32 p.r.ver, .string p.r.nm, .int .u8 p.r.id, .slice a' p.r.cols.length c'] 70) |>.grown (owns_ext hown.out.own (HB1.out.alloc _)) hgrow)
      have HN := Hid.mk' ((hown.out.ext (HB1.out.alloc (.cells #[.int .u32 p.r.oid, .int .u32 p.r.ver, .string p.r.nm, .int .u8 p.r.id, .slice a' p.r.cols.length c'] 70))).push (q := ⟨p.r, a', c'⟩) hlt (by rw [← HP.out]) HCP.out ((RR.owned.ext HQ.out ((Ext.refl w1).alloc _)).mono hwz) (fun b o e h4 => by
          have h5 := owns_lt3 hown.out.own h4
          have h6 := (RR.owned.at_ HQ.out e).1
          omega) hgrow (by first | exact hat | (rw [World.size_alloc]; exact hat)) hown')
      clear hown' hgrow hat hown hE
      go_wp2
      go_roundw
      case rel => exact ⟨k + 1, _, by omega, by go_num, HN, HE2⟩
      case measure => simp [intOf]; omega
    · obtain rfl : k = ps.length := by omega
      obtain ⟨a', c', rfl⟩ := owns_shape hown.out.own
      go_wp2
      go_ret
      exact ⟨a', c', qs, rfl, hown.out, hE.out⟩

end Go.Proofs.YthdjinicmnhgpaaGreat

/-
A catalog of relations: the program's Of, Get.
-/
namespace Go.Proofs.YthdjinicmnhgpaaGreat
open Go.RowKit

theorem Ca.S_ge {W : World} {N g : Nat} {c : Value} {ps : List RR} (h : Ca W N g c ps) : ∀ x, Ca.S g c x → N ≤ x := fun x hx => by
  rcases hx with rfl | hx
  · exact h.gN
  · exact (h.own.lt x hx).1

def COfPost (l : List Rl) (w : World) (e : Ending) (w' : World) : Prop :=
  ∃ pv, e = .returned (.tuple #[.pointer pv, .int .i64 (ofPl l : Nat), .int .i64 (ofE l)]) ∧ (ofE l = 0 → pv = some ⟨w.heap.size, 0, none⟩ ∧ ∃ c qs, Ca w' w.heap.size w.heap.size c qs ∧ qs.map RR.r = ofUp l l.length) ∧ (ofE l ≠ 0 → pv = none) ∧ Ext w w'

set_option maxRecDepth 100000 in set_option maxHeartbeats 4000000 in
theorem cof_any (ps : List RR) (a : Option Addr) (cap : Nat) (w : World) (hl : RL w (.slice a ps.length cap) ps) (hcap : ∀ p ∈ ps, p.r.cols.length ≤ p.c) (hb : ∀ p ∈ ps, p.r.wb) (hlen : ps.length ≤ 1000) :
    Calls Tryz.prog 6 #[.slice a ps.length cap] w (COfPost (ps.map RR.r) w) := by
  have HL := Hid.mk' hl
  have HB := Hid.mk' hb
  have HCP := Hid.mk' hcap
  clear hl hb hcap
  go_enter Tryz.func6, Tryz.ntmps6
  go_wp2_with (go_at_call 19; refine (new_any _).mono ?_; rintro e w1 ⟨rfl, rfl⟩)
  go_loopw [12] (fun i wr => ∃ (k : Nat) (c : Value) (qs : List RR), k ≤ ps.length ∧ i = .int .i64 k ∧ Hid (∀ j, j < k → ofAt (ps.map RR.r) j = 0) ∧ Hid (Ca wr w.heap.size w.heap.size c qs) ∧ Hid (qs.map RR.r = ofUp (ps.map RR.r) k) ∧ Hid (Ext w wr)) (fun i _ => ps.length - (intOf i).toNat)
  case atStart => exact ⟨0, _, [], Nat.zero_le _, rfl, Hid.mk' (fun j h => by omega), Hid.mk' (Ca.new w), Hid.mk' rfl, Hid.mk' (by (repeat (with_reducible (first | exact Ext.refl _ | assumption | exact held_left (by assumption) | apply Ext.drewN | apply Ext.drew | apply Ext.alloc | (refine Ext.setCell ?_ (by first | (simp; done) | (simp; omega) | omega) _) | (refine Ext.trans ?_ (by assumption)) | (refine Ext.trans ?_ (held_left (by assumption)))))))⟩
  case round =>
    obtain ⟨k, c, qs, hk, rfl, hz, hca, hqs, hE⟩ := hrel
    by_cases hlt : k < ps.length
    · obtain ⟨b, o, rfl, hb, hx⟩ := HL.out.row.at_ (i := k) (by simpa using hlt)
      obtain ⟨f0, f1, f2, f3, f4⟩ := RR.at_ hlt hx hb hE.out
      have hbw : b < wr.heap.size := Nat.lt_of_lt_of_le hb hE.out.size
      have hin := HL.out.sl _ (List.getElem_mem hlt)
      have hwb := HB.out _ (List.getElem_mem hlt)
      have hcp := HCP.out _ (List.getElem_mem hlt)
      have hlt2 : k < (ps.map RR.r).length := by simpa using hlt
      have HS : Hid (ofUp (ps.map RR.r) (k + 1) = addL (qs.map RR.r) ps[k].r) := Hid.mk' (by rw [ofUp_succ hlt2, List.getElem_map, hqs.out])
      have HAT : Hid (ofAt (ps.map RR.r) k = addE (qs.map RR.r) ps[k].r) := Hid.mk' (by unfold ofAt; rw [dif_pos hlt2, List.getElem_map, hqs.out])
      obtain ⟨p, hp⟩ : ∃ p, p = ps[k] := ⟨_, rfl⟩
      rw [← hp] at f0 f1 f2 f3 f4 hin hwb hcp HS HAT
      have HAD := Hid.mk' (fun W (h : Ext wr W) => cadd_any w.heap.size w.heap.size c qs p W (hca.out.ext h) (hin.ext (hE.out.trans h)) hcp hwb)
      unfold CAddPost RR.agg at HAD
      rw [← HAT.out] at HAD
      clear hx hp hin hwb hcp
      obtain ⟨E, hEE⟩ : ∃ E, E = ofAt (ps.map RR.r) k := ⟨_, rfl⟩
      rw [← hEE] at HAD
      have HSG := Hid.mk' hca.out.S_ge
      by_cases h0 : E = 0
      · have H0 := Hid.mk' (hEE.symm.trans h0)
        subst h0
        clear hEE
        go_wp2_with (go_at_call 20; refine (HAD.out _ (by (repeat (with_reducible (first | exact Ext.refl _ | assumption | exact held_left (by assumption) | apply Ext.drewN | apply Ext.drew | apply Ext.alloc | (refine Ext.setCell ?_ (by first | (simp; done) | (simp; omega) | omega) _) | (refine Ext.trans ?_ (by assumption)) | (refine Ext.trans ?_ (held_left (by assumption)))))))).mono ?_; rintro e w1 ⟨c', q', rfl, hqr, hc', hkp, -⟩; have HC' := Hid.mk' hc'; have HQR := Hid.mk' hqr; have HE1 := Hid.mk' (Kp.ext (show Ext w _ from hE.out.trans (by (repeat (with_reducible (first | exact Ext.refl _ | assumption | exact held_left (by assumption) | apply Ext.drewN | apply Ext.drew | apply Ext.alloc | (refine Ext.setCell ?_ (by first | (simp; done) | (simp; omega) | omega) _) | (refine Ext.trans ?_ (by assumption)) | (refine Ext.trans ?_ (held_left (by assumption)))))))) (fun x hx _ => HSG.out x hx) hkp); clear hc' hqr hkp)
        go_roundw
        case rel => exact ⟨k + 1, c', _, by omega, by go_num, Hid.mk' (fun j hj => by
          by_cases e : j = k
          · subst e; exact H0.out
          · exact hz.out j (by omega)), HC', Hid.mk' (by rw [addP_r, HS.out, HQR.out]), HE1⟩
        case measure => simp [intOf]; omega
      · have h0' : (E != 0) = true := by simpa using h0
        have HF := Hid.mk' (show ofE (ps.map RR.r) = E by unfold ofE; rw [firstE_at hz.out hlt2 (by rw [← hEE]; exact h0), hEE])
        have HPL := Hid.mk' (show ofPl (ps.map RR.r) = k from plE_at hz.out (by rw [← hEE]; exact h0) hlt2)
        have H0 := Hid.mk' h0
        clear h0 hEE
        go_wp2_with (go_at_call 20; refine (HAD.out _ (by (repeat (with_reducible (first | exact Ext.refl _ | assumption | exact held_left (by assumption) | apply Ext.drewN | apply Ext.drew | apply Ext.alloc | (refine Ext.setCell ?_ (by first | (simp; done) | (simp; omega) | omega) _) | (refine Ext.trans ?_ (by assumption)) | (refine Ext.trans ?_ (held_left (by assumption)))))))).mono ?_; rintro e w1 ⟨c', q', rfl, hqr, hc', hkp, -⟩; have HE1 := Hid.mk' (Kp.ext (show Ext w _ from hE.out.trans (by (repeat (with_reducible (first | exact Ext.refl _ | assumption | exact held_left (by assumption) | apply Ext.drewN | apply Ext.drew | apply Ext.alloc | (refine Ext.setCell ?_ (by first | (simp; done) | (simp; omega) | omega) _) | (refine Ext.trans ?_ (by assumption)) | (refine Ext.trans ?_ (held_left (by assumption)))))))) (fun x hx _ => HSG.out x hx) hkp); clear hc' hqr hkp)
        go_ret3
        exact ⟨none, by rw [HF.out, HPL.out]; rfl, fun h => absurd (HF.out.symm.trans h) H0.out, fun _ => rfl, HE1.out⟩
    · obtain rfl : k = ps.length := by omega
      have HF := Hid.mk' (show ofE (ps.map RR.r) = 0 by unfold ofE; exact firstE_zero (by rw [List.length_map]; exact hz.out))
      have HPL := Hid.mk' (show ofPl (ps.map RR.r) = ps.length by unfold ofPl; rw [plE_zero (by rw [List.length_map]; exact hz.out), List.length_map])
      go_wp2
      go_ret3
      exact ⟨_, by rw [HF.out, HPL.out]; rfl, fun _ => ⟨rfl, c, qs, hca.out, by rw [List.length_map]; exact hqs.out⟩, fun h => absurd HF.out h, hE.out⟩

set_option maxRecDepth 100000 in set_option maxHeartbeats 4000000 in
theorem cget_any (N g : Nat) (c : Value) (ps : List RR) (o v : Int) (w : World) (hc : Ca w N g c ps) :
    Calls Tryz.prog 45 #[.pointer (some ⟨g, 0, none⟩), .agg #[.int .u32 o, .int .u32 v]] w fun e w' => ∃ q : RR, e = .returned (.tuple #[q.agg, .bool (hasR o v (ps.map RR.r))]) ∧ q.r = ((getP o v ps).getD RR.zero).r ∧ q.owned w.heap.size w' ∧ Ext w w' := by
  obtain ⟨a, cap, rfl⟩ := hc.shape
  have HFD := Hid.mk' (fun W (h : Ext w W) => find_any N g _ ps o v W (hc.ext h))
  have HC := Hid.mk' hc
  have hhas := hc.ok.srt.has o v
  have g0 := hc.ptr.cell
  have z0 := hc.ptr.lt
  clear hc
  obtain ⟨P, hP⟩ : ∃ P, P = posR o v (ps.map RR.r) := ⟨_, rfl⟩
  rw [← hP] at HFD
  cases hh : hasR o v (ps.map RR.r) with
  | false =>
    rw [hh] at HFD
    have HN : Hid (getP o v ps = none) := Hid.mk' (by
      have := getP_is o v ps
      rw [hh] at this
      exact Option.not_isSome_iff_eq_none.1 (by rw [this]; simp))
    clear hh hhas hP
    go_enter Tryz.func45, Tryz.ntmps45
    go_wp2_with (go_at_call 38; refine (HFD.out _ (by (repeat (with_reducible (first | exact Ext.refl _ | assumption | exact held_left (by assumption) | apply Ext.drewN | apply Ext.drew | apply Ext.alloc | (refine Ext.setCell ?_ (by first | (simp; done) | (simp; omega) | omega) _) | (refine Ext.trans ?_ (by assumption)) | (refine Ext.trans ?_ (held_left (by assumption)))))))).mono ?_; rintro e w1 ⟨rfl, hb1⟩; have HB1 := Hid.mk' ((Blk.new' (w := w.alloc (.cells #[.int .u32 o, .int .u32 v] 54)) (b := w.heap.size + 1) #[.int .u32 0, .int .u32 0, .string ⟨#[]⟩, .int .u8 0, .slice none 0 0] 70 (by simp)).ext hb1); have g1 := HB1.out.cell; have g1f := HB1.out.frozen; have z1 := HB1.out.lt)
    simp [bodyPost, results, Tryz.results45, go_sem, *]
    refine ⟨RR.zero, ⟨rfl, by rw [HN.out]; rfl, World.ownsRow_nil _ _ _ _, by (repeat (with_reducible (first | exact Ext.refl _ | assumption | exact held_left (by assumption) | apply Ext.drewN | apply Ext.drew | apply Ext.alloc | (refine Ext.setCell ?_ (by first | (simp; done) | (simp; omega) | omega) _) | (refine Ext.trans ?_ (by assumption)) | (refine Ext.trans ?_ (held_left (by assumption))))))⟩⟩
  | true =>
    rw [hh] at HFD hhas
    have hex := of_decide_eq_true hhas.symm
    obtain ⟨hi, hq⟩ := hex
    simp only [← hP, List.getElem_map] at hi hq
    have hlt : P < ps.length := by simpa using hi
    have HG : Hid (getP o v ps = some ps[P]) := Hid.mk' (getP_at hlt hq (fun j hj hjp hq2 => by
      have := HC.out.ok.srt.at_ (i := j) (j := P) (by simpa using hj) (by simpa using hlt) hjp
      unfold Rl.lt at this
      simp only [List.getElem_map] at this
      rw [hq.1, hq.2, hq2.1, hq2.2] at this
      exact ahead_irr this))
    have HOW := Hid.mk' (fun W (h : Ext w W) => pown_any ps[P] W ((HC.out.sl _ (List.getElem_mem hlt)).ext h) (by have := HC.out.n16 (List.getElem_mem hlt); omega))
    obtain ⟨b, q, rfl, hb, hx⟩ := HC.out.rl.row.at_ (i := P) (by simpa using hlt)
    have HF := Hid.mk' (fun W (h : Ext w W) => RR.at_ hlt hx hb h)
    obtain ⟨p, hp⟩ : ∃ p, p = ps[P] := ⟨_, rfl⟩
    rw [← hp] at HG HOW HF
    unfold RR.agg at HOW
    clear hh hhas hP hi hq hx hp
    go_enter Tryz.func45, Tryz.ntmps45
    go_wp2_with (first
      | (go_at_call 38; refine (HFD.out _ (by (repeat (with_reducible (first | exact Ext.refl _ | assumption | exact held_left (by assumption) | apply Ext.drewN | apply Ext.drew | apply Ext.alloc | (refine Ext.setCell ?_ (by first | (simp; done) | (simp; omega) | omega) _) | (refine Ext.trans ?_ (by assumption)) | (refine Ext.trans ?_ (held_left (by assumption)))))))).mono ?_; rintro e w1 ⟨rfl, hb1⟩; have HE1 := Hid.mk' (show Ext ((w.alloc (.cells #[.int .u32 o, .int .u32 v] 54)).alloc (.cells #[.int .u32 0, .int .u32 0, .string ⟨#[]⟩, .int .u8 0, .slice none 0 0] 70)) w1 from hb1); have hEw : Ext w w1 := (((Ext.refl w).alloc _).alloc _).trans hb1; obtain ⟨f0, f1, f2, f3, f4⟩ := HF.out _ hEw; have g2 := (HC.out.ptr.ext hEw).cell; have z2 := (HC.out.ptr.ext hEw).lt; have hbw : b < w1.heap.size := Nat.lt_of_lt_of_le hb hEw.size; have HEw := Hid.mk' hEw; clear hEw hb1)
      | (go_at_call 40; refine (HOW.out _ HEw.out).mono ?_; rintro e w3 ⟨⟨r', a', c'⟩, rfl, hqr, hqo, hb3⟩; simp only at hqr; subst hqr; have HQO := Hid.mk' hqo; have HE3 := Hid.mk' (HE1.out.trans hb3); have HB1 := Hid.mk' ((Blk.new' (w := w.alloc (.cells #[.int .u32 o, .int .u32 v] 54)) (b := w.heap.size + 1) #[.int .u32 0, .int .u32 0, .string ⟨#[]⟩, .int .u8 0, .slice none 0 0] 70 (by simp)).ext HE3.out); have g1 := HB1.out.cell; have g1f := HB1.out.frozen; have z1 := HB1.out.lt; have hzz := HE1.out.size; clear hqo hb3; try simp only))
    simp [bodyPost, results, Tryz.results45, go_sem, *]
    have hEw : Ext w w3 := (((Ext.refl w).alloc _).alloc _).trans HE3.out
    simp only [World.size_alloc] at hzz
    refine ⟨⟨p.r, a', c'⟩, rfl, by rw [HG.out]; rfl, ?_, by (repeat (with_reducible (first | exact Ext.refl _ | assumption | exact held_left (by assumption) | apply Ext.drewN | apply Ext.drew | apply Ext.alloc | (refine Ext.setCell ?_ (by first | (simp; done) | (simp; omega) | omega) _) | (refine Ext.trans ?_ (by assumption)) | (refine Ext.trans ?_ (held_left (by assumption))))))⟩
    exact owns_base (base := w1.heap.size) (owns_set (owns_set (owns_set (owns_set (owns_set HQO.out (by dsimp only; omega) _) (by dsimp only; omega) _) (by dsimp only; omega) _) (by dsimp only; omega) _) (by dsimp only; omega) _) (by omega)

end Go.Proofs.YthdjinicmnhgpaaGreat

/-
A row of cells in a block of the call's own: read, written at an index, made, cloned.
-/
namespace Go.Proofs.YthdjinicmnhgpaaGreat
open Go.RowKit

def RowAt (W : World) (g : Nat) (ks : List K) : Prop := ∃ cs : Array Value, Blk W g cs 133 ∧ ks.length * 5 ≤ cs.size ∧ ∀ i (hi : i < ks.length), ∀ j, j < 5 → cs[i * 5 + j]? = (ks[i].pc)[j]?
section
variable {W W' : World} {g : Nat} {ks : List K}
theorem RowAt.lt (h : RowAt W g ks) : g < W.heap.size := by obtain ⟨cs, hb, _⟩ := h; exact hb.lt
theorem RowAt.ext (h : RowAt W g ks) (he : Ext W W') : RowAt W' g ks := by obtain ⟨cs, hb, hr⟩ := h; exact ⟨cs, hb.ext he, hr⟩
theorem RowAt.drew (h : RowAt W g ks) : RowAt W.drew g ks := h
theorem RowAt.alloc (h : RowAt W g ks) (o : Obj) : RowAt (W.alloc o) g ks := h.ext ((Ext.refl W).alloc o)
theorem RowAt.other (h : RowAt W g ks) (a : Addr) (v : Value) (hne : g ≠ a.block) : RowAt (W.setCell a v) g ks := by obtain ⟨cs, hb, hr⟩ := h; exact ⟨cs, hb.other a v hne, hr⟩
theorem RowAt.kept (h : RowAt W g ks) {row : Option Nat} (hg : W.grownBy W' row) (hr : ∀ r, row = some r → ∃ o : Obj, W.heap[r]? = some o ∧ o.isCells = false) : RowAt W' g ks := by
  obtain ⟨cs, hb, hx⟩ := h
  refine ⟨cs, (hg.block g hb.lt (fun e => ?_)).trans hb, hx⟩
  obtain ⟨o, ho, hc⟩ := hr g e.symm
  rw [show W.heap[g]? = _ from hb] at ho
  cases ho; cases hc
theorem RowAt.frozen (h : RowAt W g ks) (o : Nat) : W.frozen? ⟨g, o, none⟩ = false := by obtain ⟨cs, hb, _⟩ := h; exact hb.frozen o
theorem RowAt.cells (h : RowAt W g ks) {i : Nat} (hi : i < ks.length) : W.cell? ⟨g, i * 5, none⟩ = some (.int .u8 ks[i].k) ∧ W.cell? ⟨g, i * 5 + 1, none⟩ = some (.int .u8 ks[i].v.ty) ∧ W.cell? ⟨g, i * 5 + 2, none⟩ = some (.int .i64 ks[i].v.n) ∧
    W.cell? ⟨g, i * 5 + 3, none⟩ = some (.complex .f64 ks[i].v.x ks[i].v.y) ∧ W.cell? ⟨g, i * 5 + 4, none⟩ = some (.string ks[i].v.s) := by
  obtain ⟨cs, hb, _, hx⟩ := h
  have hx := hx i hi
  exact ⟨(hb.cell _).trans (hx 0 (by omega)), (hb.cell _).trans (hx 1 (by omega)), (hb.cell _).trans (hx 2 (by omega)), (hb.cell _).trans (hx 3 (by omega)), (hb.cell _).trans (hx 4 (by omega))⟩
theorem RowAt.sl (h : RowAt W g ks) (cap : Nat) : Sl W (.slice (some ⟨g, 0, none⟩) ks.length cap) 5 (ks.map K.pc) := by
  obtain ⟨cs, hb, _, hx⟩ := h
  refine ⟨_, cap, by rw [List.length_map], .inr ⟨g, 0, rfl, hb.lt, fun i hi j hj => ?_⟩⟩
  rw [List.length_map] at hi
  rw [getD_map K.pc ks hi, ← hx i hi j hj, Nat.zero_add]
  exact hb.cell _
theorem RowAt.set (h : RowAt W g ks) {i : Nat} (hi : i < ks.length) (c : K) :
    RowAt (((((W.setCell ⟨g, i * 5, none⟩ (.int .u8 c.k)).setCell ⟨g, i * 5 + 1, none⟩ (.int .u8 c.v.ty)).setCell ⟨g, i * 5 + 2, none⟩ (.int .i64 c.v.n)).setCell ⟨g, i * 5 + 3, none⟩ (.complex .f64 c.v.x c.v.y)).setCell ⟨g, i * 5 + 4, none⟩ (.string c.v.s)) g (ks.set i c) := by
  obtain ⟨cs, hb, hs, hx⟩ := h
  refine ⟨_, ((((hb.set _ _).set _ _).set _ _).set _ _).set _ _, by simpa using hs, fun q hq j hj => ?_⟩
  rw [List.length_set] at hq
  simp only [Array.getElem?_setIfInBounds, Array.size_setIfInBounds]
  by_cases e : q = i
  · subst e
    rw [List.getElem_set_self]
    have : j = 0 ∨ j = 1 ∨ j = 2 ∨ j = 3 ∨ j = 4 := by omega
    rcases this with rfl | rfl | rfl | rfl | rfl
    all_goals
      simp [K.pc]
      (try omega)
  · rw [List.getElem_set_ne (Ne.symm e), ← hx q hq j hj]
    rw [if_neg (by omega), if_neg (by omega), if_neg (by omega), if_neg (by omega), if_neg (by omega)]
theorem RowAt.mono (h : RowAt W g ks) {ls : List K} (e : ks = ls) : RowAt W g ls := e ▸ h

theorem RowAt.of_owns {base n cap : Nat} (h : W.ownsRow base 133 5 (.slice (some ⟨g, 0, none⟩) n cap) n (ks.map K.pc).flatten) (hn : ks.length = n) : RowAt W g ks := by
  obtain ⟨h1, h2⟩ := h
  rcases h2 with ⟨h3, _⟩ | ⟨g', cap', cur, hv, hg, hh, hnc, hcap, hsz, htake⟩
  · cases h3
  · simp only [Value.slice.injEq, Option.some.injEq, Addr.mk.injEq] at hv
    obtain ⟨⟨rfl, -, -⟩, -, rfl⟩ := hv
    have hfl : (ks.map K.pc).flatten.length = ks.length * 5 := by
      have := flat_length 5 (ks.map K.pc) (fun xs hxs => by simp at hxs; obtain ⟨c, _, rfl⟩ := hxs; rfl)
      rwa [List.length_map] at this
    have hct : ks.length * 5 ≤ cur.size := by
      have := congrArg List.length htake
      rw [List.length_take, hfl] at this
      simp at this
      omega
    refine ⟨cur, hh, hct, fun i hi j hj => ?_⟩
    have := flat_get 5 (ks.map K.pc) (fun xs hxs => by simp at hxs; obtain ⟨c, _, rfl⟩ := hxs; rfl) i (by simpa using hi) j hj
    rw [getD_map K.pc ks hi] at this
    rw [← this, ← htake, List.getElem?_take, if_pos (by rw [← hn]; omega)]
    simp
end

/-- make of a row. -/
theorem run_makeK (n : Nat) (hn : n ≤ 1000) (w : World) :
    ∃ cs : Array Value, (Instr.makeSlice 74 (.int .i64 (n : Int)) (.int .i64 (n : Int))).run Tryz.prog w = .ok (.slice (some ⟨w.heap.size, 0, none⟩) n n) (w.alloc (.cells cs 133)) ∧ n * 5 ≤ cs.size ∧ ∀ i, i < n → ∀ j, j < 5 → cs[i * 5 + j]? = (K.zero.pc)[j]? := by
  obtain ⟨i0, hi, hz0, hz1, hz2⟩ := info_parts Tryz.infoCellP
  have hr := run_make (P := Tryz.prog) w 74 133 i0 _ Tryz.underlying74 hi hz0 .i64 .i64 (n : Int) (n : Int) (by omega) (by omega) (by rw [hz2]; omega) (by omega)
  simp only [Int.toNat_natCast, hz1] at hr
  refine ⟨_, hr, by rw [size_madeCells]; exact Nat.le_refl _, fun i hi j hj => ?_⟩
  have hlt : i * 5 + j < n * 5 := by omega
  have hm : (i * 5 + j) % 5 = j := by omega
  have : j = 0 ∨ j = 1 ∨ j = 2 ∨ j = 3 ∨ j = 4 := by omega
  simp only [madeCells, Array.getElem?_map, Array.getElem?_range, hlt]
  rcases this with rfl | rfl | rfl | rfl | rfl <;> simp [Value.cells, K.pc, K.zero, V.zero, hm]

end Go.Proofs.YthdjinicmnhgpaaGreat

/-
The key of a row: the program's image.KeyOf.
-/
namespace Go.Proofs.YthdjinicmnhgpaaGreat
open Go.RowKit Go.Shelf
attribute [local go_sem] Oper.semAt_some

/-- Is a column of the key? -/
def isKeyAt (cols : List Col) (i : Nat) : Bool := (cols[i]?.map Col.key).getD false
/-- A row with the columns of the key alone. -/
def keyOf (cols : List Col) (l : List K) : List K := l.mapIdx fun i c => if isKeyAt cols i = true then c else K.zero
/-- A row with some of its cells. -/
def fillK {cols : List Col} (l : List K) (pre : List (KX cols)) : List K := l.mapIdx fun i c => if pre.any (fun x => x.1.1 == i) = true then c else K.zero
theorem fillK_len {cols : List Col} {l : List K} {pre : List (KX cols)} : (fillK l pre).length = l.length := by simp [fillK]
theorem fillK_get {cols : List Col} {l : List K} {pre : List (KX cols)} {i : Nat} (h : i < (fillK l pre).length) : (fillK l pre)[i] = if pre.any (fun x => x.1.1 == i) = true then l[i]'(by rw [fillK_len] at h; exact h) else K.zero := by
  simp [fillK]
theorem fillK_nil {cols : List Col} {l : List K} : fillK l ([] : List (KX cols)) = List.replicate l.length K.zero := by
  apply List.ext_getElem
  · simp [fillK]
  · intro i h1 h2; rw [fillK_get]; simp
theorem fillK_set {cols : List Col} {l : List K} {pre : List (KX cols)} {x : KX cols} (h : x.1.1 < l.length) : fillK l (pre ++ [x]) = (fillK l pre).set x.1.1 l[x.1.1] := by
  apply List.ext_getElem
  · simp [fillK]
  · intro i h1 h2
    rw [fillK_get, List.getElem_set]
    by_cases e : x.1.1 = i
    · subst e; simp
    · rw [if_neg e, fillK_get, List.any_append]
      have : ([x].any fun x => x.1.1 == i) = false := by simp [e]
      rw [this, Bool.or_false]
theorem fillK_skip {cols : List Col} {l : List K} {pre : List (KX cols)} {x : KX cols} (h : l.length ≤ x.1.1) : fillK l (pre ++ [x]) = fillK l pre := by
  apply List.ext_getElem
  · simp [fillK]
  · intro i h1 h2
    rw [fillK_get, fillK_get, List.any_append]
    have hi : i < l.length := by rw [fillK_len] at h2; exact h2
    have : ([x].any fun x => x.1.1 == i) = false := by simp; omega
    rw [this, Bool.or_false]
theorem isKey_any {cols : List Col} {i : Nat} : (keysUp cols cols.length).any (fun x => x.1.1 == i) = isKeyAt cols i := by
  rw [Bool.eq_iff_iff, List.any_eq_true]
  unfold isKeyAt
  constructor
  · rintro ⟨⟨⟨j, c⟩, hj, hc, hk⟩, _, h⟩
    simp only [beq_iff_eq] at h
    subst h
    simp only at hc hk
    rw [hc]; simpa using hk
  · intro h
    cases hc : cols[i]? with
    | none => rw [hc] at h; simp at h
    | some c =>
      rw [hc] at h
      have hi : i < cols.length := (List.getElem?_eq_some_iff.1 hc).1
      exact ⟨⟨(i, c), hi, hc, by simpa using h⟩, (keysUp_mem _ _).2 hi, by simp⟩
theorem fillK_all {cols : List Col} {l : List K} : fillK l (keysUp cols cols.length) = keyOf cols l := by
  unfold fillK keyOf
  congr 1
  funext i c
  rw [isKey_any]

set_option maxRecDepth 100000 in
set_option maxHeartbeats 4000000 in
theorem keyOf_in (F : Fence) (n : Nat) (h1F : F.fn 105) (hKF : F.fn 91) (hDF : F.fn 71) (hro : F.round = none) (hn : 3 ≤ n) (oid ver : Int) (nm : ByteArray) (id : Int) (cols : List Col) (a2 : Option Addr) (cap2 : Nat) (l : List K) (a : Option Addr) (cap : Nat) (w : World)
    (hl2 : Sl w (.slice a2 cols.length cap2) 3 (cols.map Col.cells)) (hlen2 : cols.length ≤ 1000) (hl : Sl w (.slice a l.length cap) 5 (l.map K.pc)) (hlen : l.length ≤ 1000) :
    CallsIn F n Tryz.prog 71 #[.agg #[.int .u32 oid, .int .u32 ver, .string nm, .int .u8 id, .slice a2 cols.length cap2], .slice a l.length cap] w fun e w' => ∃ g cap', e = .returned (.slice (some ⟨g, 0, none⟩) l.length cap') ∧ l.length ≤ cap' ∧ w.heap.size ≤ g ∧ RowAt w' g (keyOf cols l) ∧ Ext w w' := by
  have h1 : 1 ≤ n := by omega
  have HL := Hid.mk' hl
  have HL2 := Hid.mk' hl2
  clear hl hl2
  obtain ⟨cs, hmk0, hcs1, hcs2⟩ := run_makeK l.length hlen ((w.alloc (.cells #[.int .u32 oid, .int .u32 ver, .string nm, .int .u8 id, .slice a2 cols.length cap2] 70)).alloc (.cells #[.slice a l.length cap] 74))
  have hmk : (Instr.makeSlice 74 (.int .i64 (l.length : Int)) (.int .i64 (l.length : Int))).run Tryz.prog ((w.alloc (.cells #[.int .u32 oid, .int .u32 ver, .string nm, .int .u8 id, .slice a2 cols.length cap2] 70)).alloc (.cells #[.slice a l.length cap] 74)) = .ok (.slice (some ⟨w.heap.size + 1 + 1, 0, none⟩) l.length l.length) (((w.alloc (.cells #[.int .u32 oid, .int .u32 ver, .string nm, .int .u8 id, .slice a2 cols.length cap2] 70)).alloc (.cells #[.slice a l.length cap] 74)).alloc (.cells cs 133)) := by
    rw [hmk0]; simp
  have HC := Hid.mk' (And.intro hcs1 hcs2)
  clear hmk0 hcs1 hcs2
  refine callsIn_of_wp_marks Tryz.func71 rfl hDF ?_ hro
  simp only [Tryz.ntmps71, List.size_toArray, List.length_cons, List.length_nil, Nat.reduceAdd, Nat.reduceSub, Array.replicate_succ, Array.replicate_zero, List.push_toArray, List.append_toArray, List.nil_append, List.cons_append]
  gi_wp2_with (gi_at_call 91; refine (keys_in F (n - 1) hKF hro _ _ _ _ _ _).mono ?_; rintro e w' ⟨rfl, rfl⟩)
  have hE5 : Ext w (((((w.alloc (.cells #[.int .u32 oid, .int .u32 ver, .string nm, .int .u8 id, .slice a2 cols.length cap2] 70)).alloc (.cells #[.slice a l.length cap] 74)).alloc (.cells cs 133)).alloc (.cells #[.slice (some ⟨w.heap.size + 1 + 1, 0, none⟩) l.length l.length] 74)).alloc (.cells #[.int .u32 oid, .int .u32 ver, .string nm, .int .u8 id, .slice a2 cols.length cap2] 70)) := (((((Ext.refl w).alloc _).alloc _).alloc _).alloc _).alloc _
  have hB1 : Blk (((((w.alloc (.cells #[.int .u32 oid, .int .u32 ver, .string nm, .int .u8 id, .slice a2 cols.length cap2] 70)).alloc (.cells #[.slice a l.length cap] 74)).alloc (.cells cs 133)).alloc (.cells #[.slice (some ⟨w.heap.size + 1 + 1, 0, none⟩) l.length l.length] 74)).alloc (.cells #[.int .u32 oid, .int .u32 ver, .string nm, .int .u8 id, .slice a2 cols.length cap2] 70)) (w.heap.size + 1) #[.slice a l.length cap] 74 := (((Blk.new' _ _ (by simp)).alloc _).alloc _).alloc _
  have hB2 : Blk (((((w.alloc (.cells #[.int .u32 oid, .int .u32 ver, .string nm, .int .u8 id, .slice a2 cols.length cap2] 70)).alloc (.cells #[.slice a l.length cap] 74)).alloc (.cells cs 133)).alloc (.cells #[.slice (some ⟨w.heap.size + 1 + 1, 0, none⟩) l.length l.length] 74)).alloc (.cells #[.int .u32 oid, .int .u32 ver, .string nm, .int .u8 id, .slice a2 cols.length cap2] 70)) (w.heap.size + 1 + 1) cs 133 := ((Blk.new' _ _ (by simp)).alloc _).alloc _
  have hB3 : Blk (((((w.alloc (.cells #[.int .u32 oid, .int .u32 ver, .string nm, .int .u8 id, .slice a2 cols.length cap2] 70)).alloc (.cells #[.slice a l.length cap] 74)).alloc (.cells cs 133)).alloc (.cells #[.slice (some ⟨w.heap.size + 1 + 1, 0, none⟩) l.length l.length] 74)).alloc (.cells #[.int .u32 oid, .int .u32 ver, .string nm, .int .u8 id, .slice a2 cols.length cap2] 70)) (w.heap.size + 1 + 1 + 1) #[.slice (some ⟨w.heap.size + 1 + 1, 0, none⟩) l.length l.length] 74 := (Blk.new' _ _ (by simp)).alloc _
  have hB4 : Blk (((((w.alloc (.cells #[.int .u32 oid, .int .u32 ver, .string nm, .int .u8 id, .slice a2 cols.length cap2] 70)).alloc (.cells #[.slice a l.length cap] 74)).alloc (.cells cs 133)).alloc (.cells #[.slice (some ⟨w.heap.size + 1 + 1, 0, none⟩) l.length l.length] 74)).alloc (.cells #[.int .u32 oid, .int .u32 ver, .string nm, .int .u8 id, .slice a2 cols.length cap2] 70)) (w.heap.size + 1 + 1 + 1 + 1) #[.int .u32 oid, .int .u32 ver, .string nm, .int .u8 id, .slice a2 cols.length cap2] 70 := Blk.new' _ _ (by simp)
  have hRow : RowAt (((((w.alloc (.cells #[.int .u32 oid, .int .u32 ver, .string nm, .int .u8 id, .slice a2 cols.length cap2] 70)).alloc (.cells #[.slice a l.length cap] 74)).alloc (.cells cs 133)).alloc (.cells #[.slice (some ⟨w.heap.size + 1 + 1, 0, none⟩) l.length l.length] 74)).alloc (.cells #[.int .u32 oid, .int .u32 ver, .string nm, .int .u8 id, .slice a2 cols.length cap2] 70)) (w.heap.size + 1 + 1) (fillK l ([] : List (KX cols))) := by
    rw [fillK_nil]
    refine ⟨cs, hB2, by rw [List.length_replicate]; exact HC.out.1, fun i hi j hj => ?_⟩
    rw [List.length_replicate] at hi
    rw [List.getElem_replicate]
    exact HC.out.2 i hi j hj
  clear hmk
  refine wpIn_rangeFunc_ownG hro h1 (gf := 105) (lb := #[.pointer (some ⟨w.heap.size + 1 + 1 + 1 + 1, 0, none⟩)]) rfl h1F (enters_of Tryz.func105 (by kernel_rfl) rfl)
    (keys_stops F (n - 1) h1F hro (by omega) (w.heap.size + 1 + 1 + 1 + 1) w a2 cap2 cols hlen2 HL2.out _ hE5 (hB4.cell 4) hB4.lt) belowK_t (belowK_b (by simp; omega)) (Below.refl _ _) (fun _ => rfl)
    (fun pre W => (RowAt W (w.heap.size + 1 + 1) (fillK l pre) ∧ W.cell? ⟨w.heap.size + 1 + 1 + 1, 0, none⟩ = some (.slice (some ⟨w.heap.size + 1 + 1, 0, none⟩) l.length l.length) ∧ W.cell? ⟨w.heap.size + 1, 0, none⟩ = some (.slice a l.length cap)) ∧ Below w.heap.size w W)
    (fun _ _ _ => False)
    (OwnFrom.and (Own.from (fun s A B row hs hg hr => ⟨hs.1.kept hg hr, cell_kept hs.2.1 hg hr, cell_kept hs.2.2 hg hr⟩) _) (ownFrom_below (Nat.le_refl _) (by simp; omega)))
    (fun _ _ _ _ _ hs _ _ => hs)
    ⟨⟨hRow, hB3.cell 0, hB1.cell 0⟩, hE5⟩
    (fun x => { tmps := #[.agg #[.int .u32 oid, .int .u32 ver, .string nm, .int .u8 id, .slice a2 cols.length cap2], .slice a l.length cap, .pointer (some ⟨w.heap.size, 0, none⟩), .pointer (some ⟨w.heap.size + 1, 0, none⟩), .slice none 0 0, .pointer (some ⟨w.heap.size + 1 + 1 + 1, 0, none⟩), .int .i64 (x.1.1 : Int), .slice a l.length cap, .int .i64 (l.length : Int), .slice (some ⟨w.heap.size + 1 + 1, 0, none⟩) l.length l.length, .agg #[.int .u32 oid, .int .u32 ver, .string nm, .int .u8 id, .slice a2 cols.length cap2], .func (.func 105) #[] #[.pointer (some ⟨w.heap.size + 1 + 1 + 1 + 1, 0, none⟩)], .int .i64 (x.1.1 : Int), .agg #[.string x.1.2.nm, .int .u8 x.1.2.ty, .bool x.1.2.key], undef, undef, undef, undef, undef, undef, undef, undef, undef, undef, undef, undef], defers := [] }) ?assign ?body ?done ?stop
  case assign =>
    intro l x W K hK
    unfold encK
    rw [fold_two]
    gi_wp2
    exact hK
  case body =>
    rintro lr pre x W ⟨⟨hr, hco, hcw⟩, hB⟩ _
    have HR := Hid.mk' hr
    have HB := Hid.mk' hB
    clear hr hB
    have hx : x.1.1 < cols.length := x.2.1
    have hmx : Tryz.prog.follows .mixedOrders = true := by kernel_rfl
    by_cases hlt : x.1.1 < l.length
    · obtain ⟨b, o, rfl, hb, hc⟩ := HL.out.at_ (i := x.1.1) (by simpa using hlt)
      obtain ⟨f0, f1, f2, f3, f4⟩ := K.pcAt hlt hc hb HB.out
      have hs := HR.out.cells (i := x.1.1) (by rw [fillK_len]; exact hlt)
      obtain ⟨s0, s1, s2, s3, s4⟩ := hs
      have sf := HR.out.frozen
      have HU := Hid.mk' (fillK_set (pre := pre) hlt)
      clear hc
      gi_wp2
      gi_region_with_o (fail)
      all_goals
        gi_wp2
        have HBW := Hid.mk' (((((((Below.refl w.heap.size W).setCell (p := ⟨w.heap.size + 1 + 1, x.1.1 * 5, none⟩) (by show w.heap.size ≤ w.heap.size + 1 + 1; omega) (.int .u8 l[x.1.1].k)).setCell (p := ⟨w.heap.size + 1 + 1, x.1.1 * 5 + 1, none⟩) (by show w.heap.size ≤ w.heap.size + 1 + 1; omega) (.int .u8 l[x.1.1].v.ty)).setCell (p := ⟨w.heap.size + 1 + 1, x.1.1 * 5 + 2, none⟩) (by show w.heap.size ≤ w.heap.size + 1 + 1; omega) (.int .i64 l[x.1.1].v.n)).setCell (p := ⟨w.heap.size + 1 + 1, x.1.1 * 5 + 3, none⟩) (by show w.heap.size ≤ w.heap.size + 1 + 1; omega) (.complex .f64 l[x.1.1].v.x l[x.1.1].v.y)).setCell (p := ⟨w.heap.size + 1 + 1, x.1.1 * 5 + 4, none⟩) (by show w.heap.size ≤ w.heap.size + 1 + 1; omega) (.string l[x.1.1].v.s)).drew)
        refine ⟨((((((KeepsOthers.setCell _ _ _).trans (KeepsOthers.setCell _ _ _)).trans (KeepsOthers.setCell _ _ _)).trans (KeepsOthers.setCell _ _ _)).trans (KeepsOthers.setCell _ _ _)).trans (KeepsOthers.drew _)).from _, HBW.out, ⟨by rw [HU.out]; exact (HR.out.set (by rw [fillK_len]; exact hlt) l[x.1.1]).drew, ?_, ?_⟩, HB.out.trans HBW.out⟩ <;> go_simp
    · have hge : l.length ≤ x.1.1 := by omega
      have HU := Hid.mk' (fillK_skip (pre := pre) hge)
      gi_wp2
      exact ⟨KeepsFrom.refl _ _, Below.refl _ _, ⟨by rw [HU.out]; exact HR.out, hco, hcw⟩, HB.out⟩
  case done =>
    rintro D ys W hD rfl ⟨⟨hr, hco, hcw⟩, hB⟩ hK
    gi_wp2
    refine ⟨by simp, .inl ⟨_, _, rfl, run_takeDeferred hK, ?_⟩⟩
    refine ⟨_, results_tmp rfl _ _ _, w.heap.size + 1 + 1, l.length, rfl, Nat.le_refl _, by omega, ?_, hB.trans (belowK_b (w := w) (Nat.le_refl _) W D _ _ (by simp at hD; omega) hK rfl rfl)⟩
    rw [← fillK_all]
    exact hr.kept (grownBy_putObj' _ D (.deferred none)) (fun r e => by cases e; exact ⟨_, hK, rfl⟩)
  case stop =>
    rintro D c pre W _ _ h _
    exact h.elim

theorem keyOf_any (oid ver : Int) (nm : ByteArray) (id : Int) (cols : List Col) (a2 : Option Addr) (cap2 : Nat) (l : List K) (a : Option Addr) (cap : Nat) (w : World)
    (hl2 : Sl w (.slice a2 cols.length cap2) 3 (cols.map Col.cells)) (hlen2 : cols.length ≤ 1000) (hl : Sl w (.slice a l.length cap) 5 (l.map K.pc)) (hlen : l.length ≤ 1000) :
    Calls Tryz.prog 71 #[.agg #[.int .u32 oid, .int .u32 ver, .string nm, .int .u8 id, .slice a2 cols.length cap2], .slice a l.length cap] w fun e w' => ∃ g cap', e = .returned (.slice (some ⟨g, 0, none⟩) l.length cap') ∧ l.length ≤ cap' ∧ w.heap.size ≤ g ∧ RowAt w' g (keyOf cols l) ∧ Ext w w' :=
  callsIn_wide.1 (keyOf_in Fence.wide 3 trivial trivial trivial rfl (Nat.le_refl _) oid ver nm id cols a2 cap2 l a cap w hl2 hlen2 hl hlen)

end Go.Proofs.YthdjinicmnhgpaaGreat

/-
The reference's cell: Texty, Right.
-/
namespace Go.Proofs.YthdjinicmnhgpaaGreat
open Go.RowKit

set_option maxRecDepth 20000 in
theorem neq_val2 (ty n : Int) (x y : Nat) (s : ByteArray) (ty' n' : Int) (x' y' : Nat) (s' : ByteArray) (w : World) :
    (binOp .neq 98 (.agg #[.int .u8 ty, .int .i64 n, .int .u64 x, .int .u64 y, .string s]) (.agg #[.int .u8 ty', .int .i64 n', .int .u64 x', .int .u64 y', .string s'])).run Tryz.prog w = .ok (.bool (!sameB ty n x y s ty' n' x' y' s')) w := by
  by_cases h1 : ty = ty' <;> by_cases h2 : n = n' <;> by_cases h3 : x = x' <;> by_cases h4 : y = y' <;> by_cases h5 : s = s' <;> simp [go_sem, sameB, h1, h2, h3, h4, h5]
  all_goals first
    | (intro h; exact absurd (toList_inj' h) h5)
    | omega
    | (intros; omega)
    | (intros; intro h; exact absurd (toList_inj' h) h5)

set_option maxRecDepth 20000 in set_option maxHeartbeats 400000 in
theorem rtexty_yes (kind : Int) (w : World) (h : kind = 5 ∨ kind = 6) : Calls Tryz.prog 117 #[.int .u8 kind] w fun e w' => e = .returned (.bool true) ∧ w = w' := by
  rcases h with rfl | rfl
  all_goals
    go_enter Tryz.func117, Tryz.ntmps117
    go_wp2
    go_ret
    exact ⟨rfl, rfl⟩
set_option maxRecDepth 20000 in set_option maxHeartbeats 400000 in
theorem rtexty_no (kind : Int) (w : World) (h : kind ≠ 5 ∧ kind ≠ 6) : Calls Tryz.prog 117 #[.int .u8 kind] w fun e w' => e = .returned (.bool false) ∧ w = w' := by
  have h5 : (kind == 5) = false := by simpa using h.1
  have h6 : (kind == 6) = false := by simpa using h.2
  clear h
  go_enter Tryz.func117, Tryz.ntmps117
  go_wp2
  go_ret
  exact ⟨rfl, rfl⟩

set_option maxRecDepth 100000 in set_option maxHeartbeats 1600000 in
theorem rcright_any (k ty n : Int) (x y : Nat) (s : ByteArray) (kind : Int) (w : World) (hk0 : 0 ≤ k) (hs : s.size ≤ 9223372036854775807) :
    Calls Tryz.prog 110 #[.agg #[.int .u8 k, .int .u8 ty, .int .i64 n, .int .u64 x, .int .u64 y, .string s], .int .u8 kind] w fun e w' => e = .returned (.int .i64 (rightC k ty n x y s kind)) ∧ Ext w w' := by
  have HV := Hid.mk' (fun w => rright_any ty n x y s w hs)
  by_cases hkd : kind < 1 ∨ 6 < kind
  · have HR : Hid (rightC k ty n x y s kind = 11) := Hid.mk' (by unfold rightC; rw [if_pos hkd])
    by_cases h1 : kind < 1
    · clear hkd
      go_enter Tryz.func110, Tryz.ntmps110
      go_wp2
      go_ret
      exact ⟨ret_int HR.out.symm, by (repeat (with_reducible (first | exact Ext.refl _ | assumption | exact held_left (by assumption) | apply Ext.drewN | apply Ext.drew | apply Ext.alloc | (refine Ext.setCell ?_ (by first | (simp; done) | (simp; omega) | omega) _) | (refine Ext.trans ?_ (by assumption)) | (refine Ext.trans ?_ (held_left (by assumption))))))⟩
    · have h6 : 6 < kind := by omega
      clear hkd
      go_enter Tryz.func110, Tryz.ntmps110
      go_wp2
      go_ret
      exact ⟨ret_int HR.out.symm, by (repeat (with_reducible (first | exact Ext.refl _ | assumption | exact held_left (by assumption) | apply Ext.drewN | apply Ext.drew | apply Ext.alloc | (refine Ext.setCell ?_ (by first | (simp; done) | (simp; omega) | omega) _) | (refine Ext.trans ?_ (by assumption)) | (refine Ext.trans ?_ (held_left (by assumption))))))⟩
  have hd1 : 1 ≤ kind := by omega
  have hd2 : kind ≤ 6 := by omega
  by_cases hk2 : 2 < k
  · have HR : Hid (rightC k ty n x y s kind = 7) := Hid.mk' (by unfold rightC; rw [if_neg hkd, if_pos hk2])
    clear hkd
    go_enter Tryz.func110, Tryz.ntmps110
    go_wp2
    go_ret
    exact ⟨ret_int HR.out.symm, by (repeat (with_reducible (first | exact Ext.refl _ | assumption | exact held_left (by assumption) | apply Ext.drewN | apply Ext.drew | apply Ext.alloc | (refine Ext.setCell ?_ (by first | (simp; done) | (simp; omega) | omega) _) | (refine Ext.trans ?_ (by assumption)) | (refine Ext.trans ?_ (held_left (by assumption))))))⟩
  by_cases hk3 : k < 2
  · by_cases hz : ty = 0 ∧ n = 0 ∧ (x : Int) = 0 ∧ (y : Int) = 0 ∧ s.size = 0
    · obtain ⟨h_1, h_2, h_3, h_4, h_5⟩ := hz
      obtain rfl := h_1
      obtain rfl := h_2
      obtain rfl : x = 0 := by omega
      obtain rfl : y = 0 := by omega
      obtain rfl : s = ByteArray.empty := (size_zero s).2 h_5
      have hz : (0 : Int) = 0 ∧ (0 : Int) = 0 ∧ ((0 : Nat) : Int) = 0 ∧ ((0 : Nat) : Int) = 0 ∧ ByteArray.empty.size = 0 := ⟨rfl, rfl, rfl, rfl, rfl⟩
      clear h_3 h_4 h_5
      by_cases h1 : k = 1
      · subst h1
        by_cases ht : kind = 5 ∨ kind = 6
        · have HR : Hid (rightC 1 0 0 ((0 : Nat) : Int) ((0 : Nat) : Int) ByteArray.empty kind = 0) := Hid.mk' (by unfold rightC; rw [if_neg hkd, if_neg hk2, if_pos hk3, if_pos hz, if_neg (by omega)])
          have HX := Hid.mk' (fun w => rtexty_yes kind w ht)
          clear hkd hz ht
          go_enter Tryz.func110, Tryz.ntmps110
          go_wp2_with (go_at_call 117; refine (HX.out _).mono ?_; rintro e w1 ⟨rfl, rfl⟩)
          go_ret
          exact ⟨ret_int HR.out.symm, by (repeat (with_reducible (first | exact Ext.refl _ | assumption | exact held_left (by assumption) | apply Ext.drewN | apply Ext.drew | apply Ext.alloc | (refine Ext.setCell ?_ (by first | (simp; done) | (simp; omega) | omega) _) | (refine Ext.trans ?_ (by assumption)) | (refine Ext.trans ?_ (held_left (by assumption))))))⟩
        · have HR : Hid (rightC 1 0 0 ((0 : Nat) : Int) ((0 : Nat) : Int) ByteArray.empty kind = 11) := Hid.mk' (by unfold rightC; rw [if_neg hkd, if_neg hk2, if_pos hk3, if_pos hz, if_pos (by omega)])
          have HX := Hid.mk' (fun w => rtexty_no kind w (by omega))
          clear hkd hz ht
          go_enter Tryz.func110, Tryz.ntmps110
          go_wp2_with (go_at_call 117; refine (HX.out _).mono ?_; rintro e w1 ⟨rfl, rfl⟩)
          go_ret
          exact ⟨ret_int HR.out.symm, by (repeat (with_reducible (first | exact Ext.refl _ | assumption | exact held_left (by assumption) | apply Ext.drewN | apply Ext.drew | apply Ext.alloc | (refine Ext.setCell ?_ (by first | (simp; done) | (simp; omega) | omega) _) | (refine Ext.trans ?_ (by assumption)) | (refine Ext.trans ?_ (held_left (by assumption))))))⟩
      · obtain rfl : k = 0 := by omega
        have HR : Hid (rightC 0 0 0 ((0 : Nat) : Int) ((0 : Nat) : Int) ByteArray.empty kind = 0) := Hid.mk' (by unfold rightC; rw [if_neg hkd, if_neg hk2, if_pos hk3, if_pos hz, if_neg (by omega)])
        clear hkd hz h1
        go_enter Tryz.func110, Tryz.ntmps110
        go_wp2
        go_ret
        exact ⟨ret_int HR.out.symm, by (repeat (with_reducible (first | exact Ext.refl _ | assumption | exact held_left (by assumption) | apply Ext.drewN | apply Ext.drew | apply Ext.alloc | (refine Ext.setCell ?_ (by first | (simp; done) | (simp; omega) | omega) _) | (refine Ext.trans ?_ (by assumption)) | (refine Ext.trans ?_ (held_left (by assumption))))))⟩
    · have HR : Hid (rightC k ty n x y s kind = 3) := Hid.mk' (by unfold rightC; rw [if_neg hkd, if_neg hk2, if_pos hk3, if_neg hz])
      have HZ := Hid.mk' hz
      clear hkd hz
      by_cases g1 : ty = 0
      · subst g1
        by_cases g2 : n = 0
        · subst g2
          by_cases g3 : x = 0
          · subst g3
            by_cases g4 : y = 0
            · subst g4
              have g5 : ¬ s.toList = [] := by
                intro h
                refine HZ.out ⟨rfl, rfl, rfl, rfl, ?_⟩
                have := isEmpty_size s
                rw [h] at this
                exact of_decide_eq_true this.symm
              have g6 : (s.toList == []) = false := by simpa using g5
              go_enter Tryz.func110, Tryz.ntmps110
              go_wp2
              go_ret
              exact ⟨ret_int HR.out.symm, by (repeat (with_reducible (first | exact Ext.refl _ | assumption | exact held_left (by assumption) | apply Ext.drewN | apply Ext.drew | apply Ext.alloc | (refine Ext.setCell ?_ (by first | (simp; done) | (simp; omega) | omega) _) | (refine Ext.trans ?_ (by assumption)) | (refine Ext.trans ?_ (held_left (by assumption))))))⟩
            · go_enter Tryz.func110, Tryz.ntmps110
              go_wp2
              go_ret
              exact ⟨ret_int HR.out.symm, by (repeat (with_reducible (first | exact Ext.refl _ | assumption | exact held_left (by assumption) | apply Ext.drewN | apply Ext.drew | apply Ext.alloc | (refine Ext.setCell ?_ (by first | (simp; done) | (simp; omega) | omega) _) | (refine Ext.trans ?_ (by assumption)) | (refine Ext.trans ?_ (held_left (by assumption))))))⟩
          · go_enter Tryz.func110, Tryz.ntmps110
            go_wp2
            go_ret
            exact ⟨ret_int HR.out.symm, by (repeat (with_reducible (first | exact Ext.refl _ | assumption | exact held_left (by assumption) | apply Ext.drewN | apply Ext.drew | apply Ext.alloc | (refine Ext.setCell ?_ (by first | (simp; done) | (simp; omega) | omega) _) | (refine Ext.trans ?_ (by assumption)) | (refine Ext.trans ?_ (held_left (by assumption))))))⟩
        · go_enter Tryz.func110, Tryz.ntmps110
          go_wp2
          go_ret
          exact ⟨ret_int HR.out.symm, by (repeat (with_reducible (first | exact Ext.refl _ | assumption | exact held_left (by assumption) | apply Ext.drewN | apply Ext.drew | apply Ext.alloc | (refine Ext.setCell ?_ (by first | (simp; done) | (simp; omega) | omega) _) | (refine Ext.trans ?_ (by assumption)) | (refine Ext.trans ?_ (held_left (by assumption))))))⟩
      · go_enter Tryz.func110, Tryz.ntmps110
        go_wp2
        go_ret
        exact ⟨ret_int HR.out.symm, by (repeat (with_reducible (first | exact Ext.refl _ | assumption | exact held_left (by assumption) | apply Ext.drewN | apply Ext.drew | apply Ext.alloc | (refine Ext.setCell ?_ (by first | (simp; done) | (simp; omega) | omega) _) | (refine Ext.trans ?_ (by assumption)) | (refine Ext.trans ?_ (held_left (by assumption))))))⟩
  · obtain rfl : k = 2 := by omega
    obtain ⟨R, hR⟩ : ∃ R, R = rightV ty n x y s := ⟨_, rfl⟩
    rw [← hR] at HV
    by_cases h0 : R = 0
    · subst h0
      by_cases ht : ty = kind
      · have HR : Hid (rightC 2 ty n x y s kind = 0) := Hid.mk' (right_mk hR.symm ht)
        subst ht
        clear hkd hR
        go_enter Tryz.func110, Tryz.ntmps110
        go_wp2_with (go_at_call 118; refine (HV.out _).mono ?_; rintro e w1 ⟨rfl, hb1⟩; have h1 := (Blk.new w #[.int .u8 2, .int .u8 ty, .int .i64 n, .int .u64 x, .int .u64 y, .string s] 100).ext hb1; have k1 := h1.cell; have z1 := h1.lt)
        go_ret
        exact ⟨ret_int HR.out.symm, by (repeat (with_reducible (first | exact Ext.refl _ | assumption | exact held_left (by assumption) | apply Ext.drewN | apply Ext.drew | apply Ext.alloc | (refine Ext.setCell ?_ (by first | (simp; done) | (simp; omega) | omega) _) | (refine Ext.trans ?_ (by assumption)) | (refine Ext.trans ?_ (held_left (by assumption))))))⟩
      · have HR : Hid (rightC 2 ty n x y s kind = 11) := Hid.mk' (by unfold rightC; rw [if_neg hkd, if_neg hk2, if_neg hk3, if_neg (by rw [← hR]; decide), if_pos ht])
        have ht2 : (ty != kind) = true := by simpa using ht
        clear hkd hR ht
        go_enter Tryz.func110, Tryz.ntmps110
        go_wp2_with (go_at_call 118; refine (HV.out _).mono ?_; rintro e w1 ⟨rfl, hb1⟩; have h1 := (Blk.new w #[.int .u8 2, .int .u8 ty, .int .i64 n, .int .u64 x, .int .u64 y, .string s] 100).ext hb1; have k1 := h1.cell; have z1 := h1.lt)
        go_ret
        exact ⟨ret_int HR.out.symm, by (repeat (with_reducible (first | exact Ext.refl _ | assumption | exact held_left (by assumption) | apply Ext.drewN | apply Ext.drew | apply Ext.alloc | (refine Ext.setCell ?_ (by first | (simp; done) | (simp; omega) | omega) _) | (refine Ext.trans ?_ (by assumption)) | (refine Ext.trans ?_ (held_left (by assumption))))))⟩
    · have HR : Hid (rightC 2 ty n x y s kind = R) := Hid.mk' (by unfold rightC; rw [if_neg hkd, if_neg hk2, if_neg hk3, if_pos (by rw [← hR]; exact h0), hR])
      have h02 : (R != 0) = true := by simpa using h0
      clear hkd hR h0
      go_enter Tryz.func110, Tryz.ntmps110
      go_wp2_with (go_at_call 118; refine (HV.out _).mono ?_; rintro e w1 ⟨rfl, hb1⟩; have h1 := (Blk.new w #[.int .u8 2, .int .u8 ty, .int .i64 n, .int .u64 x, .int .u64 y, .string s] 100).ext hb1; have k1 := h1.cell; have z1 := h1.lt)
      go_ret
      exact ⟨ret_int HR.out.symm, by (repeat (with_reducible (first | exact Ext.refl _ | assumption | exact held_left (by assumption) | apply Ext.drewN | apply Ext.drew | apply Ext.alloc | (refine Ext.setCell ?_ (by first | (simp; done) | (simp; omega) | omega) _) | (refine Ext.trans ?_ (by assumption)) | (refine Ext.trans ?_ (held_left (by assumption))))))⟩

end Go.Proofs.YthdjinicmnhgpaaGreat

/-
Whether a row fits a relation: the program's answer, the reference's.
-/
namespace Go.Proofs.YthdjinicmnhgpaaGreat
open Go.RowKit

/-- What is wrong with the cell of a column. -/
def fitAt (l : List K) (cols : List Col) (i : Nat) : Int := if h : i < l.length ∧ i < cols.length then (l[i]'h.1).right (cols[i]'h.2).ty else 0
theorem fitAt_lt {l : List K} {cols : List Col} {i : Nat} (h : i < l.length) (h2 : i < cols.length) : fitAt l cols i = l[i].right cols[i].ty := by unfold fitAt; rw [dif_pos ⟨h, h2⟩]
/-- What is wrong with a row of a relation. -/
def fitsE (l : List K) (r : Rl) : Int := if r.right ≠ 0 then r.right else if l.length ≠ r.cols.length then 17 else firstE (fitAt l r.cols) l.length

structure K.wk (c : K) : Prop where
  k : 0 ≤ c.k
  s : c.v.s.size ≤ 9223372036854775807

set_option maxRecDepth 100000 in set_option maxHeartbeats 4000000 in
theorem fits_any (l : List K) (a : Option Addr) (cap : Nat) (oid ver : Int) (nm : ByteArray) (id : Int) (cols : List Col) (a2 : Option Addr) (cap2 : Nat) (w : World) (hl : Sl w (.slice a l.length cap) 5 (l.map K.pc)) (hl2 : Sl w (.slice a2 cols.length cap2) 3 (cols.map Col.cells))
    (hcap2 : cols.length ≤ cap2) (_hlen : l.length ≤ 1000) (hlen2 : cols.length ≤ 1000) (hs : ∀ c ∈ l, c.wk) (hs2 : ∀ c ∈ cols, c.nm.size ≤ 9223372036854775807) (hnm : nm.size ≤ 9223372036854775807) :
    Calls Tryz.prog 96 #[.slice a l.length cap, .agg #[.int .u32 oid, .int .u32 ver, .string nm, .int .u8 id, .slice a2 cols.length cap2]] w fun e w' => e = .returned (.int .i64 (fitsE l (⟨oid, ver, nm, id, cols⟩ : Rl))) ∧ Ext w w' := by
  have HR := Hid.mk' (fun W (h : Ext w W) => right8_any oid ver nm id cols a2 cap2 W (hl2.ext h) hcap2 hlen2 hnm hs2)
  have HF : Hid (fitsE l (⟨oid, ver, nm, id, cols⟩ : Rl) = if (⟨oid, ver, nm, id, cols⟩ : Rl).right ≠ 0 then (⟨oid, ver, nm, id, cols⟩ : Rl).right else if l.length ≠ cols.length then 17 else firstE (fitAt l cols) l.length) := Hid.mk' rfl
  have HL := Hid.mk' hl
  have HL2 := Hid.mk' hl2
  have HS := Hid.mk' hs
  clear hl hl2 hs hs2
  generalize (⟨oid, ver, nm, id, cols⟩ : Rl).right = E at *
  by_cases h0 : E = 0
  case neg =>
    have HF2 := Hid.mk' (HF.out.trans (if_pos h0))
    have h0' : (E != 0) = true := by simpa using h0
    clear h0 HF
    go_enter Tryz.func96, Tryz.ntmps96
    go_wp2_with (go_at_call 37; refine (HR.out _ (by (repeat (with_reducible (first | exact Ext.refl _ | assumption | exact held_left (by assumption) | apply Ext.drewN | apply Ext.drew | apply Ext.alloc | (refine Ext.setCell ?_ (by first | (simp; done) | (simp; omega) | omega) _) | (refine Ext.trans ?_ (by assumption)) | (refine Ext.trans ?_ (held_left (by assumption)))))))).mono ?_; rintro e w1 ⟨rfl, hb1⟩; have hE1 : Ext w w1 := (by (repeat (with_reducible (first | exact Ext.refl _ | assumption | exact held_left (by assumption) | apply Ext.drewN | apply Ext.drew | apply Ext.alloc | (refine Ext.setCell ?_ (by first | (simp; done) | (simp; omega) | omega) _) | (refine Ext.trans ?_ (by assumption)) | (refine Ext.trans ?_ (held_left (by assumption))))))))
    go_ret
    exact ⟨ret_int HF2.out.symm, hE1⟩
  subst h0
  have HF2 := Hid.mk' (HF.out.trans (if_neg (by simp)))
  clear HF
  by_cases hn : l.length = cols.length
  case neg =>
    have HF3 := Hid.mk' (HF2.out.trans (if_pos hn))
    have hn' : (((l.length : Nat) : Int) != ((cols.length : Nat) : Int)) = true := by simp; omega
    clear hn HF2
    go_enter Tryz.func96, Tryz.ntmps96
    go_wp2_with (go_at_call 37; refine (HR.out _ (by (repeat (with_reducible (first | exact Ext.refl _ | assumption | exact held_left (by assumption) | apply Ext.drewN | apply Ext.drew | apply Ext.alloc | (refine Ext.setCell ?_ (by first | (simp; done) | (simp; omega) | omega) _) | (refine Ext.trans ?_ (by assumption)) | (refine Ext.trans ?_ (held_left (by assumption)))))))).mono ?_; rintro e w1 ⟨rfl, hb1⟩; have hE1 : Ext w w1 := (by (repeat (with_reducible (first | exact Ext.refl _ | assumption | exact held_left (by assumption) | apply Ext.drewN | apply Ext.drew | apply Ext.alloc | (refine Ext.setCell ?_ (by first | (simp; done) | (simp; omega) | omega) _) | (refine Ext.trans ?_ (by assumption)) | (refine Ext.trans ?_ (held_left (by assumption))))))); have g0 := ((Blk.new w #[.int .u32 oid, .int .u32 ver, .string nm, .int .u8 id, .slice a2 cols.length cap2] 70).ext hb1).cell)
    go_ret
    exact ⟨ret_int HF3.out.symm, hE1⟩
  have HF3 := Hid.mk' (HF2.out.trans (if_neg (by simpa using hn)))
  have hn' : (((l.length : Nat) : Int) != ((cols.length : Nat) : Int)) = false := by simp; omega
  have hnl : l.length ≤ cols.length := by omega
  clear HF2
  have HNE := Hid.mk' hn
  clear hn
  go_enter Tryz.func96, Tryz.ntmps96
  go_wp2_with (go_at_call 37; refine (HR.out _ (by (repeat (with_reducible (first | exact Ext.refl _ | assumption | exact held_left (by assumption) | apply Ext.drewN | apply Ext.drew | apply Ext.alloc | (refine Ext.setCell ?_ (by first | (simp; done) | (simp; omega) | omega) _) | (refine Ext.trans ?_ (by assumption)) | (refine Ext.trans ?_ (held_left (by assumption)))))))).mono ?_; rintro e w1 ⟨rfl, hb1⟩; have hE1 := Hid.mk' hb1; have g0 := ((Blk.new w #[.int .u32 oid, .int .u32 ver, .string nm, .int .u8 id, .slice a2 cols.length cap2] 70).ext hb1).cell; clear hb1)
  go_loopw [22] (fun i wr => ∃ k : Nat, k ≤ l.length ∧ i = .int .i64 k ∧ Hid (∀ j, j < k → fitAt l cols j = 0) ∧ Hid (Ext (w.alloc (.cells #[.int .u32 oid, .int .u32 ver, .string nm, .int .u8 id, .slice a2 cols.length cap2] 70)) wr)) (fun i _ => l.length - (intOf i).toNat)
  case atStart => exact ⟨0, Nat.zero_le _, rfl, fun j h => by omega, hE1⟩
  case round =>
    obtain ⟨k, hk, rfl, hrel, hE⟩ := hrel
    have hEw : Hid (Ext w wr) := Hid.mk' (((Ext.refl w).alloc _).trans hE.out)
    by_cases hlt : k < l.length
    · have hlt2 : k < cols.length := by omega
      have hBx := (Blk.new w #[.int .u32 oid, .int .u32 ver, .string nm, .int .u8 id, .slice a2 cols.length cap2] 70).ext hE.out
      have g0 := hBx.cell
      have z0 := hBx.lt
      obtain ⟨b, o, rfl, hb, hx⟩ := HL.out.at_ (i := k) (by simpa using hlt)
      obtain ⟨f0, f1, f2, f3, f4⟩ := K.pcAt hlt hx hb hEw.out
      obtain ⟨b2, o2, rfl, hb2, hx2⟩ := HL2.out.at_ (i := k) (by simpa using hlt2)
      obtain ⟨p0, p1, p2⟩ := Col.at_ hlt2 hx2 hb2 hEw.out
      have hbw : b < wr.heap.size := Nat.lt_of_lt_of_le hb hEw.out.size
      have hbw2 : b2 < wr.heap.size := Nat.lt_of_lt_of_le hb2 hEw.out.size
      have hwk := HS.out _ (List.getElem_mem hlt)
      have HC := Hid.mk' (fun W => cright_any l[k].k l[k].v.ty l[k].v.n l[k].v.x l[k].v.y l[k].v.s cols[k].ty W hwk.k hwk.s)
      have hAt := fitAt_lt hlt hlt2
      unfold K.right at hAt
      obtain ⟨E, hE0⟩ : ∃ E, E = rightC l[k].k l[k].v.ty l[k].v.n l[k].v.x l[k].v.y l[k].v.s cols[k].ty := ⟨_, rfl⟩
      rw [← hE0] at HC hAt
      have HAt := Hid.mk' hAt
      clear hx hx2 hAt hE0 hBx hwk
      by_cases h0 : E = 0
      · subst h0
        go_wp2
        go_region_held3 (fun w' => Ext (wr.alloc (.cells #[.int .u8 l[k].k, .int .u8 l[k].v.ty, .int .i64 l[k].v.n, .complex .f64 l[k].v.x l[k].v.y, .string l[k].v.s] 133)) w' ∧ (∀ b o, b < (wr.alloc (.cells #[.int .u8 l[k].k, .int .u8 l[k].v.ty, .int .i64 l[k].v.n, .complex .f64 l[k].v.x l[k].v.y, .string l[k].v.s] 133)).heap.size → w'.cell? ⟨b, o, none⟩ = (wr.alloc (.cells #[.int .u8 l[k].k, .int .u8 l[k].v.ty, .int .i64 l[k].v.n, .complex .f64 l[k].v.x l[k].v.y, .string l[k].v.s] 133)).cell? ⟨b, o, none⟩) ∧ (∀ b o, b < (wr.alloc (.cells #[.int .u8 l[k].k, .int .u8 l[k].v.ty, .int .i64 l[k].v.n, .complex .f64 l[k].v.x l[k].v.y, .string l[k].v.s] 133)).heap.size → w'.frozen? ⟨b, o, none⟩ = (wr.alloc (.cells #[.int .u8 l[k].k, .int .u8 l[k].v.ty, .int .i64 l[k].v.n, .complex .f64 l[k].v.x l[k].v.y, .string l[k].v.s] 133)).frozen? ⟨b, o, none⟩)) ((exact held_of (by (repeat (with_reducible (first | exact Ext.refl _ | assumption | exact held_left (by assumption) | apply Ext.drewN | apply Ext.drew | apply Ext.alloc | (refine Ext.setCell ?_ (by first | (simp; done) | (simp; omega) | omega) _) | (refine Ext.trans ?_ (by assumption)) | (refine Ext.trans ?_ (held_left (by assumption)))))))))
          (first
            | (go_at_call 109; refine (HC.out _).mono ?_; rintro e w2 ⟨rfl, hb2'⟩))
        go_wp2
        go_roundw
        case rel => exact ⟨k + 1, by omega, by go_num, fun j hj => by
          by_cases e : j = k
          · subst e; exact HAt.out
          · exact hrel.out j (by omega), Hid.mk' (hE.out.trans (by (repeat (with_reducible (first | exact Ext.refl _ | assumption | exact held_left (by assumption) | apply Ext.drewN | apply Ext.drew | apply Ext.alloc | (refine Ext.setCell ?_ (by first | (simp; done) | (simp; omega) | omega) _) | (refine Ext.trans ?_ (by assumption)) | (refine Ext.trans ?_ (held_left (by assumption))))))))⟩
        case measure => simp [intOf]; omega
      · have h0' : (E != 0) = true := by simpa using h0
        have HR2 := Hid.mk' (HF3.out.trans (show firstE (fitAt l cols) l.length = E by rw [firstE_at hrel.out hlt (by rw [HAt.out]; exact h0), HAt.out]))
        clear h0
        go_wp2
        go_region_held3 (fun w' => Ext (wr.alloc (.cells #[.int .u8 l[k].k, .int .u8 l[k].v.ty, .int .i64 l[k].v.n, .complex .f64 l[k].v.x l[k].v.y, .string l[k].v.s] 133)) w' ∧ (∀ b o, b < (wr.alloc (.cells #[.int .u8 l[k].k, .int .u8 l[k].v.ty, .int .i64 l[k].v.n, .complex .f64 l[k].v.x l[k].v.y, .string l[k].v.s] 133)).heap.size → w'.cell? ⟨b, o, none⟩ = (wr.alloc (.cells #[.int .u8 l[k].k, .int .u8 l[k].v.ty, .int .i64 l[k].v.n, .complex .f64 l[k].v.x l[k].v.y, .string l[k].v.s] 133)).cell? ⟨b, o, none⟩) ∧ (∀ b o, b < (wr.alloc (.cells #[.int .u8 l[k].k, .int .u8 l[k].v.ty, .int .i64 l[k].v.n, .complex .f64 l[k].v.x l[k].v.y, .string l[k].v.s] 133)).heap.size → w'.frozen? ⟨b, o, none⟩ = (wr.alloc (.cells #[.int .u8 l[k].k, .int .u8 l[k].v.ty, .int .i64 l[k].v.n, .complex .f64 l[k].v.x l[k].v.y, .string l[k].v.s] 133)).frozen? ⟨b, o, none⟩)) ((exact held_of (by (repeat (with_reducible (first | exact Ext.refl _ | assumption | exact held_left (by assumption) | apply Ext.drewN | apply Ext.drew | apply Ext.alloc | (refine Ext.setCell ?_ (by first | (simp; done) | (simp; omega) | omega) _) | (refine Ext.trans ?_ (by assumption)) | (refine Ext.trans ?_ (held_left (by assumption)))))))))
          (first
            | (go_at_call 109; refine (HC.out _).mono ?_; rintro e w2 ⟨rfl, hb2'⟩))
        go_wp2
        go_ret
        exact ⟨ret_int HR2.out.symm, hEw.out.trans (by (repeat (with_reducible (first | exact Ext.refl _ | assumption | exact held_left (by assumption) | apply Ext.drewN | apply Ext.drew | apply Ext.alloc | (refine Ext.setCell ?_ (by first | (simp; done) | (simp; omega) | omega) _) | (refine Ext.trans ?_ (by assumption)) | (refine Ext.trans ?_ (held_left (by assumption)))))))⟩
    · have hkk : k = l.length := by omega
      have HR2 := Hid.mk' (HF3.out.trans (firstE_zero (fun i hi => hrel.out i (by omega))))
      subst hkk
      go_wp2
      go_ret
      exact ⟨ret_int HR2.out.symm, hEw.out⟩

set_option maxRecDepth 100000 in set_option maxHeartbeats 4000000 in
theorem rfits_big (l : List K) (a : Option Addr) (cap : Nat) (oid ver : Int) (nm : ByteArray) (id : Int) (cols : List Col) (a2 : Option Addr) (cap2 : Nat) (w : World) (hl : Sl w (.slice a l.length cap) 6 (l.map K.rc)) (hl2 : Sl w (.slice a2 cols.length cap2) 3 (cols.map Col.cells))
    (hlen : l.length ≤ 9223372036854775807) (hlen2 : cols.length ≤ 9223372036854775807) (hs : ∀ c ∈ l, c.wk) (hs2 : ∀ c ∈ cols, c.nm.size ≤ 9223372036854775807) (hnm : nm.size ≤ 9223372036854775807) :
    Calls Tryz.prog 97 #[.slice a l.length cap, .agg #[.int .u32 oid, .int .u32 ver, .string nm, .int .u8 id, .slice a2 cols.length cap2]] w fun e w' => e = .returned (.int .i64 (fitsE l (⟨oid, ver, nm, id, cols⟩ : Rl))) ∧ Ext w w' := by
  have HR := Hid.mk' (fun W (h : Ext w W) => rright8_big oid ver nm id cols a2 cap2 W (hl2.ext h) hlen2 hnm hs2)
  have HF : Hid (fitsE l (⟨oid, ver, nm, id, cols⟩ : Rl) = if (⟨oid, ver, nm, id, cols⟩ : Rl).right ≠ 0 then (⟨oid, ver, nm, id, cols⟩ : Rl).right else if l.length ≠ cols.length then 17 else firstE (fitAt l cols) l.length) := Hid.mk' rfl
  have HL := Hid.mk' hl
  have HL2 := Hid.mk' hl2
  have HS := Hid.mk' hs
  clear hl hl2 hs hs2
  generalize (⟨oid, ver, nm, id, cols⟩ : Rl).right = E at *
  by_cases h0 : E = 0
  case neg =>
    have HF2 := Hid.mk' (HF.out.trans (if_pos h0))
    have h0' : (E != 0) = true := by simpa using h0
    clear h0 HF
    go_enter Tryz.func97, Tryz.ntmps97
    go_wp2_with (go_at_call 34; refine (HR.out _ (by (repeat (with_reducible (first | exact Ext.refl _ | assumption | exact held_left (by assumption) | apply Ext.drewN | apply Ext.drew | apply Ext.alloc | (refine Ext.setCell ?_ (by first | (simp; done) | (simp; omega) | omega) _) | (refine Ext.trans ?_ (by assumption)) | (refine Ext.trans ?_ (held_left (by assumption)))))))).mono ?_; rintro e w1 ⟨rfl, hb1⟩; have hE1 : Ext w w1 := (by (repeat (with_reducible (first | exact Ext.refl _ | assumption | exact held_left (by assumption) | apply Ext.drewN | apply Ext.drew | apply Ext.alloc | (refine Ext.setCell ?_ (by first | (simp; done) | (simp; omega) | omega) _) | (refine Ext.trans ?_ (by assumption)) | (refine Ext.trans ?_ (held_left (by assumption))))))))
    go_ret
    exact ⟨ret_int HF2.out.symm, hE1⟩
  subst h0
  have HF2 := Hid.mk' (HF.out.trans (if_neg (by simp)))
  clear HF
  by_cases hn : l.length = cols.length
  case neg =>
    have HF3 := Hid.mk' (HF2.out.trans (if_pos hn))
    have hn' : (((l.length : Nat) : Int) != ((cols.length : Nat) : Int)) = true := by simp; omega
    clear hn HF2
    go_enter Tryz.func97, Tryz.ntmps97
    go_wp2_with (go_at_call 34; refine (HR.out _ (by (repeat (with_reducible (first | exact Ext.refl _ | assumption | exact held_left (by assumption) | apply Ext.drewN | apply Ext.drew | apply Ext.alloc | (refine Ext.setCell ?_ (by first | (simp; done) | (simp; omega) | omega) _) | (refine Ext.trans ?_ (by assumption)) | (refine Ext.trans ?_ (held_left (by assumption)))))))).mono ?_; rintro e w1 ⟨rfl, hb1⟩; have hE1 : Ext w w1 := (by (repeat (with_reducible (first | exact Ext.refl _ | assumption | exact held_left (by assumption) | apply Ext.drewN | apply Ext.drew | apply Ext.alloc | (refine Ext.setCell ?_ (by first | (simp; done) | (simp; omega) | omega) _) | (refine Ext.trans ?_ (by assumption)) | (refine Ext.trans ?_ (held_left (by assumption))))))); have g0 := ((Blk.new w #[.int .u32 oid, .int .u32 ver, .string nm, .int .u8 id, .slice a2 cols.length cap2] 62).ext hb1).cell)
    go_ret
    exact ⟨ret_int HF3.out.symm, hE1⟩
  have HF3 := Hid.mk' (HF2.out.trans (if_neg (by simpa using hn)))
  have hn' : (((l.length : Nat) : Int) != ((cols.length : Nat) : Int)) = false := by simp; omega
  have hnl : l.length ≤ cols.length := by omega
  clear HF2
  have HNE := Hid.mk' hn
  clear hn
  go_enter Tryz.func97, Tryz.ntmps97
  go_wp2_with (go_at_call 34; refine (HR.out _ (by (repeat (with_reducible (first | exact Ext.refl _ | assumption | exact held_left (by assumption) | apply Ext.drewN | apply Ext.drew | apply Ext.alloc | (refine Ext.setCell ?_ (by first | (simp; done) | (simp; omega) | omega) _) | (refine Ext.trans ?_ (by assumption)) | (refine Ext.trans ?_ (held_left (by assumption)))))))).mono ?_; rintro e w1 ⟨rfl, hb1⟩; have hE1 := Hid.mk' hb1; have g0 := ((Blk.new w #[.int .u32 oid, .int .u32 ver, .string nm, .int .u8 id, .slice a2 cols.length cap2] 62).ext hb1).cell; clear hb1)
  go_loopw [6] (fun i wr => ∃ k : Nat, k ≤ l.length ∧ i = .int .i64 k ∧ Hid (∀ j, j < k → fitAt l cols j = 0) ∧ Hid (Ext (w.alloc (.cells #[.int .u32 oid, .int .u32 ver, .string nm, .int .u8 id, .slice a2 cols.length cap2] 62)) wr)) (fun i _ => l.length - (intOf i).toNat)
  case atStart => exact ⟨0, Nat.zero_le _, rfl, fun j h => by omega, hE1⟩
  case round =>
    obtain ⟨k, hk, rfl, hrel, hE⟩ := hrel
    have hEw : Hid (Ext w wr) := Hid.mk' (((Ext.refl w).alloc _).trans hE.out)
    by_cases hlt : k < l.length
    · have hlt2 : k < cols.length := by omega
      have hBx := (Blk.new w #[.int .u32 oid, .int .u32 ver, .string nm, .int .u8 id, .slice a2 cols.length cap2] 62).ext hE.out
      have g0 := hBx.cell
      have z0 := hBx.lt
      obtain ⟨b, o, rfl, hb, hx⟩ := HL.out.at_ (i := k) (by simpa using hlt)
      obtain ⟨f0, f1, f2, f3, f4, f5⟩ := K.rcAt hlt hx hb hEw.out
      obtain ⟨b2, o2, rfl, hb2, hx2⟩ := HL2.out.at_ (i := k) (by simpa using hlt2)
      obtain ⟨p0, p1, p2⟩ := Col.at_ hlt2 hx2 hb2 hEw.out
      have hbw : b < wr.heap.size := Nat.lt_of_lt_of_le hb hEw.out.size
      have hbw2 : b2 < wr.heap.size := Nat.lt_of_lt_of_le hb2 hEw.out.size
      have hwk := HS.out _ (List.getElem_mem hlt)
      have HC := Hid.mk' (fun W => rcright_any l[k].k l[k].v.ty l[k].v.n l[k].v.x l[k].v.y l[k].v.s cols[k].ty W hwk.k hwk.s)
      have hAt := fitAt_lt hlt hlt2
      unfold K.right at hAt
      obtain ⟨E, hE0⟩ : ∃ E, E = rightC l[k].k l[k].v.ty l[k].v.n l[k].v.x l[k].v.y l[k].v.s cols[k].ty := ⟨_, rfl⟩
      rw [← hE0] at HC hAt
      have HAt := Hid.mk' hAt
      clear hx hx2 hAt hE0 hBx hwk
      by_cases h0 : E = 0
      · subst h0
        go_wp2
        go_region_held3 (fun w' => Ext (wr) w' ∧ (∀ b o, b < (wr).heap.size → w'.cell? ⟨b, o, none⟩ = (wr).cell? ⟨b, o, none⟩) ∧ (∀ b o, b < (wr).heap.size → w'.frozen? ⟨b, o, none⟩ = (wr).frozen? ⟨b, o, none⟩)) ((exact held_of (by (repeat (with_reducible (first | exact Ext.refl _ | assumption | exact held_left (by assumption) | apply Ext.drewN | apply Ext.drew | apply Ext.alloc | (refine Ext.setCell ?_ (by first | (simp; done) | (simp; omega) | omega) _) | (refine Ext.trans ?_ (by assumption)) | (refine Ext.trans ?_ (held_left (by assumption)))))))))
          (first
            | (go_at_call 110; refine (HC.out _).mono ?_; rintro e w2 ⟨rfl, hb2'⟩))
        go_wp2
        go_roundw
        case rel => exact ⟨k + 1, by omega, by go_num, fun j hj => by
          by_cases e : j = k
          · subst e; exact HAt.out
          · exact hrel.out j (by omega), Hid.mk' (hE.out.trans (by (repeat (with_reducible (first | exact Ext.refl _ | assumption | exact held_left (by assumption) | apply Ext.drewN | apply Ext.drew | apply Ext.alloc | (refine Ext.setCell ?_ (by first | (simp; done) | (simp; omega) | omega) _) | (refine Ext.trans ?_ (by assumption)) | (refine Ext.trans ?_ (held_left (by assumption))))))))⟩
        case measure => simp [intOf]; omega
      · have h0' : (E != 0) = true := by simpa using h0
        have HR2 := Hid.mk' (HF3.out.trans (show firstE (fitAt l cols) l.length = E by rw [firstE_at hrel.out hlt (by rw [HAt.out]; exact h0), HAt.out]))
        clear h0
        go_wp2
        go_region_held3 (fun w' => Ext (wr) w' ∧ (∀ b o, b < (wr).heap.size → w'.cell? ⟨b, o, none⟩ = (wr).cell? ⟨b, o, none⟩) ∧ (∀ b o, b < (wr).heap.size → w'.frozen? ⟨b, o, none⟩ = (wr).frozen? ⟨b, o, none⟩)) ((exact held_of (by (repeat (with_reducible (first | exact Ext.refl _ | assumption | exact held_left (by assumption) | apply Ext.drewN | apply Ext.drew | apply Ext.alloc | (refine Ext.setCell ?_ (by first | (simp; done) | (simp; omega) | omega) _) | (refine Ext.trans ?_ (by assumption)) | (refine Ext.trans ?_ (held_left (by assumption)))))))))
          (first
            | (go_at_call 110; refine (HC.out _).mono ?_; rintro e w2 ⟨rfl, hb2'⟩))
        go_wp2
        go_ret
        exact ⟨ret_int HR2.out.symm, hEw.out.trans (by (repeat (with_reducible (first | exact Ext.refl _ | assumption | exact held_left (by assumption) | apply Ext.drewN | apply Ext.drew | apply Ext.alloc | (refine Ext.setCell ?_ (by first | (simp; done) | (simp; omega) | omega) _) | (refine Ext.trans ?_ (by assumption)) | (refine Ext.trans ?_ (held_left (by assumption)))))))⟩
    · have hkk : k = l.length := by omega
      have HR2 := Hid.mk' (HF3.out.trans (firstE_zero (fun i hi => hrel.out i (by omega))))
      subst hkk
      go_wp2
      go_ret
      exact ⟨ret_int HR2.out.symm, hEw.out⟩

theorem rfits_any (l : List K) (a : Option Addr) (cap : Nat) (oid ver : Int) (nm : ByteArray) (id : Int) (cols : List Col) (a2 : Option Addr) (cap2 : Nat) (w : World) (hl : Sl w (.slice a l.length cap) 6 (l.map K.rc)) (hl2 : Sl w (.slice a2 cols.length cap2) 3 (cols.map Col.cells))
    (hlen : l.length ≤ 1000) (hlen2 : cols.length ≤ 1000) (hs : ∀ c ∈ l, c.wk) (hs2 : ∀ c ∈ cols, c.nm.size ≤ 9223372036854775807) (hnm : nm.size ≤ 9223372036854775807) :
    Calls Tryz.prog 97 #[.slice a l.length cap, .agg #[.int .u32 oid, .int .u32 ver, .string nm, .int .u8 id, .slice a2 cols.length cap2]] w fun e w' => e = .returned (.int .i64 (fitsE l (⟨oid, ver, nm, id, cols⟩ : Rl))) ∧ Ext w w' :=
  rfits_big l a cap oid ver nm id cols a2 cap2 w hl hl2 (by omega) (by omega) hs hs2 hnm

end Go.Proofs.YthdjinicmnhgpaaGreat
