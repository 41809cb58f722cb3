/-
A catalog of relations: the program's Of, Get.
-/
import Derived.RangeFuncBox
import Derived.Test.YthdjinicmnhgpaaGreatDoorP7
namespace Go.Proofs.YthdjinicmnhgpaaGreatDoor
open Go.RowKit

theorem Ca.S_ge {W : World} {N g : Nat} {c : Value} {ps : List RR} (h : Ca W N g c ps) : ∀ x, Ca.S g c x → N ≤ x := fun x hx => by
  rcases hx with rfl | hx
  · exact h.gN
  · exact (h.own.lt x hx).1

def COfPost (l : List Rl) (w : World) (e : Ending) (w' : World) : Prop :=
  ∃ pv, e = .returned (.tuple #[.pointer pv, .int .i64 (ofPl l : Nat), .int .i64 (ofE l)]) ∧ (ofE l = 0 → pv = some ⟨w.heap.size, 0, none⟩ ∧ ∃ c qs, Ca w' w.heap.size w.heap.size c qs ∧ qs.map RR.r = ofUp l l.length) ∧ (ofE l ≠ 0 → pv = none) ∧ Ext w w'

set_option maxRecDepth 100000 in set_option maxHeartbeats 4000000 in
theorem cof_any (ps : List RR) (a : Option Addr) (cap : Nat) (w : World) (hl : RL w (.slice a ps.length cap) ps) (hcap : ∀ p ∈ ps, p.r.cols.length ≤ p.c) (hb : ∀ p ∈ ps, p.r.wb) (hlen : ps.length ≤ 1000) :
    Calls Tryz.prog 7 #[.slice a ps.length cap] w (COfPost (ps.map RR.r) w) := by
  have HL := Hid.mk' hl
  have HB := Hid.mk' hb
  have HCP := Hid.mk' hcap
  clear hl hb hcap
  go_enter Tryz.func7, Tryz.ntmps7
  go_wp2_with (go_at_call 24; refine (new_any _).mono ?_; rintro e w1 ⟨rfl, rfl⟩)
  go_loopw [12] (fun i wr => ∃ (k : Nat) (c : Value) (qs : List RR), k ≤ ps.length ∧ i = .int .i64 k ∧ Hid (∀ j, j < k → ofAt (ps.map RR.r) j = 0) ∧ Hid (Ca wr w.heap.size w.heap.size c qs) ∧ Hid (qs.map RR.r = ofUp (ps.map RR.r) k) ∧ Hid (Ext w wr)) (fun i _ => ps.length - (intOf i).toNat)
  case atStart => exact ⟨0, _, [], Nat.zero_le _, rfl, Hid.mk' (fun j h => by omega), Hid.mk' (Ca.new w), Hid.mk' rfl, Hid.mk' (by (repeat (with_reducible (first | exact Ext.refl _ | assumption | exact held_left (by assumption) | apply Ext.drewN | apply Ext.drew | apply Ext.alloc | (refine Ext.setCell ?_ (by first | (simp; done) | (simp; omega) | omega) _) | (refine Ext.trans ?_ (by assumption)) | (refine Ext.trans ?_ (held_left (by assumption)))))))⟩
  case round =>
    obtain ⟨k, c, qs, hk, rfl, hz, hca, hqs, hE⟩ := hrel
    by_cases hlt : k < ps.length
    · obtain ⟨b, o, rfl, hb, hx⟩ := HL.out.row.at_ (i := k) (by simpa using hlt)
      obtain ⟨f0, f1, f2, f3, f4⟩ := RR.at_ hlt hx hb hE.out
      have hbw : b < wr.heap.size := Nat.lt_of_lt_of_le hb hE.out.size
      have hin := HL.out.sl _ (List.getElem_mem hlt)
      have hwb := HB.out _ (List.getElem_mem hlt)
      have hcp := HCP.out _ (List.getElem_mem hlt)
      have hlt2 : k < (ps.map RR.r).length := by simpa using hlt
      have HS : Hid (ofUp (ps.map RR.r) (k + 1) = addL (qs.map RR.r) ps[k].r) := Hid.mk' (by rw [ofUp_succ hlt2, List.getElem_map, hqs.out])
      have HAT : Hid (ofAt (ps.map RR.r) k = addE (qs.map RR.r) ps[k].r) := Hid.mk' (by unfold ofAt; rw [dif_pos hlt2, List.getElem_map, hqs.out])
      obtain ⟨p, hp⟩ : ∃ p, p = ps[k] := ⟨_, rfl⟩
      rw [← hp] at f0 f1 f2 f3 f4 hin hwb hcp HS HAT
      have HAD := Hid.mk' (fun W (h : Ext wr W) => cadd_any w.heap.size w.heap.size c qs p W (hca.out.ext h) (hin.ext (hE.out.trans h)) hcp hwb)
      unfold CAddPost RR.agg at HAD
      rw [← HAT.out] at HAD
      clear hx hp hin hwb hcp
      obtain ⟨E, hEE⟩ : ∃ E, E = ofAt (ps.map RR.r) k := ⟨_, rfl⟩
      rw [← hEE] at HAD
      have HSG := Hid.mk' hca.out.S_ge
      by_cases h0 : E = 0
      · have H0 := Hid.mk' (hEE.symm.trans h0)
        subst h0
        clear hEE
        go_wp2_with (go_at_call 25; refine (HAD.out _ (by (repeat (with_reducible (first | exact Ext.refl _ | assumption | exact held_left (by assumption) | apply Ext.drewN | apply Ext.drew | apply Ext.alloc | (refine Ext.setCell ?_ (by first | (simp; done) | (simp; omega) | omega) _) | (refine Ext.trans ?_ (by assumption)) | (refine Ext.trans ?_ (held_left (by assumption)))))))).mono ?_; rintro e w1 ⟨c', q', rfl, hqr, hc', hkp, -⟩; have HC' := Hid.mk' hc'; have HQR := Hid.mk' hqr; have HE1 := Hid.mk' (Kp.ext (show Ext w _ from hE.out.trans (by (repeat (with_reducible (first | exact Ext.refl _ | assumption | exact held_left (by assumption) | apply Ext.drewN | apply Ext.drew | apply Ext.alloc | (refine Ext.setCell ?_ (by first | (simp; done) | (simp; omega) | omega) _) | (refine Ext.trans ?_ (by assumption)) | (refine Ext.trans ?_ (held_left (by assumption)))))))) (fun x hx _ => HSG.out x hx) hkp); clear hc' hqr hkp)
        go_roundw
        case rel => exact ⟨k + 1, c', _, by omega, by go_num, Hid.mk' (fun j hj => by
          by_cases e : j = k
          · subst e; exact H0.out
          · exact hz.out j (by omega)), HC', Hid.mk' (by rw [addP_r, HS.out, HQR.out]), HE1⟩
        case measure => simp [intOf]; omega
      · have h0' : (E != 0) = true := by simpa using h0
        have HF := Hid.mk' (show ofE (ps.map RR.r) = E by unfold ofE; rw [firstE_at hz.out hlt2 (by rw [← hEE]; exact h0), hEE])
        have HPL := Hid.mk' (show ofPl (ps.map RR.r) = k from plE_at hz.out (by rw [← hEE]; exact h0) hlt2)
        have H0 := Hid.mk' h0
        clear h0 hEE
        go_wp2_with (go_at_call 25; refine (HAD.out _ (by (repeat (with_reducible (first | exact Ext.refl _ | assumption | exact held_left (by assumption) | apply Ext.drewN | apply Ext.drew | apply Ext.alloc | (refine Ext.setCell ?_ (by first | (simp; done) | (simp; omega) | omega) _) | (refine Ext.trans ?_ (by assumption)) | (refine Ext.trans ?_ (held_left (by assumption)))))))).mono ?_; rintro e w1 ⟨c', q', rfl, hqr, hc', hkp, -⟩; have HE1 := Hid.mk' (Kp.ext (show Ext w _ from hE.out.trans (by (repeat (with_reducible (first | exact Ext.refl _ | assumption | exact held_left (by assumption) | apply Ext.drewN | apply Ext.drew | apply Ext.alloc | (refine Ext.setCell ?_ (by first | (simp; done) | (simp; omega) | omega) _) | (refine Ext.trans ?_ (by assumption)) | (refine Ext.trans ?_ (held_left (by assumption)))))))) (fun x hx _ => HSG.out x hx) hkp); clear hc' hqr hkp)
        go_ret3
        exact ⟨none, by rw [HF.out, HPL.out]; rfl, fun h => absurd (HF.out.symm.trans h) H0.out, fun _ => rfl, HE1.out⟩
    · obtain rfl : k = ps.length := by omega
      have HF := Hid.mk' (show ofE (ps.map RR.r) = 0 by unfold ofE; exact firstE_zero (by rw [List.length_map]; exact hz.out))
      have HPL := Hid.mk' (show ofPl (ps.map RR.r) = ps.length by unfold ofPl; rw [plE_zero (by rw [List.length_map]; exact hz.out), List.length_map])
      go_wp2
      go_ret3
      exact ⟨_, by rw [HF.out, HPL.out]; rfl, fun _ => ⟨rfl, c, qs, hca.out, by rw [List.length_map]; exact hqs.out⟩, fun h => absurd HF.out h, hE.out⟩

set_option maxRecDepth 100000 in set_option maxHeartbeats 4000000 in
theorem cget_any (N g : Nat) (c : Value) (ps : List RR) (o v : Int) (w : World) (hc : Ca w N g c ps) :
    Calls Tryz.prog 33 #[.pointer (some ⟨g, 0, none⟩), .agg #[.int .u32 o, .int .u32 v]] w fun e w' => ∃ q : RR, e = .returned (.tuple #[q.agg, .bool (hasR o v (ps.map RR.r))]) ∧ q.r = ((getP o v ps).getD RR.zero).r ∧ q.owned w.heap.size w' ∧ Ext w w' := by
  obtain ⟨a, cap, rfl⟩ := hc.shape
  have HFD := Hid.mk' (fun W (h : Ext w W) => find_any N g _ ps o v W (hc.ext h))
  have HC := Hid.mk' hc
  have hhas := hc.ok.srt.has o v
  have g0 := hc.ptr.cell
  have z0 := hc.ptr.lt
  clear hc
  obtain ⟨P, hP⟩ : ∃ P, P = posR o v (ps.map RR.r) := ⟨_, rfl⟩
  rw [← hP] at HFD
  cases hh : hasR o v (ps.map RR.r) with
  | false =>
    rw [hh] at HFD
    have HN : Hid (getP o v ps = none) := Hid.mk' (by
      have := getP_is o v ps
      rw [hh] at this
      exact Option.not_isSome_iff_eq_none.1 (by rw [this]; simp))
    clear hh hhas hP
    go_enter Tryz.func33, Tryz.ntmps33
    go_wp2_with (go_at_call 46; refine (HFD.out _ (by (repeat (with_reducible (first | exact Ext.refl _ | assumption | exact held_left (by assumption) | apply Ext.drewN | apply Ext.drew | apply Ext.alloc | (refine Ext.setCell ?_ (by first | (simp; done) | (simp; omega) | omega) _) | (refine Ext.trans ?_ (by assumption)) | (refine Ext.trans ?_ (held_left (by assumption)))))))).mono ?_; rintro e w1 ⟨rfl, hb1⟩; have HB1 := Hid.mk' ((Blk.new' (w := w.alloc (.cells #[.int .u32 o, .int .u32 v] 70)) (b := w.heap.size + 1) #[.int .u32 0, .int .u32 0, .string ⟨#[]⟩, .int .u8 0, .slice none 0 0] 73 (by simp)).ext hb1); have g1 := HB1.out.cell; have g1f := HB1.out.frozen; have z1 := HB1.out.lt)
    simp [bodyPost, results, Tryz.results33, go_sem, *]
    refine ⟨RR.zero, ⟨rfl, by rw [HN.out]; rfl, World.ownsRow_nil _ _ _ _, by (repeat (with_reducible (first | exact Ext.refl _ | assumption | exact held_left (by assumption) | apply Ext.drewN | apply Ext.drew | apply Ext.alloc | (refine Ext.setCell ?_ (by first | (simp; done) | (simp; omega) | omega) _) | (refine Ext.trans ?_ (by assumption)) | (refine Ext.trans ?_ (held_left (by assumption))))))⟩⟩
  | true =>
    rw [hh] at HFD hhas
    have hex := of_decide_eq_true hhas.symm
    obtain ⟨hi, hq⟩ := hex
    simp only [← hP, List.getElem_map] at hi hq
    have hlt : P < ps.length := by simpa using hi
    have HG : Hid (getP o v ps = some ps[P]) := Hid.mk' (getP_at hlt hq (fun j hj hjp hq2 => by
      have := HC.out.ok.srt.at_ (i := j) (j := P) (by simpa using hj) (by simpa using hlt) hjp
      unfold Rl.lt at this
      simp only [List.getElem_map] at this
      rw [hq.1, hq.2, hq2.1, hq2.2] at this
      exact ahead_irr this))
    have HOW := Hid.mk' (fun W (h : Ext w W) => pown_any ps[P] W ((HC.out.sl _ (List.getElem_mem hlt)).ext h) (by have := HC.out.n16 (List.getElem_mem hlt); omega))
    obtain ⟨b, q, rfl, hb, hx⟩ := HC.out.rl.row.at_ (i := P) (by simpa using hlt)
    have HF := Hid.mk' (fun W (h : Ext w W) => RR.at_ hlt hx hb h)
    obtain ⟨p, hp⟩ : ∃ p, p = ps[P] := ⟨_, rfl⟩
    rw [← hp] at HG HOW HF
    unfold RR.agg at HOW
    clear hh hhas hP hi hq hx hp
    go_enter Tryz.func33, Tryz.ntmps33
    go_wp2_with (first
      | (go_at_call 46; refine (HFD.out _ (by (repeat (with_reducible (first | exact Ext.refl _ | assumption | exact held_left (by assumption) | apply Ext.drewN | apply Ext.drew | apply Ext.alloc | (refine Ext.setCell ?_ (by first | (simp; done) | (simp; omega) | omega) _) | (refine Ext.trans ?_ (by assumption)) | (refine Ext.trans ?_ (held_left (by assumption)))))))).mono ?_; rintro e w1 ⟨rfl, hb1⟩; have HE1 := Hid.mk' (show Ext ((w.alloc (.cells #[.int .u32 o, .int .u32 v] 70)).alloc (.cells #[.int .u32 0, .int .u32 0, .string ⟨#[]⟩, .int .u8 0, .slice none 0 0] 73)) w1 from hb1); have hEw : Ext w w1 := (((Ext.refl w).alloc _).alloc _).trans hb1; obtain ⟨f0, f1, f2, f3, f4⟩ := HF.out _ hEw; have g2 := (HC.out.ptr.ext hEw).cell; have z2 := (HC.out.ptr.ext hEw).lt; have hbw : b < w1.heap.size := Nat.lt_of_lt_of_le hb hEw.size; have HEw := Hid.mk' hEw; clear hEw hb1)
      | (go_at_call 48; refine (HOW.out _ HEw.out).mono ?_; rintro e w3 ⟨⟨r', a', c'⟩, rfl, hqr, hqo, hb3⟩; simp only at hqr; subst hqr; have HQO := Hid.mk' hqo; have HE3 := Hid.mk' (HE1.out.trans hb3); have HB1 := Hid.mk' ((Blk.new' (w := w.alloc (.cells #[.int .u32 o, .int .u32 v] 70)) (b := w.heap.size + 1) #[.int .u32 0, .int .u32 0, .string ⟨#[]⟩, .int .u8 0, .slice none 0 0] 73 (by simp)).ext HE3.out); have g1 := HB1.out.cell; have g1f := HB1.out.frozen; have z1 := HB1.out.lt; have hzz := HE1.out.size; clear hqo hb3; try simp only))
    simp [bodyPost, results, Tryz.results33, go_sem, *]
    have hEw : Ext w w3 := (((Ext.refl w).alloc _).alloc _).trans HE3.out
    simp only [World.size_alloc] at hzz
    refine ⟨⟨p.r, a', c'⟩, rfl, by rw [HG.out]; rfl, ?_, by (repeat (with_reducible (first | exact Ext.refl _ | assumption | exact held_left (by assumption) | apply Ext.drewN | apply Ext.drew | apply Ext.alloc | (refine Ext.setCell ?_ (by first | (simp; done) | (simp; omega) | omega) _) | (refine Ext.trans ?_ (by assumption)) | (refine Ext.trans ?_ (held_left (by assumption))))))⟩
    exact owns_base (base := w1.heap.size) (owns_set (owns_set (owns_set (owns_set (owns_set HQO.out (by dsimp only; omega) _) (by dsimp only; omega) _) (by dsimp only; omega) _) (by dsimp only; omega) _) (by dsimp only; omega) _) (by omega)

end Go.Proofs.YthdjinicmnhgpaaGreatDoor

/-
A row of cells in a block of the call's own: read, written at an index, made, cloned.
-/
namespace Go.Proofs.YthdjinicmnhgpaaGreatDoor
open Go.RowKit

def RowAt (W : World) (g : Nat) (ks : List K) : Prop := ∃ cs : Array Value, Blk W g cs 158 ∧ ks.length * 5 ≤ cs.size ∧ ∀ i (hi : i < ks.length), ∀ j, j < 5 → cs[i * 5 + j]? = (ks[i].pc)[j]?
section
variable {W W' : World} {g : Nat} {ks : List K}
theorem RowAt.lt (h : RowAt W g ks) : g < W.heap.size := by obtain ⟨cs, hb, _⟩ := h; exact hb.lt
theorem RowAt.ext (h : RowAt W g ks) (he : Ext W W') : RowAt W' g ks := by obtain ⟨cs, hb, hr⟩ := h; exact ⟨cs, hb.ext he, hr⟩
theorem RowAt.drew (h : RowAt W g ks) : RowAt W.drew g ks := h
theorem RowAt.alloc (h : RowAt W g ks) (o : Obj) : RowAt (W.alloc o) g ks := h.ext ((Ext.refl W).alloc o)
theorem RowAt.other (h : RowAt W g ks) (a : Addr) (v : Value) (hne : g ≠ a.block) : RowAt (W.setCell a v) g ks := by obtain ⟨cs, hb, hr⟩ := h; exact ⟨cs, hb.other a v hne, hr⟩
theorem RowAt.kept (h : RowAt W g ks) {row : Option Nat} (hg : W.grownBy W' row) (hr : ∀ r, row = some r → ∃ o : Obj, W.heap[r]? = some o ∧ o.isCells = false) : RowAt W' g ks := by
  obtain ⟨cs, hb, hx⟩ := h
  refine ⟨cs, (hg.block g hb.lt (fun e => ?_)).trans hb, hx⟩
  obtain ⟨o, ho, hc⟩ := hr g e.symm
  rw [show W.heap[g]? = _ from hb] at ho
  cases ho; cases hc
theorem RowAt.frozen (h : RowAt W g ks) (o : Nat) : W.frozen? ⟨g, o, none⟩ = false := by obtain ⟨cs, hb, _⟩ := h; exact hb.frozen o
theorem RowAt.cells (h : RowAt W g ks) {i : Nat} (hi : i < ks.length) : W.cell? ⟨g, i * 5, none⟩ = some (.int .u8 ks[i].k) ∧ W.cell? ⟨g, i * 5 + 1, none⟩ = some (.int .u8 ks[i].v.ty) ∧ W.cell? ⟨g, i * 5 + 2, none⟩ = some (.int .i64 ks[i].v.n) ∧
    W.cell? ⟨g, i * 5 + 3, none⟩ = some (.complex .f64 ks[i].v.x ks[i].v.y) ∧ W.cell? ⟨g, i * 5 + 4, none⟩ = some (.string ks[i].v.s) := by
  obtain ⟨cs, hb, _, hx⟩ := h
  have hx := hx i hi
  exact ⟨(hb.cell _).trans (hx 0 (by omega)), (hb.cell _).trans (hx 1 (by omega)), (hb.cell _).trans (hx 2 (by omega)), (hb.cell _).trans (hx 3 (by omega)), (hb.cell _).trans (hx 4 (by omega))⟩
theorem RowAt.sl (h : RowAt W g ks) (cap : Nat) : Sl W (.slice (some ⟨g, 0, none⟩) ks.length cap) 5 (ks.map K.pc) := by
  obtain ⟨cs, hb, _, hx⟩ := h
  refine ⟨_, cap, by rw [List.length_map], .inr ⟨g, 0, rfl, hb.lt, fun i hi j hj => ?_⟩⟩
  rw [List.length_map] at hi
  rw [getD_map K.pc ks hi, ← hx i hi j hj, Nat.zero_add]
  exact hb.cell _
theorem RowAt.set (h : RowAt W g ks) {i : Nat} (hi : i < ks.length) (c : K) :
    RowAt (((((W.setCell ⟨g, i * 5, none⟩ (.int .u8 c.k)).setCell ⟨g, i * 5 + 1, none⟩ (.int .u8 c.v.ty)).setCell ⟨g, i * 5 + 2, none⟩ (.int .i64 c.v.n)).setCell ⟨g, i * 5 + 3, none⟩ (.complex .f64 c.v.x c.v.y)).setCell ⟨g, i * 5 + 4, none⟩ (.string c.v.s)) g (ks.set i c) := by
  obtain ⟨cs, hb, hs, hx⟩ := h
  refine ⟨_, ((((hb.set _ _).set _ _).set _ _).set _ _).set _ _, by simpa using hs, fun q hq j hj => ?_⟩
  rw [List.length_set] at hq
  simp only [Array.getElem?_setIfInBounds, Array.size_setIfInBounds]
  by_cases e : q = i
  · subst e
    rw [List.getElem_set_self]
    have : j = 0 ∨ j = 1 ∨ j = 2 ∨ j = 3 ∨ j = 4 := by omega
    rcases this with rfl | rfl | rfl | rfl | rfl
    all_goals
      simp [K.pc]
      (try omega)
  · rw [List.getElem_set_ne (Ne.symm e), ← hx q hq j hj]
    rw [if_neg (by omega), if_neg (by omega), if_neg (by omega), if_neg (by omega), if_neg (by omega)]
theorem RowAt.mono (h : RowAt W g ks) {ls : List K} (e : ks = ls) : RowAt W g ls := e ▸ h

theorem RowAt.of_owns {base n cap : Nat} (h : W.ownsRow base 158 5 (.slice (some ⟨g, 0, none⟩) n cap) n (ks.map K.pc).flatten) (hn : ks.length = n) : RowAt W g ks := by
  obtain ⟨h1, h2⟩ := h
  rcases h2 with ⟨h3, _⟩ | ⟨g', cap', cur, hv, hg, hh, hnc, hcap, hsz, htake⟩
  · cases h3
  · simp only [Value.slice.injEq, Option.some.injEq, Addr.mk.injEq] at hv
    obtain ⟨⟨rfl, -, -⟩, -, rfl⟩ := hv
    have hfl : (ks.map K.pc).flatten.length = ks.length * 5 := by
      have := flat_length 5 (ks.map K.pc) (fun xs hxs => by simp at hxs; obtain ⟨c, _, rfl⟩ := hxs; rfl)
      rwa [List.length_map] at this
    have hct : ks.length * 5 ≤ cur.size := by
      have := congrArg List.length htake
      rw [List.length_take, hfl] at this
      simp at this
      omega
    refine ⟨cur, hh, hct, fun i hi j hj => ?_⟩
    have := flat_get 5 (ks.map K.pc) (fun xs hxs => by simp at hxs; obtain ⟨c, _, rfl⟩ := hxs; rfl) i (by simpa using hi) j hj
    rw [getD_map K.pc ks hi] at this
    rw [← this, ← htake, List.getElem?_take, if_pos (by rw [← hn]; omega)]
    simp
end

/-- make of a row. -/
theorem run_makeK (n : Nat) (hn : n ≤ 1000) (w : World) :
    ∃ cs : Array Value, (Instr.makeSlice 80 (.int .i64 (n : Int)) (.int .i64 (n : Int))).run Tryz.prog w = .ok (.slice (some ⟨w.heap.size, 0, none⟩) n n) (w.alloc (.cells cs 158)) ∧ n * 5 ≤ cs.size ∧ ∀ i, i < n → ∀ j, j < 5 → cs[i * 5 + j]? = (K.zero.pc)[j]? := by
  obtain ⟨i0, hi, hz0, hz1, hz2⟩ := info_parts Tryz.infoCellP
  have hr := run_make (P := Tryz.prog) w 80 158 i0 _ Tryz.underlying80 hi hz0 .i64 .i64 (n : Int) (n : Int) (by omega) (by omega) (by rw [hz2]; omega) (by omega)
  simp only [Int.toNat_natCast, hz1] at hr
  refine ⟨_, hr, by rw [size_madeCells]; exact Nat.le_refl _, fun i hi j hj => ?_⟩
  have hlt : i * 5 + j < n * 5 := by omega
  have hm : (i * 5 + j) % 5 = j := by omega
  have : j = 0 ∨ j = 1 ∨ j = 2 ∨ j = 3 ∨ j = 4 := by omega
  simp only [madeCells, Array.getElem?_map, Array.getElem?_range, hlt]
  rcases this with rfl | rfl | rfl | rfl | rfl <;> simp [Value.cells, K.pc, K.zero, V.zero, hm]

end Go.Proofs.YthdjinicmnhgpaaGreatDoor

/-
The key of a row: the program's image.KeyOf.
-/
namespace Go.Proofs.YthdjinicmnhgpaaGreatDoor
open Go.RowKit Go.Shelf
attribute [local go_sem] Oper.semAt_some

/-- Is a column of the key? -/
def isKeyAt (cols : List Col) (i : Nat) : Bool := (cols[i]?.map Col.key).getD false
/-- A row with the columns of the key alone. -/
def keyOf (cols : List Col) (l : List K) : List K := l.mapIdx fun i c => if isKeyAt cols i = true then c else K.zero
/-- A row with some of its cells. -/
def fillK {cols : List Col} (l : List K) (pre : List (KX cols)) : List K := l.mapIdx fun i c => if pre.any (fun x => x.1.1 == i) = true then c else K.zero
theorem fillK_len {cols : List Col} {l : List K} {pre : List (KX cols)} : (fillK l pre).length = l.length := by simp [fillK]
theorem fillK_get {cols : List Col} {l : List K} {pre : List (KX cols)} {i : Nat} (h : i < (fillK l pre).length) : (fillK l pre)[i] = if pre.any (fun x => x.1.1 == i) = true then l[i]'(by rw [fillK_len] at h; exact h) else K.zero := by
  simp [fillK]
theorem fillK_nil {cols : List Col} {l : List K} : fillK l ([] : List (KX cols)) = List.replicate l.length K.zero := by
  apply List.ext_getElem
  · simp [fillK]
  · intro i h1 h2; rw [fillK_get]; simp
theorem fillK_set {cols : List Col} {l : List K} {pre : List (KX cols)} {x : KX cols} (h : x.1.1 < l.length) : fillK l (pre ++ [x]) = (fillK l pre).set x.1.1 l[x.1.1] := by
  apply List.ext_getElem
  · simp [fillK]
  · intro i h1 h2
    rw [fillK_get, List.getElem_set]
    by_cases e : x.1.1 = i
    · subst e; simp
    · rw [if_neg e, fillK_get, List.any_append]
      have : ([x].any fun x => x.1.1 == i) = false := by simp [e]
      rw [this, Bool.or_false]
theorem fillK_skip {cols : List Col} {l : List K} {pre : List (KX cols)} {x : KX cols} (h : l.length ≤ x.1.1) : fillK l (pre ++ [x]) = fillK l pre := by
  apply List.ext_getElem
  · simp [fillK]
  · intro i h1 h2
    rw [fillK_get, fillK_get, List.any_append]
    have hi : i < l.length := by rw [fillK_len] at h2; exact h2
    have : ([x].any fun x => x.1.1 == i) = false := by simp; omega
    rw [this, Bool.or_false]
theorem isKey_any {cols : List Col} {i : Nat} : (keysUp cols cols.length).any (fun x => x.1.1 == i) = isKeyAt cols i := by
  rw [Bool.eq_iff_iff, List.any_eq_true]
  unfold isKeyAt
  constructor
  · rintro ⟨⟨⟨j, c⟩, hj, hc, hk⟩, _, h⟩
    simp only [beq_iff_eq] at h
    subst h
    simp only at hc hk
    rw [hc]; simpa using hk
  · intro h
    cases hc : cols[i]? with
    | none => rw [hc] at h; simp at h
    | some c =>
      rw [hc] at h
      have hi : i < cols.length := (List.getElem?_eq_some_iff.1 hc).1
      exact ⟨⟨(i, c), hi, hc, by simpa using h⟩, (keysUp_mem _ _).2 hi, by simp⟩
theorem fillK_all {cols : List Col} {l : List K} : fillK l (keysUp cols cols.length) = keyOf cols l := by
  unfold fillK keyOf
  congr 1
  funext i c
  rw [isKey_any]

set_option maxRecDepth 100000 in
set_option maxHeartbeats 4000000 in
theorem keyOf_in (F : Fence) (n : Nat) (h1F : F.fn 125) (hKF : F.fn 91) (hDF : F.fn 101) (hro : F.round = none) (hn : 3 ≤ n) (oid ver : Int) (nm : ByteArray) (id : Int) (cols : List Col) (a2 : Option Addr) (cap2 : Nat) (l : List K) (a : Option Addr) (cap : Nat) (w : World)
    (hl2 : Sl w (.slice a2 cols.length cap2) 3 (cols.map Col.cells)) (hlen2 : cols.length ≤ 1000) (hl : Sl w (.slice a l.length cap) 5 (l.map K.pc)) (hlen : l.length ≤ 1000) :
    CallsIn F n Tryz.prog 101 #[.agg #[.int .u32 oid, .int .u32 ver, .string nm, .int .u8 id, .slice a2 cols.length cap2], .slice a l.length cap] w fun e w' => ∃ g cap', e = .returned (.slice (some ⟨g, 0, none⟩) l.length cap') ∧ l.length ≤ cap' ∧ w.heap.size ≤ g ∧ RowAt w' g (keyOf cols l) ∧ Ext w w' := by
  have h1 : 1 ≤ n := by omega
  have HL := Hid.mk' hl
  have HL2 := Hid.mk' hl2
  clear hl hl2
  obtain ⟨cs, hmk0, hcs1, hcs2⟩ := run_makeK l.length hlen ((w.alloc (.cells #[.int .u32 oid, .int .u32 ver, .string nm, .int .u8 id, .slice a2 cols.length cap2] 73)).alloc (.cells #[.slice a l.length cap] 80))
  have hmk : (Instr.makeSlice 80 (.int .i64 (l.length : Int)) (.int .i64 (l.length : Int))).run Tryz.prog ((w.alloc (.cells #[.int .u32 oid, .int .u32 ver, .string nm, .int .u8 id, .slice a2 cols.length cap2] 73)).alloc (.cells #[.slice a l.length cap] 80)) = .ok (.slice (some ⟨w.heap.size + 1 + 1, 0, none⟩) l.length l.length) (((w.alloc (.cells #[.int .u32 oid, .int .u32 ver, .string nm, .int .u8 id, .slice a2 cols.length cap2] 73)).alloc (.cells #[.slice a l.length cap] 80)).alloc (.cells cs 158)) := by
    rw [hmk0]; simp
  have HC := Hid.mk' (And.intro hcs1 hcs2)
  clear hmk0 hcs1 hcs2
  refine callsIn_of_wp_marks Tryz.func101 rfl hDF ?_ hro
  simp only [Tryz.ntmps101, List.size_toArray, List.length_cons, List.length_nil, Nat.reduceAdd, Nat.reduceSub, Array.replicate_succ, Array.replicate_zero, List.push_toArray, List.append_toArray, List.nil_append, List.cons_append]
  gi_wp2_with (gi_at_call 91; refine (keys_in F (n - 1) hKF hro _ _ _ _ _ _).mono ?_; rintro e w' ⟨rfl, rfl⟩)
  have hE5 : Ext w (((((w.alloc (.cells #[.int .u32 oid, .int .u32 ver, .string nm, .int .u8 id, .slice a2 cols.length cap2] 73)).alloc (.cells #[.slice a l.length cap] 80)).alloc (.cells cs 158)).alloc (.cells #[.slice (some ⟨w.heap.size + 1 + 1, 0, none⟩) l.length l.length] 80)).alloc (.cells #[.int .u32 oid, .int .u32 ver, .string nm, .int .u8 id, .slice a2 cols.length cap2] 73)) := (((((Ext.refl w).alloc _).alloc _).alloc _).alloc _).alloc _
  have hB1 : Blk (((((w.alloc (.cells #[.int .u32 oid, .int .u32 ver, .string nm, .int .u8 id, .slice a2 cols.length cap2] 73)).alloc (.cells #[.slice a l.length cap] 80)).alloc (.cells cs 158)).alloc (.cells #[.slice (some ⟨w.heap.size + 1 + 1, 0, none⟩) l.length l.length] 80)).alloc (.cells #[.int .u32 oid, .int .u32 ver, .string nm, .int .u8 id, .slice a2 cols.length cap2] 73)) (w.heap.size + 1) #[.slice a l.length cap] 80 := (((Blk.new' _ _ (by simp)).alloc _).alloc _).alloc _
  have hB2 : Blk (((((w.alloc (.cells #[.int .u32 oid, .int .u32 ver, .string nm, .int .u8 id, .slice a2 cols.length cap2] 73)).alloc (.cells #[.slice a l.length cap] 80)).alloc (.cells cs 158)).alloc (.cells #[.slice (some ⟨w.heap.size + 1 + 1, 0, none⟩) l.length l.length] 80)).alloc (.cells #[.int .u32 oid, .int .u32 ver, .string nm, .int .u8 id, .slice a2 cols.length cap2] 73)) (w.heap.size + 1 + 1) cs 158 := ((Blk.new' _ _ (by simp)).alloc _).alloc _
  have hB3 : Blk (((((w.alloc (.cells #[.int .u32 oid, .int .u32 ver, .string nm, .int .u8 id, .slice a2 cols.length cap2] 73)).alloc (.cells #[.slice a l.length cap] 80)).alloc (.cells cs 158)).alloc (.cells #[.slice (some ⟨w.heap.size + 1 + 1, 0, none⟩) l.length l.length] 80)).alloc (.cells #[.int .u32 oid, .int .u32 ver, .string nm, .int .u8 id, .slice a2 cols.length cap2] 73)) (w.heap.size + 1 + 1 + 1) #[.slice (some ⟨w.heap.size + 1 + 1, 0, none⟩) l.length l.length] 80 := (Blk.new' _ _ (by simp)).alloc _
  have hB4 : Blk (((((w.alloc (.cells #[.int .u32 oid, .int .u32 ver, .string nm, .int .u8 id, .slice a2 cols.length cap2] 73)).alloc (.cells #[.slice a l.length cap] 80)).alloc (.cells cs 158)).alloc (.cells #[.slice (some ⟨w.heap.size + 1 + 1, 0, none⟩) l.length l.length] 80)).alloc (.cells #[.int .u32 oid, .int .u32 ver, .string nm, .int .u8 id, .slice a2 cols.length cap2] 73)) (w.heap.size + 1 + 1 + 1 + 1) #[.int .u32 oid, .int .u32 ver, .string nm, .int .u8 id, .slice a2 cols.length cap2] 73 := Blk.new' _ _ (by simp)
  have hRow : RowAt (((((w.alloc (.cells #[.int .u32 oid, .int .u32 ver, .string nm, .int .u8 id, .slice a2 cols.length cap2] 73)).alloc (.cells #[.slice a l.length cap] 80)).alloc (.cells cs 158)).alloc (.cells #[.slice (some ⟨w.heap.size + 1 + 1, 0, none⟩) l.length l.length] 80)).alloc (.cells #[.int .u32 oid, .int .u32 ver, .string nm, .int .u8 id, .slice a2 cols.length cap2] 73)) (w.heap.size + 1 + 1) (fillK l ([] : List (KX cols))) := by
    rw [fillK_nil]
    refine ⟨cs, hB2, by rw [List.length_replicate]; exact HC.out.1, fun i hi j hj => ?_⟩
    rw [List.length_replicate] at hi
    rw [List.getElem_replicate]
    exact HC.out.2 i hi j hj
  clear hmk
  refine wpIn_rangeFunc_ownG hro h1 (gf := 125) (lb := #[.pointer (some ⟨w.heap.size + 1 + 1 + 1 + 1, 0, none⟩)]) rfl h1F (enters_of Tryz.func125 (by kernel_rfl) rfl)
    (keys_stops F (n - 1) h1F hro (by omega) (w.heap.size + 1 + 1 + 1 + 1) w a2 cap2 cols hlen2 HL2.out _ hE5 (hB4.cell 4) hB4.lt) belowK_t (belowK_b (by simp; omega)) (Below.refl _ _) (fun _ => rfl)
    (fun pre W => (RowAt W (w.heap.size + 1 + 1) (fillK l pre) ∧ W.cell? ⟨w.heap.size + 1 + 1 + 1, 0, none⟩ = some (.slice (some ⟨w.heap.size + 1 + 1, 0, none⟩) l.length l.length) ∧ W.cell? ⟨w.heap.size + 1, 0, none⟩ = some (.slice a l.length cap)) ∧ Below w.heap.size w W)
    (fun _ _ _ => False)
    (OwnFrom.and (Own.from (fun s A B row hs hg hr => ⟨hs.1.kept hg hr, cell_kept hs.2.1 hg hr, cell_kept hs.2.2 hg hr⟩) _) (ownFrom_below (Nat.le_refl _) (by simp; omega)))
    (fun _ _ _ _ _ hs _ _ => hs)
    ⟨⟨hRow, hB3.cell 0, hB1.cell 0⟩, hE5⟩
    (fun x => { tmps := #[.agg #[.int .u32 oid, .int .u32 ver, .string nm, .int .u8 id, .slice a2 cols.length cap2], .slice a l.length cap, .pointer (some ⟨w.heap.size, 0, none⟩), .pointer (some ⟨w.heap.size + 1, 0, none⟩), .slice none 0 0, .pointer (some ⟨w.heap.size + 1 + 1 + 1, 0, none⟩), .int .i64 (x.1.1 : Int), .slice a l.length cap, .int .i64 (l.length : Int), .slice (some ⟨w.heap.size + 1 + 1, 0, none⟩) l.length l.length, .agg #[.int .u32 oid, .int .u32 ver, .string nm, .int .u8 id, .slice a2 cols.length cap2], .func (.func 125) #[] #[.pointer (some ⟨w.heap.size + 1 + 1 + 1 + 1, 0, none⟩)], .int .i64 (x.1.1 : Int), .agg #[.string x.1.2.nm, .int .u8 x.1.2.ty, .bool x.1.2.key], undef, undef, undef, undef, undef, undef, undef, undef, undef, undef, undef, undef], defers := [] }) ?assign ?body ?done ?stop
  case assign =>
    intro l x W K hK
    unfold encK
    rw [fold_two]
    gi_wp2
    exact hK
  case body =>
    rintro lr pre x W ⟨⟨hr, hco, hcw⟩, hB⟩ _
    have HR := Hid.mk' hr
    have HB := Hid.mk' hB
    clear hr hB
    have hx : x.1.1 < cols.length := x.2.1
    have hmx : Tryz.prog.follows .mixedOrders = true := by kernel_rfl
    by_cases hlt : x.1.1 < l.length
    · obtain ⟨b, o, rfl, hb, hc⟩ := HL.out.at_ (i := x.1.1) (by simpa using hlt)
      obtain ⟨f0, f1, f2, f3, f4⟩ := K.pcAt hlt hc hb HB.out
      have hs := HR.out.cells (i := x.1.1) (by rw [fillK_len]; exact hlt)
      obtain ⟨s0, s1, s2, s3, s4⟩ := hs
      have sf := HR.out.frozen
      have HU := Hid.mk' (fillK_set (pre := pre) hlt)
      clear hc
      gi_wp2
      gi_region_with_o (fail)
      all_goals
        gi_wp2
        have HBW := Hid.mk' (((((((Below.refl w.heap.size W).setCell (p := ⟨w.heap.size + 1 + 1, x.1.1 * 5, none⟩) (by show w.heap.size ≤ w.heap.size + 1 + 1; omega) (.int .u8 l[x.1.1].k)).setCell (p := ⟨w.heap.size + 1 + 1, x.1.1 * 5 + 1, none⟩) (by show w.heap.size ≤ w.heap.size + 1 + 1; omega) (.int .u8 l[x.1.1].v.ty)).setCell (p := ⟨w.heap.size + 1 + 1, x.1.1 * 5 + 2, none⟩) (by show w.heap.size ≤ w.heap.size + 1 + 1; omega) (.int .i64 l[x.1.1].v.n)).setCell (p := ⟨w.heap.size + 1 + 1, x.1.1 * 5 + 3, none⟩) (by show w.heap.size ≤ w.heap.size + 1 + 1; omega) (.complex .f64 l[x.1.1].v.x l[x.1.1].v.y)).setCell (p := ⟨w.heap.size + 1 + 1, x.1.1 * 5 + 4, none⟩) (by show w.heap.size ≤ w.heap.size + 1 + 1; omega) (.string l[x.1.1].v.s)).drew)
        refine ⟨((((((KeepsOthers.setCell _ _ _).trans (KeepsOthers.setCell _ _ _)).trans (KeepsOthers.setCell _ _ _)).trans (KeepsOthers.setCell _ _ _)).trans (KeepsOthers.setCell _ _ _)).trans (KeepsOthers.drew _)).from _, HBW.out, ⟨by rw [HU.out]; exact (HR.out.set (by rw [fillK_len]; exact hlt) l[x.1.1]).drew, ?_, ?_⟩, HB.out.trans HBW.out⟩ <;> go_simp
    · have hge : l.length ≤ x.1.1 := by omega
      have HU := Hid.mk' (fillK_skip (pre := pre) hge)
      gi_wp2
      exact ⟨KeepsFrom.refl _ _, Below.refl _ _, ⟨by rw [HU.out]; exact HR.out, hco, hcw⟩, HB.out⟩
  case done =>
    rintro D ys W hD rfl ⟨⟨hr, hco, hcw⟩, hB⟩ hK
    gi_wp2
    refine ⟨by simp, .inl ⟨_, _, rfl, run_takeDeferred hK, ?_⟩⟩
    refine ⟨_, results_tmp rfl _ _ _, w.heap.size + 1 + 1, l.length, rfl, Nat.le_refl _, by omega, ?_, hB.trans (belowK_b (w := w) (Nat.le_refl _) W D _ _ (by simp at hD; omega) hK rfl rfl)⟩
    rw [← fillK_all]
    exact hr.kept (grownBy_putObj' _ D (.deferred none)) (fun r e => by cases e; exact ⟨_, hK, rfl⟩)
  case stop =>
    rintro D c pre W _ _ h _
    exact h.elim

theorem keyOf_any (oid ver : Int) (nm : ByteArray) (id : Int) (cols : List Col) (a2 : Option Addr) (cap2 : Nat) (l : List K) (a : Option Addr) (cap : Nat) (w : World)
    (hl2 : Sl w (.slice a2 cols.length cap2) 3 (cols.map Col.cells)) (hlen2 : cols.length ≤ 1000) (hl : Sl w (.slice a l.length cap) 5 (l.map K.pc)) (hlen : l.length ≤ 1000) :
    Calls Tryz.prog 101 #[.agg #[.int .u32 oid, .int .u32 ver, .string nm, .int .u8 id, .slice a2 cols.length cap2], .slice a l.length cap] w fun e w' => ∃ g cap', e = .returned (.slice (some ⟨g, 0, none⟩) l.length cap') ∧ l.length ≤ cap' ∧ w.heap.size ≤ g ∧ RowAt w' g (keyOf cols l) ∧ Ext w w' :=
  callsIn_wide.1 (keyOf_in Fence.wide 3 trivial trivial trivial rfl (Nat.le_refl _) oid ver nm id cols a2 cap2 l a cap w hl2 hlen2 hl hlen)

end Go.Proofs.YthdjinicmnhgpaaGreatDoor

/-
What is wrong with the key of a row: the program's image.keyed.
-/
namespace Go.Proofs.YthdjinicmnhgpaaGreatDoor
open Go.RowKit Go.Shelf
attribute [local go_sem] Oper.semAt_some

def kindAt (l : List K) (i : Nat) : Int := if h : i < l.length then l[i].k else 2
theorem kindAt_lt {l : List K} {i : Nat} (h : i < l.length) : kindAt l i = l[i].k := by unfold kindAt; rw [dif_pos h]
def kindE (k : Int) : Int := if k = 0 then 12 else if k = 1 then 13 else 0
/-- What is wrong with a cell of the key. -/
def keyE (cols : List Col) (l : List K) (i : Nat) : Int := if isKeyAt cols i = true then kindE (kindAt l i) else 0
/-- What is wrong with a row, and its key. -/
def keyedE (l : List K) (r : Rl) : Int := if fitsE l r ≠ 0 then fitsE l r else firstE (keyE r.cols l) l.length

theorem isKey_x {cols : List Col} (x : KX cols) : isKeyAt cols x.1.1 = true := by
  obtain ⟨⟨j, c⟩, hj, hc, hk⟩ := x
  unfold isKeyAt; simp only at hc hk; rw [hc]; simpa using hk
theorem fits_zero {l : List K} {r : Rl} (h : fitsE l r = 0) : r.right = 0 ∧ l.length = r.cols.length ∧ ∀ i (h1 : i < l.length) (h2 : i < r.cols.length), l[i].right r.cols[i].ty = 0 := by
  unfold fitsE at h
  split at h
  · rename_i h1; exact absurd h h1
  · rename_i h1
    split at h
    · cases h
    · rename_i h2
      refine ⟨by simpa using h1, by simpa using h2, fun i h3 h4 => ?_⟩
      have := firstE_all h i h3
      rwa [fitAt_lt h3 h4] at this
/-- The first error among the columns of the key. -/
theorem keyE_first {cols : List Col} {l : List K} {k : Nat} {pre : List (KX cols)} {x : KX cols} (he : keysUp cols k = pre ++ [x]) (hl : l.length = cols.length) (h0 : ∀ y ∈ pre, keyE cols l y.1.1 = 0) (h1 : keyE cols l x.1.1 ≠ 0) :
    firstE (keyE cols l) l.length = keyE cols l x.1.1 := by
  have hx : x ∈ keysUp cols k := by rw [he]; simp
  have hxk := (keysUp_mem k x).1 hx
  refine firstE_at ?_ (by omega) h1
  intro i hi
  by_cases hq : isKeyAt cols i = true
  · have hic : i < cols.length := by omega
    have hkey : cols[i].key = true := by unfold isKeyAt at hq; rw [List.getElem?_eq_getElem hic] at hq; simpa using hq
    have hm : (⟨(i, cols[i]), hic, List.getElem?_eq_getElem hic, hkey⟩ : KX cols) ∈ keysUp cols k := (keysUp_mem k _).2 (by simp only; omega)
    rw [he, List.mem_append] at hm
    rcases hm with hm | hm
    · exact h0 _ hm
    · rw [List.mem_singleton] at hm
      have := congrArg (fun y : KX cols => y.1.1) hm
      simp only at this
      omega
  · unfold keyE; rw [if_neg hq]
theorem keyE_none {cols : List Col} {l : List K} (hl : l.length = cols.length) (h0 : ∀ y ∈ keysUp cols cols.length, keyE cols l y.1.1 = 0) : firstE (keyE cols l) l.length = 0 := by
  refine firstE_zero fun i hi => ?_
  by_cases hq : isKeyAt cols i = true
  · have hic : i < cols.length := by omega
    have hkey : cols[i].key = true := by unfold isKeyAt at hq; rw [List.getElem?_eq_getElem hic] at hq; simpa using hq
    exact h0 ⟨(i, cols[i]), hic, List.getElem?_eq_getElem hic, hkey⟩ ((keysUp_mem _ _).2 hic)
  · unfold keyE; rw [if_neg hq]

set_option maxRecDepth 100000 in
set_option maxHeartbeats 4000000 in
theorem keyedI_in (F : Fence) (n : Nat) (hFe : F = Fence.wide) (h1F : F.fn 125) (hKF : F.fn 91) (hFF : F.fn 131) (hDF : F.fn 99) (hro : F.round = none) (hn : 3 ≤ n) (oid ver : Int) (nm : ByteArray) (id : Int) (cols : List Col) (a2 : Option Addr) (cap2 : Nat) (l : List K) (a : Option Addr) (cap : Nat) (w : World)
    (hl2 : Sl w (.slice a2 cols.length cap2) 3 (cols.map Col.cells)) (hcap2 : cols.length ≤ cap2) (hlen2 : cols.length ≤ 1000) (hl : Sl w (.slice a l.length cap) 5 (l.map K.pc)) (hlen : l.length ≤ 1000)
    (hs : ∀ c ∈ l, c.wk) (hs2 : ∀ c ∈ cols, c.nm.size ≤ 9223372036854775807) (hnm : nm.size ≤ 9223372036854775807) :
    CallsIn F n Tryz.prog 99 #[.agg #[.int .u32 oid, .int .u32 ver, .string nm, .int .u8 id, .slice a2 cols.length cap2], .slice a l.length cap] w fun e w' => e = .returned (.int .i64 (keyedE l (⟨oid, ver, nm, id, cols⟩ : Rl))) ∧ Ext w w' := by
  have h1 : 1 ≤ n := by omega
  have HFT := Hid.mk' (fun m W (h : Ext w W) => (show CallsIn F m Tryz.prog 131 #[.slice a l.length cap, .agg #[.int .u32 oid, .int .u32 ver, .string nm, .int .u8 id, .slice a2 cols.length cap2]] W _ from by rw [hFe]; exact callsIn_wide.2 (fits_any l a cap oid ver nm id cols a2 cap2 W (hl.ext h) (hl2.ext h) hcap2 hlen hlen2 hs hs2 hnm)))
  have HL := Hid.mk' hl
  have HL2 := Hid.mk' hl2
  have HKE : Hid (keyedE l (⟨oid, ver, nm, id, cols⟩ : Rl) = if fitsE l (⟨oid, ver, nm, id, cols⟩ : Rl) ≠ 0 then fitsE l (⟨oid, ver, nm, id, cols⟩ : Rl) else firstE (keyE cols l) l.length) := Hid.mk' rfl
  obtain ⟨E, hE⟩ : ∃ E, E = fitsE l (⟨oid, ver, nm, id, cols⟩ : Rl) := ⟨_, rfl⟩
  rw [← hE] at HFT HKE
  have HEQ := Hid.mk' hE
  clear hl hl2 hs hs2 hFe hE
  by_cases h0 : E = 0
  case neg =>
    have HKE2 := Hid.mk' (HKE.out.trans (if_pos h0))
    have h0' : (E != 0) = true := by simpa using h0
    clear h0 HKE HEQ
    refine callsIn_of_wp_marks Tryz.func99 rfl hDF ?_ hro
    simp only [Tryz.ntmps99, List.size_toArray, List.length_cons, List.length_nil, Nat.reduceAdd, Nat.reduceSub, Array.replicate_succ, Array.replicate_zero, List.push_toArray, List.append_toArray, List.nil_append, List.cons_append]
    gi_wp2_with (gi_at_call 131; refine (HFT.out _ _ (by (repeat (with_reducible (first | exact Ext.refl _ | assumption | exact held_left (by assumption) | apply Ext.drewN | apply Ext.drew | apply Ext.alloc | (refine Ext.setCell ?_ (by first | (simp; done) | (simp; omega) | omega) _) | (refine Ext.trans ?_ (by assumption)) | (refine Ext.trans ?_ (held_left (by assumption)))))))).mono ?_; rintro e w' ⟨rfl, hb1⟩; have hE1 : Ext w w' := (by (repeat (with_reducible (first | exact Ext.refl _ | assumption | exact held_left (by assumption) | apply Ext.drewN | apply Ext.drew | apply Ext.alloc | (refine Ext.setCell ?_ (by first | (simp; done) | (simp; omega) | omega) _) | (refine Ext.trans ?_ (by assumption)) | (refine Ext.trans ?_ (held_left (by assumption))))))); have g2 := ((Blk.new' (w := (w.alloc (.cells #[.int .u32 oid, .int .u32 ver, .string nm, .int .u8 id, .slice a2 cols.length cap2] 73)).alloc (.cells #[.slice a l.length cap] 80)) (b := w.heap.size + 1 + 1) #[.int .i64 0] 28 (by simp)).ext hb1); have g2c := g2.cell; have g2f := g2.frozen; have g2z := g2.lt)
    refine ⟨.int .i64 E, ?_, by rw [HKE2.out], hE1.setCell (p := ⟨w.heap.size + 1 + 1, 0, none⟩) (by show w.heap.size ≤ w.heap.size + 1 + 1; omega) _⟩
    simp [results, Tryz.f99, go_sem, g2c]
  subst h0
  have HKE2 := Hid.mk' (HKE.out.trans (if_neg (by simp)))
  have hfz := fits_zero HEQ.out.symm
  have hll : l.length = cols.length := hfz.2.1
  have HLL := Hid.mk' hll
  have hle : cols.length ≤ l.length := by omega
  clear HKE HEQ hfz hll
  refine callsIn_of_wp_marks Tryz.func99 rfl hDF ?_ hro
  simp only [Tryz.ntmps99, List.size_toArray, List.length_cons, List.length_nil, Nat.reduceAdd, Nat.reduceSub, Array.replicate_succ, Array.replicate_zero, List.push_toArray, List.append_toArray, List.nil_append, List.cons_append]
  gi_wp2_with (first
    | (gi_at_call 131; refine (HFT.out _ _ (by (repeat (with_reducible (first | exact Ext.refl _ | assumption | exact held_left (by assumption) | apply Ext.drewN | apply Ext.drew | apply Ext.alloc | (refine Ext.setCell ?_ (by first | (simp; done) | (simp; omega) | omega) _) | (refine Ext.trans ?_ (by assumption)) | (refine Ext.trans ?_ (held_left (by assumption)))))))).mono ?_; rintro e w4 ⟨rfl, hb4⟩; have HE4 := Hid.mk' hb4; have g0 := (((Blk.new w #[.int .u32 oid, .int .u32 ver, .string nm, .int .u8 id, .slice a2 cols.length cap2] 73).alloc _).alloc _).ext hb4; have g0c := g0.cell; have g1 := ((Blk.new' (w := w.alloc (.cells #[.int .u32 oid, .int .u32 ver, .string nm, .int .u8 id, .slice a2 cols.length cap2] 73)) (b := w.heap.size + 1) #[.slice a l.length cap] 80 (by simp)).alloc (.cells #[.int .i64 0] 28)).ext hb4; have g1c := g1.cell; have g2 := ((Blk.new' (w := (w.alloc (.cells #[.int .u32 oid, .int .u32 ver, .string nm, .int .u8 id, .slice a2 cols.length cap2] 73)).alloc (.cells #[.slice a l.length cap] 80)) (b := w.heap.size + 1 + 1) #[.int .i64 0] 28 (by simp)).ext hb4); have g2c := g2.cell; have g2f := g2.frozen; have g2z := g2.lt; have HG1 := Hid.mk' g1; have HG2 := Hid.mk' g2; clear g0 g1 g2 hb4)
    | (gi_at_call 91; refine (keys_in F (n - 1) hKF hro _ _ _ _ _ _).mono ?_; rintro e w' ⟨rfl, rfl⟩))
  have hE5 : Ext w (w4.alloc (.cells #[.int .u32 oid, .int .u32 ver, .string nm, .int .u8 id, .slice a2 cols.length cap2] 73)) := ((((Ext.refl w).alloc _).alloc _).alloc _ |>.trans HE4.out).alloc _
  have hB1 := HG1.out.alloc (.cells #[.int .u32 oid, .int .u32 ver, .string nm, .int .u8 id, .slice a2 cols.length cap2] 73)
  have hB2 := HG2.out.alloc (.cells #[.int .u32 oid, .int .u32 ver, .string nm, .int .u8 id, .slice a2 cols.length cap2] 73)
  have hB4 : Blk (w4.alloc (.cells #[.int .u32 oid, .int .u32 ver, .string nm, .int .u8 id, .slice a2 cols.length cap2] 73)) w4.heap.size #[.int .u32 oid, .int .u32 ver, .string nm, .int .u8 id, .slice a2 cols.length cap2] 73 := Blk.new _ _ _
  have hw4 : w.heap.size + 1 + 1 < w4.heap.size := g2z
  clear g0c g1c g2c g2f g2z
  refine wpIn_rangeFunc_ownG hro h1 (gf := 125) (lb := #[.pointer (some ⟨w4.heap.size, 0, none⟩)]) rfl h1F (enters_of Tryz.func125 (by kernel_rfl) rfl)
    (keys_stops F (n - 1) h1F hro (by omega) w4.heap.size w a2 cap2 cols hlen2 HL2.out _ hE5 (hB4.cell 4) hB4.lt) belowK_t (belowK_b (by simp; omega)) (Below.refl _ _) (fun _ => rfl)
    (fun pre W => (Hid (∀ y ∈ pre, keyE cols l y.1.1 = 0) ∧ W.cell? ⟨w.heap.size + 1 + 1, 0, none⟩ = some (.int .i64 0) ∧ W.frozen? ⟨w.heap.size + 1 + 1, 0, none⟩ = false ∧ W.cell? ⟨w.heap.size + 1, 0, none⟩ = some (.slice a l.length cap)) ∧ Below w.heap.size w W)
    (fun c pre W => (c = .ret ∧ ∃ ini last, pre = ini ++ [last] ∧ (∀ y ∈ ini, keyE cols l y.1.1 = 0) ∧ keyE cols l last.1.1 ≠ 0 ∧ W.cell? ⟨w.heap.size + 1 + 1, 0, none⟩ = some (.int .i64 (keyE cols l last.1.1))) ∧ Below w.heap.size w W)
    (OwnFrom.and (Own.from (fun s A B row hs hg hr => ⟨hs.1, cell_kept hs.2.1 hg hr, (frozen_kept hs.2.1 hg hr).trans hs.2.2.1, cell_kept hs.2.2.2 hg hr⟩) _) (ownFrom_below (Nat.le_refl _) (by simp; omega)))
    (fun c => OwnFrom.and (Own.from (fun s A B row hs hg hr => by obtain ⟨hc, ini, last, e1, e2, e3, e4⟩ := hs; exact ⟨hc, ini, last, e1, e2, e3, cell_kept e4 hg hr⟩) _) (ownFrom_below (Nat.le_refl _) (by simp; omega)))
    ⟨⟨(fun y hy => by cases hy), hB2.cell 0, hB2.frozen 0, hB1.cell 0⟩, hE5⟩
    (fun x => { tmps := #[.agg #[.int .u32 oid, .int .u32 ver, .string nm, .int .u8 id, .slice a2 cols.length cap2], .slice a l.length cap, .pointer (some ⟨w.heap.size, 0, none⟩), .pointer (some ⟨w.heap.size + 1, 0, none⟩), .pointer (some ⟨w.heap.size + 1 + 1, 0, none⟩), .int .i64 0, .int .i64 (x.1.1 : Int), .slice a l.length cap, .agg #[.int .u32 oid, .int .u32 ver, .string nm, .int .u8 id, .slice a2 cols.length cap2], .int .i64 0, .int .i64 0, .bool false, undef, .agg #[.int .u32 oid, .int .u32 ver, .string nm, .int .u8 id, .slice a2 cols.length cap2], .func (.func 125) #[] #[.pointer (some ⟨w4.heap.size, 0, none⟩)], .int .i64 (x.1.1 : Int), .agg #[.string x.1.2.nm, .int .u8 x.1.2.ty, .bool x.1.2.key], undef, undef, undef, undef, undef, undef, undef, undef, undef], defers := [] }) ?assign ?body ?done ?stop
  case assign =>
    intro l x W K hK
    unfold encK
    rw [fold_two]
    gi_wp2
    exact hK
  case body =>
    rintro lr pre x W ⟨⟨hpre, hc, hf, hcw⟩, hB⟩ _
    have HB := Hid.mk' hB
    clear hB
    have hx : x.1.1 < cols.length := x.2.1
    have hlt : x.1.1 < l.length := by omega
    obtain ⟨b, o, rfl, hb, hc2⟩ := HL.out.at_ (i := x.1.1) (by simpa using hlt)
    obtain ⟨f0, f1, f2, f3, f4⟩ := K.pcAt hlt hc2 hb HB.out
    have HKX : Hid (keyE cols l x.1.1 = kindE l[x.1.1].k) := Hid.mk' (by unfold keyE; rw [if_pos (isKey_x x), kindAt_lt hlt])
    clear hc2
    by_cases hk0 : l[x.1.1].k = 0
    · rw [hk0] at f0 HKX
      clear hk0
      gi_wp2
      exact ⟨(KeepsOthers.setCell _ _ _).from _, ⟨rfl, pre, x, rfl, hpre.out, by rw [HKX.out]; decide, by rw [HKX.out]; exact World.cell?_setCell_same' _ _ _ (by rw [hc]; rfl)⟩, HB.out.setCell (p := ⟨w.heap.size + 1 + 1, 0, none⟩) (by show w.heap.size ≤ w.heap.size + 1 + 1; omega) _⟩
    · by_cases hk1 : l[x.1.1].k = 1
      · rw [hk1] at f0 HKX
        clear hk0 hk1
        gi_wp2
        exact ⟨(KeepsOthers.setCell _ _ _).from _, ⟨rfl, pre, x, rfl, hpre.out, by rw [HKX.out]; decide, by rw [HKX.out]; exact World.cell?_setCell_same' _ _ _ (by rw [hc]; rfl)⟩, HB.out.setCell (p := ⟨w.heap.size + 1 + 1, 0, none⟩) (by show w.heap.size ≤ w.heap.size + 1 + 1; omega) _⟩
      · have e0 : (l[x.1.1].k == 0) = false := by simpa using hk0
        have e1 : (l[x.1.1].k == 1) = false := by simpa using hk1
        have HZ : Hid (keyE cols l x.1.1 = 0) := Hid.mk' (by rw [HKX.out]; unfold kindE; rw [if_neg hk0, if_neg hk1])
        clear hk0 hk1
        gi_wp2
        exact ⟨KeepsFrom.refl _ _, Below.refl _ _, ⟨fun y hy => (List.mem_append.1 hy).elim (hpre.out y) (fun e => by simp at e; subst e; exact HZ.out), hc, hf, hcw⟩, HB.out⟩
  case done =>
    rintro D ys W hD rfl ⟨⟨hpre, hc, hf, hcw⟩, hB⟩ hK
    have HK0 := Hid.mk' (HKE2.out.trans (keyE_none HLL.out hpre.out))
    gi_wp2
    have hK' := (KeepsOthers.setCell W ⟨w.heap.size + 1 + 1, 0, none⟩ (.int .i64 0)).same D _ hK rfl
    refine ⟨by simp, .inl ⟨_, _, rfl, run_takeDeferred hK', ?_⟩⟩
    have hc5 := cell_kept (World.cell?_setCell_same' W ⟨w.heap.size + 1 + 1, 0, none⟩ (.int .i64 0) (by rw [hc]; rfl)) (grownBy_putObj' _ D (.deferred none)) (fun r e => by cases e; exact ⟨_, hK', rfl⟩)
    refine ⟨.int .i64 0, ?_, by rw [HK0.out], (hB.setCell (p := ⟨w.heap.size + 1 + 1, 0, none⟩) (by show w.heap.size ≤ w.heap.size + 1 + 1; omega) _).trans (belowK_b (w := w) (Nat.le_refl _) _ D _ _ (by simp at hD; omega) hK' rfl rfl)⟩
    simp [results, Tryz.f99, go_sem, hc5]
  case stop =>
    rintro D c pre W hD ⟨k, hk, hpk⟩ ⟨⟨rfl, ini, last, e1, e2, e3, hc⟩, hB⟩ hK
    have HK0 := Hid.mk' (HKE2.out.trans (keyE_first (hpk.symm.trans e1) HLL.out e2 e3))
    gi_wp2
    refine ⟨by simp, .inl ⟨_, _, rfl, run_takeDeferred hK, ?_⟩⟩
    have hc5 := cell_kept hc (grownBy_putObj' _ D (.deferred none)) (fun r e => by cases e; exact ⟨_, hK, rfl⟩)
    refine ⟨_, ?_, by rw [HK0.out], hB.trans (belowK_b (w := w) (Nat.le_refl _) W D _ _ (by simp at hD; omega) hK rfl rfl)⟩
    simp [results, Tryz.f99, go_sem, hc5]

theorem keyedI_any (oid ver : Int) (nm : ByteArray) (id : Int) (cols : List Col) (a2 : Option Addr) (cap2 : Nat) (l : List K) (a : Option Addr) (cap : Nat) (w : World)
    (hl2 : Sl w (.slice a2 cols.length cap2) 3 (cols.map Col.cells)) (hcap2 : cols.length ≤ cap2) (hlen2 : cols.length ≤ 1000) (hl : Sl w (.slice a l.length cap) 5 (l.map K.pc)) (hlen : l.length ≤ 1000)
    (hs : ∀ c ∈ l, c.wk) (hs2 : ∀ c ∈ cols, c.nm.size ≤ 9223372036854775807) (hnm : nm.size ≤ 9223372036854775807) :
    Calls Tryz.prog 99 #[.agg #[.int .u32 oid, .int .u32 ver, .string nm, .int .u8 id, .slice a2 cols.length cap2], .slice a l.length cap] w fun e w' => e = .returned (.int .i64 (keyedE l (⟨oid, ver, nm, id, cols⟩ : Rl))) ∧ Ext w w' :=
  callsIn_wide.1 (keyedI_in Fence.wide 3 rfl trivial trivial trivial trivial rfl (Nat.le_refl _) oid ver nm id cols a2 cap2 l a cap w hl2 hcap2 hlen2 hl hlen hs hs2 hnm)

end Go.Proofs.YthdjinicmnhgpaaGreatDoor

/-
The reference's KeyOf, keyed, IsKey, IsFull, Merge.
-/
namespace Go.Proofs.YthdjinicmnhgpaaGreatDoor
open Go.RowKit

theorem keyOf_len {cols : List Col} {l : List K} : (keyOf cols l).length = l.length := by simp [keyOf]
theorem keyOf_get {cols : List Col} {l : List K} {i : Nat} (h : i < (keyOf cols l).length) : (keyOf cols l)[i] = if isKeyAt cols i = true then l[i]'(by rw [keyOf_len] at h; exact h) else K.zero := by simp [keyOf]
theorem isKeyAt_lt {cols : List Col} {i : Nat} (h : i < cols.length) : isKeyAt cols i = cols[i].key := by unfold isKeyAt; rw [List.getElem?_eq_getElem h]; rfl
theorem isKeyAt_ge {cols : List Col} {i : Nat} (h : cols.length ≤ i) : isKeyAt cols i = false := by unfold isKeyAt; rw [List.getElem?_eq_none h]; rfl
/-- What is wrong with a key image, a full image. -/
def nonE (cols : List Col) (l : List K) (i : Nat) : Int := if isKeyAt cols i = false ∧ kindAt l i ≠ 0 then 14 else 0
def isKeyE (l : List K) (r : Rl) : Int := if keyedE l r ≠ 0 then keyedE l r else firstE (nonE r.cols l) l.length
def sameE (l : List K) (i : Nat) : Int := if kindAt l i = 1 then 14 else 0
def isFullE (l : List K) (r : Rl) : Int := if keyedE l r ≠ 0 then keyedE l r else firstE (sameE l) l.length
theorem keyed_fits {l : List K} {r : Rl} (h : keyedE l r = 0) : fitsE l r = 0 := by
  unfold keyedE at h
  split at h
  · rename_i h1; exact absurd h h1
  · rename_i h1; simpa using h1
/-- A new image with what was the same. -/
def mergeK (b l : List K) : List K := l.mapIdx fun i c => if c.k = 1 then (b[i]?).getD c else c
theorem mergeK_len {b l : List K} : (mergeK b l).length = l.length := by simp [mergeK]
theorem mergeK_get {b l : List K} {i : Nat} (h : i < (mergeK b l).length) : (mergeK b l)[i] = if (l[i]'(by rw [mergeK_len] at h; exact h)).k = 1 then (b[i]?).getD (l[i]'(by rw [mergeK_len] at h; exact h)) else l[i]'(by rw [mergeK_len] at h; exact h) := by simp [mergeK]

set_option maxRecDepth 100000 in set_option maxHeartbeats 4000000 in
theorem rkeyOf_any (l : List K) (a : Option Addr) (cap : Nat) (oid ver : Int) (nm : ByteArray) (id : Int) (cols : List Col) (a2 : Option Addr) (cap2 : Nat) (w : World) (hl : Sl w (.slice a l.length cap) 6 (l.map K.rc)) (hl2 : Sl w (.slice a2 cols.length cap2) 3 (cols.map Col.cells)) (hlen : l.length ≤ 1000) (_hlen2 : cols.length ≤ 1000) :
    Calls Tryz.prog 106 #[.agg #[.int .u32 oid, .int .u32 ver, .string nm, .int .u8 id, .slice a2 cols.length cap2], .slice a l.length cap] w fun e w' => ∃ a' cap', e = .returned (.slice a' l.length cap') ∧ Sl w' (.slice a' l.length cap') 6 ((keyOf cols l).map K.rc) ∧ Ext w w' := by
  have HL := Hid.mk' hl
  have HL2 := Hid.mk' hl2
  clear hl hl2
  obtain ⟨i0, hi, hz0, hz1, hz2⟩ := info_parts Tryz.infoCellR
  go_enter Tryz.func106, Tryz.ntmps106
  go_wp2
  go_loopw [5, 6] (fun v i wr => ∃ k : Nat, k ≤ l.length ∧ i = .int .i64 k ∧ Hid (wr.ownsRow (w.heap.size + 1) 115 6 v k (((keyOf cols l).map K.rc).take k).flatten) ∧ Hid (Ext (w.alloc (.cells #[.int .u32 oid, .int .u32 ver, .string nm, .int .u8 id, .slice a2 cols.length cap2] 59)) wr)) (fun _ i _ => l.length - (intOf i).toNat)
  case atStart => exact ⟨0, Nat.zero_le _, rfl, World.ownsRow_nil _ _ _ _, Ext.refl _⟩
  case round =>
    obtain ⟨k, hk, rfl, hown, hE⟩ := hrel
    have hEw : Hid (Ext w wr) := Hid.mk' (((Ext.refl w).alloc _).trans hE.out)
    by_cases hlt : k < l.length
    · have hBx := (Blk.new w #[.int .u32 oid, .int .u32 ver, .string nm, .int .u8 id, .slice a2 cols.length cap2] 59).ext hE.out
      have g0 := hBx.cell
      have z0 := hBx.lt
      obtain ⟨b, o, rfl, hb, hx⟩ := HL.out.at_ (i := k) (by simpa using hlt)
      obtain ⟨f0, f1, f2, f3, f4, f5⟩ := K.rcAt hlt hx hb hEw.out
      have hbw : b < wr.heap.size := Nat.lt_of_lt_of_le hb hEw.out.size
      have hkl : k < (keyOf cols l).length := by rw [keyOf_len]; exact hlt
      have HT := Hid.mk' (flat_snoc (f := K.rc) hkl)
      rw [keyOf_get] at HT
      clear hx hBx
      cases hq : isKeyAt cols k with
      | true =>
        have hkc : k < cols.length := by
          rcases Nat.lt_or_ge k cols.length with h | h
          · exact h
          · rw [isKeyAt_ge h] at hq; cases hq
        obtain ⟨b2, o2, rfl, hb2, hx2⟩ := HL2.out.at_ (i := k) (by simpa using hkc)
        obtain ⟨p0, p1, p2⟩ := Col.at_ hkc hx2 hb2 hEw.out
        have hbw2 : b2 < wr.heap.size := Nat.lt_of_lt_of_le hb2 hEw.out.size
        rw [isKeyAt_lt hkc] at hq
        rw [hq] at p2
        rw [if_pos (by rw [isKeyAt_lt hkc]; exact hq)] at HT
        obtain ⟨c, hc⟩ : ∃ c, c = l[k] := ⟨_, rfl⟩
        rw [← hc] at f0 f1 f2 f3 f4 f5 HT
        clear hx2 hq hc
        go_wp2_with (at_builtin; refine wpList_append_own _ rfl _ _ 64 rfl (w.heap.size + 1) 115 i0 _ 6 56 Tryz.underlying64 hi hz0 hz1 hz2 rfl (by decide) _ _ _ rfl (hown.out.alloc _) ⟨_, 0, none⟩ 1 1 c.rc rfl rfl ?c1 ?c2 ?c3 ?c4 ?c5 ?_)
        case c1 => exact cells_new _ #[.int .u8 c.k, .int .u8 c.v.ty, .int .i64 c.v.n, .int .u64 c.v.x, .int .u64 c.v.y, .string c.v.s] _
        case c2 => intro u hu; simp [K.rc] at hu; rcases hu with rfl | rfl | rfl | rfl | rfl | rfl <;> rfl
        case c3 => unfold maxLen; omega
        case c4 => omega
        case c5 => simp; omega
        intro v' w2 hown' hgrow _
        have HE2 := Hid.mk' (Below.grown (hE.out.alloc _) hgrow (by have := hE.out.size; rw [World.size_alloc] at this ⊢; rw [World.size_alloc]; omega) (fun g hg => by have h9 := (hown.out.lt g hg).1; rw [World.size_alloc]; exact h9))
        have HO2 := Hid.mk' hown'
        clear hown' hgrow
        go_wp2
        go_roundw
        case rel => exact ⟨k + 1, by omega, by go_num, Hid.mk' (by rw [HT.out]; exact HO2.out), HE2⟩
        case measure => simp [intOf]; omega
      | false =>
        rw [if_neg (by rw [hq]; simp)] at HT
        by_cases hkc : k < cols.length
        · obtain ⟨b2, o2, rfl, hb2, hx2⟩ := HL2.out.at_ (i := k) (by simpa using hkc)
          obtain ⟨p0, p1, p2⟩ := Col.at_ hkc hx2 hb2 hEw.out
          have hbw2 : b2 < wr.heap.size := Nat.lt_of_lt_of_le hb2 hEw.out.size
          rw [isKeyAt_lt hkc] at hq
          rw [hq] at p2
          clear hx2 hq
          go_wp2_with (at_builtin; refine wpList_append_own _ rfl _ _ 64 rfl (w.heap.size + 1) 115 i0 _ 6 56 Tryz.underlying64 hi hz0 hz1 hz2 rfl (by decide) _ _ _ rfl (hown.out.alloc _) ⟨_, 0, none⟩ 1 1 K.zero.rc rfl rfl ?c1 ?c2 ?c3 ?c4 ?c5 ?_)
          case c1 => exact cells_new _ #[.int .u8 0, .int .u8 0, .int .i64 0, .int .u64 0, .int .u64 0, .string ByteArray.empty] _
          case c2 => intro u hu; simp [K.rc] at hu; rcases hu with rfl | rfl | rfl | rfl | rfl | rfl <;> rfl
          case c3 => unfold maxLen; omega
          case c4 => omega
          case c5 => simp; omega
          intro v' w2 hown' hgrow _
          have HE2 := Hid.mk' (Below.grown (hE.out.alloc _) hgrow (by have := hE.out.size; rw [World.size_alloc] at this ⊢; rw [World.size_alloc]; omega) (fun g hg => by have h9 := (hown.out.lt g hg).1; rw [World.size_alloc]; exact h9))
          have HO2 := Hid.mk' hown'
          clear hown' hgrow
          go_wp2
          go_roundw
          case rel => exact ⟨k + 1, by omega, by go_num, Hid.mk' (by rw [HT.out]; exact HO2.out), HE2⟩
          case measure => simp [intOf]; omega
        · have hkc' : cols.length ≤ k := by omega
          clear hq hkc
          go_wp2_with (at_builtin; refine wpList_append_own _ rfl _ _ 64 rfl (w.heap.size + 1) 115 i0 _ 6 56 Tryz.underlying64 hi hz0 hz1 hz2 rfl (by decide) _ _ _ rfl (hown.out.alloc _) ⟨_, 0, none⟩ 1 1 K.zero.rc rfl rfl ?c1 ?c2 ?c3 ?c4 ?c5 ?_)
          case c1 => exact cells_new _ #[.int .u8 0, .int .u8 0, .int .i64 0, .int .u64 0, .int .u64 0, .string ByteArray.empty] _
          case c2 => intro u hu; simp [K.rc] at hu; rcases hu with rfl | rfl | rfl | rfl | rfl | rfl <;> rfl
          case c3 => unfold maxLen; omega
          case c4 => omega
          case c5 => simp; omega
          intro v' w2 hown' hgrow _
          have HE2 := Hid.mk' (Below.grown (hE.out.alloc _) hgrow (by have := hE.out.size; rw [World.size_alloc] at this ⊢; rw [World.size_alloc]; omega) (fun g hg => by have h9 := (hown.out.lt g hg).1; rw [World.size_alloc]; exact h9))
          have HO2 := Hid.mk' hown'
          clear hown' hgrow
          go_wp2
          go_roundw
          case rel => exact ⟨k + 1, by omega, by go_num, Hid.mk' (by rw [HT.out]; exact HO2.out), HE2⟩
          case measure => simp [intOf]; omega
    · have hkk : k = l.length := by omega
      subst hkk
      rw [show l.length = ((keyOf cols l).map K.rc).length by rw [List.length_map, keyOf_len], List.take_length] at hown
      rw [List.length_map, keyOf_len] at hown
      obtain ⟨a', c', rfl⟩ := owns_shape hown.out
      go_wp2
      go_ret
      refine ⟨a', c', rfl, Sl.of_owns (base := w.heap.size + 1) (e := 115) ?_ ?_, hEw.out⟩
      · rw [List.length_map, keyOf_len]; exact hown.out
      · intro xs hxs; simp at hxs; obtain ⟨a, _, rfl⟩ := hxs; rfl

set_option maxRecDepth 100000 in set_option maxHeartbeats 1600000 in
theorem rkeyed_any (l : List K) (a : Option Addr) (cap : Nat) (oid ver : Int) (nm : ByteArray) (id : Int) (cols : List Col) (a2 : Option Addr) (cap2 : Nat) (w : World) (hl : Sl w (.slice a l.length cap) 6 (l.map K.rc)) (hl2 : Sl w (.slice a2 cols.length cap2) 3 (cols.map Col.cells)) (hlen : l.length ≤ 1000) (hlen2 : cols.length ≤ 1000) (hs : ∀ c ∈ l, c.wk) (hs2 : ∀ c ∈ cols, c.nm.size ≤ 9223372036854775807) (hnm : nm.size ≤ 9223372036854775807) :
    Calls Tryz.prog 104 #[.agg #[.int .u32 oid, .int .u32 ver, .string nm, .int .u8 id, .slice a2 cols.length cap2], .slice a l.length cap] w fun e w' => e = .returned (.int .i64 (keyedE l (⟨oid, ver, nm, id, cols⟩ : Rl))) ∧ Ext w w' := by
  have HFT := Hid.mk' (fun W (h : Ext w W) => rfits_any l a cap oid ver nm id cols a2 cap2 W (hl.ext h) (hl2.ext h) hlen hlen2 hs hs2 hnm)
  have HL := Hid.mk' hl
  have HL2 := Hid.mk' hl2
  have HKE : Hid (keyedE l (⟨oid, ver, nm, id, cols⟩ : Rl) = if fitsE l (⟨oid, ver, nm, id, cols⟩ : Rl) ≠ 0 then fitsE l (⟨oid, ver, nm, id, cols⟩ : Rl) else firstE (keyE cols l) l.length) := Hid.mk' rfl
  obtain ⟨E, hE⟩ : ∃ E, E = fitsE l (⟨oid, ver, nm, id, cols⟩ : Rl) := ⟨_, rfl⟩
  rw [← hE] at HFT HKE
  have HEQ := Hid.mk' hE
  clear hl hl2 hs hs2 hE
  by_cases h0 : E = 0
  case neg =>
    have HKE2 := Hid.mk' (HKE.out.trans (if_pos h0))
    have h0' : (E != 0) = true := by simpa using h0
    clear h0 HKE HEQ
    go_enter Tryz.func104, Tryz.ntmps104
    go_wp2_with (go_at_call 134; refine (HFT.out _ (by (repeat (with_reducible (first | exact Ext.refl _ | assumption | exact held_left (by assumption) | apply Ext.drewN | apply Ext.drew | apply Ext.alloc | (refine Ext.setCell ?_ (by first | (simp; done) | (simp; omega) | omega) _) | (refine Ext.trans ?_ (by assumption)) | (refine Ext.trans ?_ (held_left (by assumption)))))))).mono ?_; rintro e w1 ⟨rfl, hb1⟩; have hE1 : Ext w w1 := (by (repeat (with_reducible (first | exact Ext.refl _ | assumption | exact held_left (by assumption) | apply Ext.drewN | apply Ext.drew | apply Ext.alloc | (refine Ext.setCell ?_ (by first | (simp; done) | (simp; omega) | omega) _) | (refine Ext.trans ?_ (by assumption)) | (refine Ext.trans ?_ (held_left (by assumption))))))))
    go_ret
    exact ⟨ret_int HKE2.out.symm, hE1⟩
  subst h0
  have HKE2 := Hid.mk' (HKE.out.trans (if_neg (by simp)))
  have hfz := fits_zero HEQ.out.symm
  have hll : l.length = cols.length := hfz.2.1
  have hle : l.length ≤ cols.length := by omega
  clear HKE HEQ hfz hll
  go_enter Tryz.func104, Tryz.ntmps104
  go_wp2_with (go_at_call 134; refine (HFT.out _ (by (repeat (with_reducible (first | exact Ext.refl _ | assumption | exact held_left (by assumption) | apply Ext.drewN | apply Ext.drew | apply Ext.alloc | (refine Ext.setCell ?_ (by first | (simp; done) | (simp; omega) | omega) _) | (refine Ext.trans ?_ (by assumption)) | (refine Ext.trans ?_ (held_left (by assumption)))))))).mono ?_; rintro e w1 ⟨rfl, hb1⟩; have hE1 := Hid.mk' hb1; clear hb1)
  go_loopw [6] (fun i wr => ∃ k : Nat, k ≤ l.length ∧ i = .int .i64 k ∧ Hid (∀ j, j < k → keyE cols l j = 0) ∧ Hid (Ext (w.alloc (.cells #[.int .u32 oid, .int .u32 ver, .string nm, .int .u8 id, .slice a2 cols.length cap2] 59)) wr)) (fun i _ => l.length - (intOf i).toNat)
  case atStart => exact ⟨0, Nat.zero_le _, rfl, fun j h => by omega, hE1⟩
  case round =>
    obtain ⟨k, hk, rfl, hrel, hE⟩ := hrel
    have hEw : Hid (Ext w wr) := Hid.mk' (((Ext.refl w).alloc _).trans hE.out)
    by_cases hlt : k < l.length
    · have hlt2 : k < cols.length := by omega
      have hBx := (Blk.new w #[.int .u32 oid, .int .u32 ver, .string nm, .int .u8 id, .slice a2 cols.length cap2] 59).ext hE.out
      have g0 := hBx.cell
      have z0 := hBx.lt
      obtain ⟨b, o, rfl, hb, hx⟩ := HL.out.at_ (i := k) (by simpa using hlt)
      obtain ⟨f0, f1, f2, f3, f4, f5⟩ := K.rcAt hlt hx hb hEw.out
      obtain ⟨b2, o2, rfl, hb2, hx2⟩ := HL2.out.at_ (i := k) (by simpa using hlt2)
      obtain ⟨p0, p1, p2⟩ := Col.at_ hlt2 hx2 hb2 hEw.out
      have hbw : b < wr.heap.size := Nat.lt_of_lt_of_le hb hEw.out.size
      have hbw2 : b2 < wr.heap.size := Nat.lt_of_lt_of_le hb2 hEw.out.size
      have hKX : keyE cols l k = if cols[k].key = true then kindE l[k].k else 0 := by unfold keyE; rw [isKeyAt_lt hlt2, kindAt_lt hlt]
      clear hx hx2 hBx
      cases hq : cols[k].key with
      | false =>
        have HZ := Hid.mk' (hKX.trans (if_neg (by rw [hq]; simp)))
        rw [hq] at p2
        clear hq hKX
        go_wp2
        go_roundw
        case rel => exact ⟨k + 1, by omega, by go_num, fun j hj => by
          by_cases e : j = k
          · subst e; exact HZ.out
          · exact hrel.out j (by omega), hE⟩
        case measure => simp [intOf]; omega
      | true =>
        have HZ := Hid.mk' (hKX.trans (if_pos hq))
        rw [hq] at p2
        clear hq hKX
        by_cases hk0 : l[k].k = 0
        · have HR := Hid.mk' (HKE2.out.trans (show firstE (keyE cols l) l.length = 12 by rw [firstE_at hrel.out hlt (by rw [HZ.out, hk0]; decide), HZ.out, hk0]; rfl))
          rw [hk0] at f0
          clear hk0
          go_wp2
          go_ret
          exact ⟨ret_int HR.out.symm, hEw.out⟩
        · by_cases hk1 : l[k].k = 1
          · have HR := Hid.mk' (HKE2.out.trans (show firstE (keyE cols l) l.length = 13 by rw [firstE_at hrel.out hlt (by rw [HZ.out, hk1]; decide), HZ.out, hk1]; rfl))
            rw [hk1] at f0
            clear hk0 hk1
            go_wp2
            go_ret
            exact ⟨ret_int HR.out.symm, hEw.out⟩
          · have e0 : (l[k].k == 0) = false := by simpa using hk0
            have e1 : (l[k].k == 1) = false := by simpa using hk1
            have HZ2 := Hid.mk' (HZ.out.trans (show kindE l[k].k = 0 by unfold kindE; rw [if_neg hk0, if_neg hk1]))
            clear hk0 hk1
            go_wp2
            go_roundw
            case rel => exact ⟨k + 1, by omega, by go_num, fun j hj => by
              by_cases e : j = k
              · subst e; exact HZ2.out
              · exact hrel.out j (by omega), hE⟩
            case measure => simp [intOf]; omega
    · have hkk : k = l.length := by omega
      have HR := Hid.mk' (HKE2.out.trans (firstE_zero (fun i hi => hrel.out i (by omega))))
      subst hkk
      go_wp2
      go_ret
      exact ⟨ret_int HR.out.symm, hEw.out⟩

set_option maxRecDepth 100000 in set_option maxHeartbeats 1600000 in
theorem risKey_any (l : List K) (a : Option Addr) (cap : Nat) (oid ver : Int) (nm : ByteArray) (id : Int) (cols : List Col) (a2 : Option Addr) (cap2 : Nat) (w : World) (hl : Sl w (.slice a l.length cap) 6 (l.map K.rc)) (hl2 : Sl w (.slice a2 cols.length cap2) 3 (cols.map Col.cells)) (hlen : l.length ≤ 1000) (hlen2 : cols.length ≤ 1000) (hs : ∀ c ∈ l, c.wk) (hs2 : ∀ c ∈ cols, c.nm.size ≤ 9223372036854775807) (hnm : nm.size ≤ 9223372036854775807) :
    Calls Tryz.prog 102 #[.agg #[.int .u32 oid, .int .u32 ver, .string nm, .int .u8 id, .slice a2 cols.length cap2], .slice a l.length cap] w fun e w' => e = .returned (.int .i64 (isKeyE l (⟨oid, ver, nm, id, cols⟩ : Rl))) ∧ Ext w w' := by
  have HFT := Hid.mk' (fun W (h : Ext w W) => rkeyed_any l a cap oid ver nm id cols a2 cap2 W (hl.ext h) (hl2.ext h) hlen hlen2 hs hs2 hnm)
  have HL := Hid.mk' hl
  have HL2 := Hid.mk' hl2
  have HKE : Hid (isKeyE l (⟨oid, ver, nm, id, cols⟩ : Rl) = if keyedE l (⟨oid, ver, nm, id, cols⟩ : Rl) ≠ 0 then keyedE l (⟨oid, ver, nm, id, cols⟩ : Rl) else firstE (nonE cols l) l.length) := Hid.mk' rfl
  obtain ⟨E, hE⟩ : ∃ E, E = keyedE l (⟨oid, ver, nm, id, cols⟩ : Rl) := ⟨_, rfl⟩
  rw [← hE] at HFT HKE
  have HEQ := Hid.mk' hE
  clear hl hl2 hs hs2 hE
  by_cases h0 : E = 0
  case neg =>
    have HKE2 := Hid.mk' (HKE.out.trans (if_pos h0))
    have h0' : (E != 0) = true := by simpa using h0
    clear h0 HKE HEQ
    go_enter Tryz.func102, Tryz.ntmps102
    go_wp2_with (go_at_call 104; refine (HFT.out _ (by (repeat (with_reducible (first | exact Ext.refl _ | assumption | exact held_left (by assumption) | apply Ext.drewN | apply Ext.drew | apply Ext.alloc | (refine Ext.setCell ?_ (by first | (simp; done) | (simp; omega) | omega) _) | (refine Ext.trans ?_ (by assumption)) | (refine Ext.trans ?_ (held_left (by assumption)))))))).mono ?_; rintro e w1 ⟨rfl, hb1⟩; have hE1 : Ext w w1 := (by (repeat (with_reducible (first | exact Ext.refl _ | assumption | exact held_left (by assumption) | apply Ext.drewN | apply Ext.drew | apply Ext.alloc | (refine Ext.setCell ?_ (by first | (simp; done) | (simp; omega) | omega) _) | (refine Ext.trans ?_ (by assumption)) | (refine Ext.trans ?_ (held_left (by assumption))))))))
    go_ret
    exact ⟨ret_int HKE2.out.symm, hE1⟩
  subst h0
  have HKE2 := Hid.mk' (HKE.out.trans (if_neg (by simp)))
  have hfz := fits_zero (keyed_fits HEQ.out.symm)
  have hll : l.length = cols.length := hfz.2.1
  have hle : l.length ≤ cols.length := by omega
  clear HKE HEQ hfz hll
  go_enter Tryz.func102, Tryz.ntmps102
  go_wp2_with (go_at_call 104; refine (HFT.out _ (by (repeat (with_reducible (first | exact Ext.refl _ | assumption | exact held_left (by assumption) | apply Ext.drewN | apply Ext.drew | apply Ext.alloc | (refine Ext.setCell ?_ (by first | (simp; done) | (simp; omega) | omega) _) | (refine Ext.trans ?_ (by assumption)) | (refine Ext.trans ?_ (held_left (by assumption)))))))).mono ?_; rintro e w1 ⟨rfl, hb1⟩; have hE1 := Hid.mk' hb1; clear hb1)
  go_loopw [6] (fun i wr => ∃ k : Nat, k ≤ l.length ∧ i = .int .i64 k ∧ Hid (∀ j, j < k → nonE cols l j = 0) ∧ Hid (Ext (w.alloc (.cells #[.int .u32 oid, .int .u32 ver, .string nm, .int .u8 id, .slice a2 cols.length cap2] 59)) wr)) (fun i _ => l.length - (intOf i).toNat)
  case atStart => exact ⟨0, Nat.zero_le _, rfl, fun j h => by omega, hE1⟩
  case round =>
    obtain ⟨k, hk, rfl, hrel, hE⟩ := hrel
    have hEw : Hid (Ext w wr) := Hid.mk' (((Ext.refl w).alloc _).trans hE.out)
    by_cases hlt : k < l.length
    · have hlt2 : k < cols.length := by omega
      have hBx := (Blk.new w #[.int .u32 oid, .int .u32 ver, .string nm, .int .u8 id, .slice a2 cols.length cap2] 59).ext hE.out
      have g0 := hBx.cell
      have z0 := hBx.lt
      obtain ⟨b, o, rfl, hb, hx⟩ := HL.out.at_ (i := k) (by simpa using hlt)
      obtain ⟨f0, f1, f2, f3, f4, f5⟩ := K.rcAt hlt hx hb hEw.out
      obtain ⟨b2, o2, rfl, hb2, hx2⟩ := HL2.out.at_ (i := k) (by simpa using hlt2)
      obtain ⟨p0, p1, p2⟩ := Col.at_ hlt2 hx2 hb2 hEw.out
      have hbw : b < wr.heap.size := Nat.lt_of_lt_of_le hb hEw.out.size
      have hbw2 : b2 < wr.heap.size := Nat.lt_of_lt_of_le hb2 hEw.out.size
      have hKX : nonE cols l k = if cols[k].key = false ∧ l[k].k ≠ 0 then 14 else 0 := by unfold nonE; rw [isKeyAt_lt hlt2, kindAt_lt hlt]
      clear hx hx2 hBx
      cases hq : cols[k].key with
      | true =>
        have HZ := Hid.mk' (hKX.trans (if_neg (by rw [hq]; simp)))
        rw [hq] at p2
        clear hq hKX
        go_wp2
        go_roundw
        case rel => exact ⟨k + 1, by omega, by go_num, fun j hj => by
          by_cases e : j = k
          · subst e; exact HZ.out
          · exact hrel.out j (by omega), hE⟩
        case measure => simp [intOf]; omega
      | false =>
        by_cases hk0 : l[k].k = 0
        · have HZ := Hid.mk' (hKX.trans (if_neg (by rw [hk0]; simp)))
          rw [hq] at p2
          rw [hk0] at f0
          clear hk0 hq hKX
          go_wp2
          go_roundw
          case rel => exact ⟨k + 1, by omega, by go_num, fun j hj => by
            by_cases e : j = k
            · subst e; exact HZ.out
            · exact hrel.out j (by omega), hE⟩
          case measure => simp [intOf]; omega
        · have e0 : (l[k].k != 0) = true := by simpa using hk0
          have HZ := hKX.trans (if_pos ⟨hq, hk0⟩)
          have HR := Hid.mk' (HKE2.out.trans (show firstE (nonE cols l) l.length = 14 by rw [firstE_at hrel.out hlt (by rw [HZ]; decide), HZ]))
          rw [hq] at p2
          clear hk0 hq hKX HZ
          go_wp2
          go_ret
          exact ⟨ret_int HR.out.symm, hEw.out⟩
    · have hkk : k = l.length := by omega
      have HR := Hid.mk' (HKE2.out.trans (firstE_zero (fun i hi => hrel.out i (by omega))))
      subst hkk
      go_wp2
      go_ret
      exact ⟨ret_int HR.out.symm, hEw.out⟩

set_option maxRecDepth 100000 in set_option maxHeartbeats 1600000 in
theorem risFull_any (l : List K) (a : Option Addr) (cap : Nat) (oid ver : Int) (nm : ByteArray) (id : Int) (cols : List Col) (a2 : Option Addr) (cap2 : Nat) (w : World) (hl : Sl w (.slice a l.length cap) 6 (l.map K.rc)) (hl2 : Sl w (.slice a2 cols.length cap2) 3 (cols.map Col.cells)) (hlen : l.length ≤ 1000) (hlen2 : cols.length ≤ 1000) (hs : ∀ c ∈ l, c.wk) (hs2 : ∀ c ∈ cols, c.nm.size ≤ 9223372036854775807) (hnm : nm.size ≤ 9223372036854775807) :
    Calls Tryz.prog 103 #[.agg #[.int .u32 oid, .int .u32 ver, .string nm, .int .u8 id, .slice a2 cols.length cap2], .slice a l.length cap] w fun e w' => e = .returned (.int .i64 (isFullE l (⟨oid, ver, nm, id, cols⟩ : Rl))) ∧ Ext w w' := by
  have HFT := Hid.mk' (fun W (h : Ext w W) => rkeyed_any l a cap oid ver nm id cols a2 cap2 W (hl.ext h) (hl2.ext h) hlen hlen2 hs hs2 hnm)
  have HL := Hid.mk' hl
  have HKE : Hid (isFullE l (⟨oid, ver, nm, id, cols⟩ : Rl) = if keyedE l (⟨oid, ver, nm, id, cols⟩ : Rl) ≠ 0 then keyedE l (⟨oid, ver, nm, id, cols⟩ : Rl) else firstE (sameE l) l.length) := Hid.mk' rfl
  obtain ⟨E, hE⟩ : ∃ E, E = keyedE l (⟨oid, ver, nm, id, cols⟩ : Rl) := ⟨_, rfl⟩
  rw [← hE] at HFT HKE
  clear hl hl2 hs hs2 hE
  by_cases h0 : E = 0
  case neg =>
    have HKE2 := Hid.mk' (HKE.out.trans (if_pos h0))
    have h0' : (E != 0) = true := by simpa using h0
    clear h0 HKE
    go_enter Tryz.func103, Tryz.ntmps103
    go_wp2_with (go_at_call 104; refine (HFT.out _ (by (repeat (with_reducible (first | exact Ext.refl _ | assumption | exact held_left (by assumption) | apply Ext.drewN | apply Ext.drew | apply Ext.alloc | (refine Ext.setCell ?_ (by first | (simp; done) | (simp; omega) | omega) _) | (refine Ext.trans ?_ (by assumption)) | (refine Ext.trans ?_ (held_left (by assumption)))))))).mono ?_; rintro e w1 ⟨rfl, hb1⟩; have hE1 : Ext w w1 := (by (repeat (with_reducible (first | exact Ext.refl _ | assumption | exact held_left (by assumption) | apply Ext.drewN | apply Ext.drew | apply Ext.alloc | (refine Ext.setCell ?_ (by first | (simp; done) | (simp; omega) | omega) _) | (refine Ext.trans ?_ (by assumption)) | (refine Ext.trans ?_ (held_left (by assumption))))))))
    go_ret
    exact ⟨ret_int HKE2.out.symm, hE1⟩
  subst h0
  have HKE2 := Hid.mk' (HKE.out.trans (if_neg (by simp)))
  clear HKE
  go_enter Tryz.func103, Tryz.ntmps103
  go_wp2_with (go_at_call 104; refine (HFT.out _ (by (repeat (with_reducible (first | exact Ext.refl _ | assumption | exact held_left (by assumption) | apply Ext.drewN | apply Ext.drew | apply Ext.alloc | (refine Ext.setCell ?_ (by first | (simp; done) | (simp; omega) | omega) _) | (refine Ext.trans ?_ (by assumption)) | (refine Ext.trans ?_ (held_left (by assumption)))))))).mono ?_; rintro e w1 ⟨rfl, hb1⟩; have hE1 := Hid.mk' hb1; clear hb1)
  go_loopw [6] (fun i wr => ∃ k : Nat, k ≤ l.length ∧ i = .int .i64 k ∧ Hid (∀ j, j < k → sameE l j = 0) ∧ Hid (Ext (w.alloc (.cells #[.int .u32 oid, .int .u32 ver, .string nm, .int .u8 id, .slice a2 cols.length cap2] 59)) wr)) (fun i _ => l.length - (intOf i).toNat)
  case atStart => exact ⟨0, Nat.zero_le _, rfl, fun j h => by omega, hE1⟩
  case round =>
    obtain ⟨k, hk, rfl, hrel, hE⟩ := hrel
    have hEw : Hid (Ext w wr) := Hid.mk' (((Ext.refl w).alloc _).trans hE.out)
    by_cases hlt : k < l.length
    · obtain ⟨b, o, rfl, hb, hx⟩ := HL.out.at_ (i := k) (by simpa using hlt)
      obtain ⟨f0, f1, f2, f3, f4, f5⟩ := K.rcAt hlt hx hb hEw.out
      have hbw : b < wr.heap.size := Nat.lt_of_lt_of_le hb hEw.out.size
      have hKX : sameE l k = if l[k].k = 1 then 14 else 0 := by unfold sameE; rw [kindAt_lt hlt]
      clear hx
      by_cases hk0 : l[k].k = 1
      · have HZ := hKX.trans (if_pos hk0)
        have HR := Hid.mk' (HKE2.out.trans (show firstE (sameE l) l.length = 14 by rw [firstE_at hrel.out hlt (by rw [HZ]; decide), HZ]))
        rw [hk0] at f0
        clear hk0 hKX HZ
        go_wp2
        go_ret
        exact ⟨ret_int HR.out.symm, hEw.out⟩
      · have e0 : (l[k].k == 1) = false := by simpa using hk0
        have HZ := Hid.mk' (hKX.trans (if_neg hk0))
        clear hk0 hKX
        go_wp2
        go_roundw
        case rel => exact ⟨k + 1, by omega, by go_num, fun j hj => by
          by_cases e : j = k
          · subst e; exact HZ.out
          · exact hrel.out j (by omega), hE⟩
        case measure => simp [intOf]; omega
    · have hkk : k = l.length := by omega
      have HR := Hid.mk' (HKE2.out.trans (firstE_zero (fun i hi => hrel.out i (by omega))))
      subst hkk
      go_wp2
      go_ret
      exact ⟨ret_int HR.out.symm, hEw.out⟩

end Go.Proofs.YthdjinicmnhgpaaGreatDoor
