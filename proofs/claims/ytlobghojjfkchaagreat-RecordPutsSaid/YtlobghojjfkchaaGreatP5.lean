/-
Catalogs, the reference's: Add, Of.
-/
import Derived.RangeFuncBox
import Derived.Test.YtlobghojjfkchaaGreatP4
namespace Go.Proofs.YtlobghojjfkchaaGreat
open Go.RowKit

theorem Tryz.infoRRel : (Tryz.prog.info? 101).map (fun i => (i.zero, i.size, i.bytes)) = some (some (.agg #[.int .u32 0, .int .u32 0, .string ByteArray.empty, .int .u8 0, .slice none 0 0]), 5, 56) := by kernel_rfl

def addP (ps : List RR) (q : RR) : List RR := if addE (ps.map RR.r) q.r = 0 then insP ps q else ps
theorem addP_r (ps : List RR) (q : RR) : (addP ps q).map RR.r = addL (ps.map RR.r) q.r := by
  unfold addP addL
  split
  · exact insP_r ps q
  · rfl
theorem addP_mem {ps : List RR} {q x : RR} (h : x ∈ addP ps q) : x = q ∨ x ∈ ps := by
  unfold addP at h
  split at h
  · exact insP_mem h
  · exact .inr h
def RAddPost (ps : List RR) (a : Option Addr) (q : RR) (w : World) (e : Ending) (w' : World) : Prop :=
  ∃ a' c', e = .returned (.tuple #[.slice a' (addP ps q).length c', .int .i64 (addE (ps.map RR.r) q.r)]) ∧ RL w' (.slice a' (addP ps q).length c') (addP ps q) ∧ (∀ b o, a' = some ⟨b, o, none⟩ → (addE (ps.map RR.r) q.r ≠ 0 ∧ a' = a) ∨ w.heap.size ≤ b) ∧ Ext w w'
theorem RAddPost.keep {ps : List RR} {a : Option Addr} {cap : Nat} {q : RR} {w w' : World} {E : Int} (h : addE (ps.map RR.r) q.r = E) (h0 : E ≠ 0) (hl : RL w (.slice a ps.length cap) ps) (he : Ext w w') : RAddPost ps a q w (.returned (.tuple #[.slice a ps.length cap, .int .i64 E])) w' := by
  have e : addP ps q = ps := by unfold addP; rw [h, if_neg h0]
  exact ⟨a, cap, by rw [e, h], by rw [e]; exact hl.ext he, fun b o _ => .inl ⟨by rw [h]; exact h0, rfl⟩, he⟩

theorem RAddPost.more {ps : List RR} {a a' : Option Addr} {c' : Nat} {q : RR} {w w' : World} (h : addE (ps.map RR.r) q.r = 0) (hl : RL w' (.slice a' (insP ps q).length c') (insP ps q)) (hb : ∀ b o, a' = some ⟨b, o, none⟩ → w.heap.size ≤ b) (he : Ext w w') : RAddPost ps a q w (.returned (.tuple #[.slice a' (insP ps q).length c', .int .i64 0])) w' := by
  have e : addP ps q = insP ps q := by unfold addP; rw [if_pos h]
  exact ⟨a', c', by rw [e, h], by rw [e]; exact hl, fun b o h => .inr (hb b o h), he⟩

set_option maxRecDepth 100000 in set_option maxHeartbeats 4000000 in
theorem radd_any (ps : List RR) (a : Option Addr) (cap : Nat) (q : RR) (w : World) (hl : RL w (.slice a ps.length cap) ps) (hq : q.in w) (hb : q.r.wb) (hlen : ps.length ≤ 1000) :
    Calls Tryz.prog 85 #[.slice a ps.length cap, q.agg] w (RAddPost ps a q w) := by
  obtain ⟨i0, hi, hz0, hz1, hz2⟩ := info_parts Tryz.infoRRel
  obtain ⟨⟨oid, ver, nm, id, cols⟩, a2, c2⟩ := q
  unfold RR.agg
  unfold RR.in at hq
  obtain ⟨hb1, hb2, hb3⟩ := hb
  simp only at hq hb1 hb2 hb3 ⊢
  have HR8 := Hid.mk' (fun W (h : Ext w W) => rright8_big oid ver nm id cols a2 c2 W (hq.ext h) (by omega) hb1 hb2)
  have HGT := Hid.mk' (fun W (h : Ext w W) => rget_any ps a cap oid ver W (hl.ext h) hlen)
  have HL := Hid.mk' hl
  have HQ := Hid.mk' hq
  have HAE : Hid (addE (ps.map RR.r) (⟨oid, ver, nm, id, cols⟩ : Rl) = if (⟨oid, ver, nm, id, cols⟩ : Rl).right ≠ 0 then (⟨oid, ver, nm, id, cols⟩ : Rl).right else if hasR oid ver (ps.map RR.r) = true then 9 else if 64 ≤ (ps.map RR.r).length then 8 else 0) := Hid.mk' rfl
  rw [getP_is] at HGT
  obtain ⟨⟨⟨o1, v1, n1, i1, k1⟩, x1, y1⟩, hz⟩ : ∃ z, z = (getP oid ver ps).getD RR.zero := ⟨_, rfl⟩
  rw [← hz] at HGT
  unfold RR.agg at HGT
  simp only at HGT
  clear hl hq hb1 hb2 hz
  obtain ⟨E, hE⟩ : ∃ E, E = Rl.right (⟨oid, ver, nm, id, cols⟩ : Rl) := ⟨_, rfl⟩
  rw [← hE] at HR8 HAE
  by_cases h0 : E = 0
  case neg =>
    have h0' : (E != 0) = true := by simpa using h0
    have HA := Hid.mk' (HAE.out.trans (if_pos h0))
    have H0 := Hid.mk' h0
    clear h0 hE HAE
    go_enter Tryz.func85, Tryz.ntmps85
    go_wp2_with (go_at_call 118; refine (HR8.out _ (by exact eX)).mono ?_; rintro e w1 ⟨rfl, hb1⟩; have hE1 : Ext w w1 := (by exact eX))
    go_ret2
    exact RAddPost.keep HA.out H0.out HL.out hE1
  subst h0
  have HAE2 := Hid.mk' (HAE.out.trans (if_neg (by simp)))
  clear HAE hE
  cases hh : hasR oid ver (ps.map RR.r) with
  | true =>
    rw [hh] at HGT HAE2
    have HA := Hid.mk' (HAE2.out.trans (if_pos rfl))
    clear hh HAE2
    go_enter Tryz.func85, Tryz.ntmps85
    go_wp2_with (first
      | (go_at_call 118; refine (HR8.out _ (by exact eX)).mono ?_; rintro e w1 ⟨rfl, hb1⟩; have hE1 : Ext w w1 := (by exact eX); have g0 := ((Blk.new w #[.int .u32 oid, .int .u32 ver, .string nm, .int .u8 id, .slice a2 cols.length c2] 101).ext hb1).cell)
      | (go_at_call 52; refine (HGT.out _ (by exact eX)).mono ?_; rintro e w2 ⟨rfl, hb2⟩; have hE2 : Ext w w2 := (by exact eX)))
    go_ret2
    exact RAddPost.keep HA.out (by decide) HL.out (by exact eX)
  | false =>
    rw [hh] at HGT HAE2
    have HHH := Hid.mk' hh
    have HAE3 := Hid.mk' (HAE2.out.trans (if_neg (by simp)))
    rw [List.length_map] at HAE3
    clear hh HAE2
    by_cases h64 : 64 ≤ ps.length
    · have HA := Hid.mk' (HAE3.out.trans (if_pos h64))
      clear HAE3
      go_enter Tryz.func85, Tryz.ntmps85
      go_wp2_with (first
        | (go_at_call 118; refine (HR8.out _ (by exact eX)).mono ?_; rintro e w1 ⟨rfl, hb1⟩; have hE1 : Ext w w1 := (by exact eX); have g0 := ((Blk.new w #[.int .u32 oid, .int .u32 ver, .string nm, .int .u8 id, .slice a2 cols.length c2] 101).ext hb1).cell)
        | (go_at_call 52; refine (HGT.out _ (by exact eX)).mono ?_; rintro e w2 ⟨rfl, hb2⟩; have hE2 : Ext w w2 := (by exact eX)))
      go_ret2
      exact RAddPost.keep HA.out (by decide) HL.out (by exact eX)
    · have HA := Hid.mk' (HAE3.out.trans (if_neg h64))
      have h64' : ps.length < 64 := by omega
      clear HAE3 h64
      have HPQ : Hid (addP ps (⟨⟨oid, ver, nm, id, cols⟩, a2, c2⟩ : RR) = insP ps (⟨⟨oid, ver, nm, id, cols⟩, a2, c2⟩ : RR)) := Hid.mk' (by unfold addP; rw [if_pos HA.out])
      obtain ⟨P, hP⟩ : ∃ P, P = posR oid ver (ps.map RR.r) := ⟨_, rfl⟩
      have HPP := Hid.mk' hP
      have hPn : P ≤ ps.length := by have := posR_le oid ver (ps.map RR.r); rw [List.length_map] at this; omega
      clear hP
      go_enter Tryz.func85, Tryz.ntmps85
      go_wp2_with (first
        | (go_at_call 118; refine (HR8.out _ (by exact eX)).mono ?_; rintro e w1 ⟨rfl, hb1⟩; have hE1 : Ext (w.alloc (.cells #[.int .u32 oid, .int .u32 ver, .string nm, .int .u8 id, .slice a2 cols.length c2] 101)) w1 := (by exact eX); have g0 := ((Blk.new w #[.int .u32 oid, .int .u32 ver, .string nm, .int .u8 id, .slice a2 cols.length c2] 101).ext hb1).cell)
        | (go_at_call 52; refine (HGT.out _ (by exact eX)).mono ?_; rintro e w2 ⟨rfl, hb2⟩; have hE2 : Ext (w.alloc (.cells #[.int .u32 oid, .int .u32 ver, .string nm, .int .u8 id, .slice a2 cols.length c2] 101)) w2 := (by exact eX)))
      have HE2 := Hid.mk' hE2
      clear g0 hb1 hb2 hE1 hE2
      go_loopw [9, 10, 11] (fun v pb i wr => ∃ k : Nat, k ≤ ps.length ∧ i = .int .i64 k ∧ pb = .bool (decide (P < k)) ∧ Hid (wr.ownsRow (w.heap.size + 1) 101 5 v (outs ps (⟨⟨oid, ver, nm, id, cols⟩, a2, c2⟩ : RR) k).length ((outs ps (⟨⟨oid, ver, nm, id, cols⟩, a2, c2⟩ : RR) k).map RR.cells).flatten) ∧ Hid (Ext (w.alloc (.cells #[.int .u32 oid, .int .u32 ver, .string nm, .int .u8 id, .slice a2 cols.length c2] 101)) wr)) (fun _ _ i _ => ps.length - (intOf i).toNat)
      case atStart => exact ⟨0, Nat.zero_le _, rfl, by rw [decide_eq_false (Nat.not_lt_zero _)], Hid.mk' (by rw [outs_zero]; exact World.ownsRow_nil _ _ _ _), Hid.mk' (by have hE2 := HE2.out; exact eX)⟩
      case round =>
        obtain ⟨k, hk, rfl, rfl, hown, hE⟩ := hrel
        have HEW := Hid.mk' (((Ext.refl w).alloc (.cells #[.int .u32 oid, .int .u32 ver, .string nm, .int .u8 id, .slice a2 cols.length c2] 101)).trans hE.out)
        have HB0 := Hid.mk' ((Blk.new w #[.int .u32 oid, .int .u32 ver, .string nm, .int .u8 id, .slice a2 cols.length c2] 101).ext hE.out)
        have g0 := HB0.out.cell
        have z0 := HB0.out.lt
        by_cases hlt : k < ps.length
        · obtain ⟨b, o, rfl, hb, hx⟩ := HL.out.row.at_ (i := k) (by simpa using hlt)
          have HF := Hid.mk' (fun W (h : Ext w W) => RR.at_ hlt hx hb h)
          obtain ⟨f0, f1, f2, f3, f4⟩ := HF.out _ HEW.out
          have hbw : b < wr.heap.size := Nat.lt_of_lt_of_le hb HEW.out.size
          have HLT : Hid (k < P → aheadP ps[k].r.oid ps[k].r.ver oid ver) := Hid.mk' (fun h => by have := posR_lt oid ver (ps.map RR.r) k (by simpa using hlt) (by rw [← HPP.out]; exact h); rwa [List.getElem_map] at this)
          have HEQ : Hid (k = P → ¬ aheadP ps[k].r.oid ps[k].r.ver oid ver) := Hid.mk' (fun h => by
            subst h
            have hp := HPP.out
            have := posR_at oid ver (ps.map RR.r) (by rw [← hp]; simpa using hlt)
            simp only [← hp, List.getElem_map] at this
            exact this)
          have HNE : Hid (¬ (ps[k].r.oid = oid ∧ ps[k].r.ver = ver)) := Hid.mk' (fun h => by
            have := hasR_at (o := oid) (v := ver) (l := ps.map RR.r) (i := k) (by simpa using hlt) (by rw [List.getElem_map]; exact h)
            rw [HHH.out] at this; cases this)
          have HO1 := Hid.mk' (fun h => outs_lt (ps := ps) (q := (⟨⟨oid, ver, nm, id, cols⟩, a2, c2⟩ : RR)) hlt (HPP.out ▸ h))
          have HO2 := Hid.mk' (fun h => outs_eq (ps := ps) (q := (⟨⟨oid, ver, nm, id, cols⟩, a2, c2⟩ : RR)) hlt (HPP.out ▸ h))
          have HO3 := Hid.mk' (fun h => outs_gt (ps := ps) (q := (⟨⟨oid, ver, nm, id, cols⟩, a2, c2⟩ : RR)) hlt (HPP.out ▸ h))
          obtain ⟨p, hp⟩ : ∃ p, p = ps[k] := ⟨_, rfl⟩
          rw [← hp] at f0 f1 f2 f3 f4 HF HLT HEQ HNE HO1 HO2 HO3
          have hol : (outs ps (⟨⟨oid, ver, nm, id, cols⟩, a2, c2⟩ : RR) k).length ≤ 100 := by unfold outs; split <;> rw [List.length_take] <;> omega
          clear hx hp
          have hcl : (RR.cells p).length = 5 := rfl
          have hql : (RR.cells (⟨⟨oid, ver, nm, id, cols⟩, a2, c2⟩ : RR)).length = 5 := rfl
          rcases Nat.lt_trichotomy k P with hkP | hkP | hkP
          · have hab : aheadB oid ver p.r.oid p.r.ver = false := decide_eq_false (by have := HLT.out hkP; unfold aheadP at *; omega)
            have HAH := Hid.mk' (fun W => rahead_any oid ver p.r.oid p.r.ver W)
            rw [hab] at HAH
            have HO := Hid.mk' (HO1.out hkP)
            have hd : decide (P < k) = false := decide_eq_false (by omega)
            have hd2 : decide (P < k + 1) = false := decide_eq_false (by omega)
            rw [hd]
            clear hab HLT HEQ HNE HO1 HO2 HO3 hd
            go_wp2
            go_region_held3 (fun w' => Ext (wr) w' ∧ (∀ b o, b < (wr).heap.size → w'.cell? ⟨b, o, none⟩ = (wr).cell? ⟨b, o, none⟩) ∧ (∀ b o, b < (wr).heap.size → w'.frozen? ⟨b, o, none⟩ = (wr).frozen? ⟨b, o, none⟩)) ((exact held_of (by exact eX))) (first | (go_at_call 96; refine (HAH.out _).mono ?_; rintro e w3 ⟨rfl, hb3⟩; have HE3 := Hid.mk' (show Ext wr w3 by exact eX)))
            clear hb3 g0
            have HO3 := Hid.mk' (owns_ext hown.out HE3.out)
            have HX3 : Hid (Ext (w.alloc (.cells #[.int .u32 oid, .int .u32 ver, .string nm, .int .u8 id, .slice a2 cols.length c2] 101)) w3) := Hid.mk' (hE.out.trans HE3.out)
            go_wp2_with (at_builtin; refine wpList_append_own _ rfl _ _ 22 rfl (w.heap.size + 1) 101 i0 _ 5 56 Tryz.underlying22 hi hz0 hz1 hz2 rfl (by decide) _ _ _ rfl ((owns_ext HO3.out (by exact eX))) ⟨_, 0, none⟩ 1 1 p.cells rfl rfl (cells_new _ #[.int .u32 p.r.oid, .int .u32 p.r.ver, .string p.r.nm, .int .u8 p.r.id, .slice p.a p.r.cols.length p.c] _) (by intro u hu; simp [RR.cells] at hu; rcases hu with rfl | rfl | rfl | rfl | rfl <;> rfl) (by unfold maxLen; omega) (by omega) (by have := HEW.out.size; have := HE3.out.size; simp; omega) ?_)
            intro v' w4 hown' hgrow _
            have HX4 : Hid (Ext (w.alloc (.cells #[.int .u32 oid, .int .u32 ver, .string nm, .int .u8 id, .slice a2 cols.length c2] 101)) w4) := Hid.mk' (Below.grown ((HX3.out).alloc _) hgrow (by have := HX3.out.size; simp at this ⊢; omega) (fun g hg => by have := (HO3.out.lt g hg).1; simp; omega))
            have HO4 := Hid.mk' hown'
            clear hown' hgrow
            go_wp2
            go_roundw
            case rel => exact ⟨k + 1, by omega, by go_num, by rw [hd2], Hid.mk' (by rw [HO.out, List.map_append, List.flatten_append, List.length_append]; simpa using HO4.out), HX4⟩
            case measure => simp [intOf]; omega
          · have hab : aheadB oid ver p.r.oid p.r.ver = true := decide_eq_true (by have h1 := HEQ.out hkP; have h2 := HNE.out; unfold aheadP at *; omega)
            have HAH := Hid.mk' (fun W => rahead_any oid ver p.r.oid p.r.ver W)
            rw [hab] at HAH
            have HO := Hid.mk' (HO2.out hkP)
            have hd : decide (P < k) = false := decide_eq_false (by omega)
            have hd2 : decide (P < k + 1) = true := decide_eq_true (by omega)
            rw [hd]
            subst hkP
            clear hab HLT HEQ HNE HO1 HO2 HO3 hd
            go_wp2
            go_region_held3 (fun w' => Ext (wr) w' ∧ (∀ b o, b < (wr).heap.size → w'.cell? ⟨b, o, none⟩ = (wr).cell? ⟨b, o, none⟩) ∧ (∀ b o, b < (wr).heap.size → w'.frozen? ⟨b, o, none⟩ = (wr).frozen? ⟨b, o, none⟩)) ((exact held_of (by exact eX))) (first | (go_at_call 96; refine (HAH.out _).mono ?_; rintro e w3 ⟨rfl, hb3⟩; have HE3 := Hid.mk' (show Ext wr w3 by exact eX)))
            clear hb3
            have HO3 := Hid.mk' (owns_ext hown.out HE3.out)
            have HX3 : Hid (Ext (w.alloc (.cells #[.int .u32 oid, .int .u32 ver, .string nm, .int .u8 id, .slice a2 cols.length c2] 101)) w3) := Hid.mk' (hE.out.trans HE3.out)
            have hbw3 : b < w3.heap.size := Nat.lt_of_lt_of_le hbw HE3.out.size
            go_wp2_with (at_builtin; refine wpList_append_own _ rfl _ _ 22 rfl (w.heap.size + 1) 101 i0 _ 5 56 Tryz.underlying22 hi hz0 hz1 hz2 rfl (by decide) _ _ _ rfl ((owns_ext HO3.out (by exact eX))) ⟨_, 0, none⟩ 1 1 (RR.cells (⟨⟨oid, ver, nm, id, cols⟩, a2, c2⟩ : RR)) rfl rfl (cells_new _ #[.int .u32 oid, .int .u32 ver, .string nm, .int .u8 id, .slice a2 cols.length c2] _) (by intro u hu; simp [RR.cells] at hu; rcases hu with rfl | rfl | rfl | rfl | rfl <;> rfl) (by unfold maxLen; omega) (by omega) (by have := HEW.out.size; have := HE3.out.size; simp; omega) ?_)
            intro v' w4 hown' hgrow _
            have HX4 : Hid (Ext (w.alloc (.cells #[.int .u32 oid, .int .u32 ver, .string nm, .int .u8 id, .slice a2 cols.length c2] 101)) w4) := Hid.mk' (Below.grown ((HX3.out).alloc _) hgrow (by have := HX3.out.size; simp at this ⊢; omega) (fun g hg => by have := (HO3.out.lt g hg).1; simp; omega))
            have HO4 := Hid.mk' hown'
            clear f0 f1 f2 f3 f4
            obtain ⟨f0, f1, f2, f3, f4⟩ := HF.out w4 (((Ext.refl w).alloc _).trans HX4.out)
            have hbw4 : b < w4.heap.size := Nat.lt_of_lt_of_le hb (((Ext.refl w).alloc (.cells #[.int .u32 oid, .int .u32 ver, .string nm, .int .u8 id, .slice a2 cols.length c2] 101)).trans HX4.out).size
            have hz4 : w.heap.size + 1 ≤ w4.heap.size := by have := HX4.out.size; simpa using this
            clear hown' hgrow g0
            go_wp2_with ((at_builtin; refine wpList_append_own _ rfl _ _ 22 rfl (w.heap.size + 1) 101 i0 _ 5 56 Tryz.underlying22 hi hz0 hz1 hz2 rfl (by decide) _ _ _ rfl ((owns_ext HO4.out (by exact eX))) ⟨_, 0, none⟩ 1 1 p.cells rfl rfl (cells_new _ #[.int .u32 p.r.oid, .int .u32 p.r.ver, .string p.r.nm, .int .u8 p.r.id, .slice p.a p.r.cols.length p.c] _) (by intro u hu; simp [RR.cells] at hu; rcases hu with rfl | rfl | rfl | rfl | rfl <;> rfl) (by unfold maxLen; omega) (by omega) (by simp; omega) ?_))
            intro v' w5 hown' hgrow _
            have HX5 : Hid (Ext (w.alloc (.cells #[.int .u32 oid, .int .u32 ver, .string nm, .int .u8 id, .slice a2 cols.length c2] 101)) w5) := Hid.mk' (Below.grown ((HX4.out).alloc _) hgrow (by have := HX4.out.size; simp at this ⊢; omega) (fun g hg => by have := (HO4.out.lt g hg).1; simp; omega))
            have HO5 := Hid.mk' hown'
            clear hown' hgrow
            go_wp2
            go_roundw
            case rel => exact ⟨k + 1, by omega, by go_num, by rw [hd2], Hid.mk' (by rw [HO.out, List.map_append, List.map_append, List.flatten_append, List.flatten_append, List.length_append, List.length_append]; simpa using HO5.out), HX5⟩
            case measure => simp [intOf]; omega
          · have HO := Hid.mk' (HO3.out hkP)
            have hd : decide (P < k) = true := decide_eq_true (by omega)
            have hd2 : decide (P < k + 1) = true := decide_eq_true (by omega)
            rw [hd]
            clear HLT HEQ HNE HO1 HO2 HO3 hd
            go_wp2
            refine wp_region_head 11 (fun w' => Ext (wr) w' ∧ (∀ b o, b < (wr).heap.size → w'.cell? ⟨b, o, none⟩ = (wr).cell? ⟨b, o, none⟩) ∧ (∀ b o, b < (wr).heap.size → w'.frozen? ⟨b, o, none⟩ = (wr).frozen? ⟨b, o, none⟩)) (by kernel_rfl) (by decide) ?_
            have hA0 : Hid ((fun w' => Ext (wr) w' ∧ (∀ b o, b < (wr).heap.size → w'.cell? ⟨b, o, none⟩ = (wr).cell? ⟨b, o, none⟩) ∧ (∀ b o, b < (wr).heap.size → w'.frozen? ⟨b, o, none⟩ = (wr).frozen? ⟨b, o, none⟩)) wr.drew) := held_of (by exact eX)
            (refine wpHd_takeD (i := 0) (d := some 37) (v := ?_) rfl rfl (by kernel_rfl) (by kernel_rfl) (by kernel_rfl) (fun _ _ _ h => h) (Or.inl ⟨by rfl, ?_⟩) hA0.out ?_; rotate_left 1; (· (intro w' hS'; (obtain ⟨hEs', hcs', hfs'⟩ := hS'); go_simp; try with_reducible rfl)))
            try simp only [Act.put, List.setIfInBounds_toArray, List.set_cons_zero, List.set_cons_succ]
            (refine wpHd_takeD (i := 1) (d := some 38) (v := ?_) rfl rfl (by kernel_rfl) (by kernel_rfl) (by kernel_rfl) (fun _ _ _ h => h) (Or.inl ⟨by rfl, ?_⟩) hA0.out ?_; rotate_left 1; (· (intro w' hS'; (obtain ⟨hEs', hcs', hfs'⟩ := hS'); go_simp; try with_reducible rfl)))
            try simp only [Act.put, List.setIfInBounds_toArray, List.set_cons_zero, List.set_cons_succ]
            (refine wpHd_takeD (i := 2) (d := some 39) (v := ?_) rfl rfl (by kernel_rfl) (by kernel_rfl) (by kernel_rfl) (fun _ _ _ h => h) (Or.inl ⟨by rfl, ?_⟩) hA0.out ?_; rotate_left 1; (· (intro w' hS'; (obtain ⟨hEs', hcs', hfs'⟩ := hS'); go_simp; try with_reducible rfl)))
            try simp only [Act.put, List.setIfInBounds_toArray, List.set_cons_zero, List.set_cons_succ]
            refine wpHd_takeD (i := 3) (d := some 40) (v := undef) rfl rfl (by kernel_rfl) (by kernel_rfl) (by kernel_rfl) (fun _ _ _ h => h) (Or.inr ⟨by rfl, rfl⟩) hA0.out ?_
            try simp only [Act.put, List.setIfInBounds_toArray, List.set_cons_zero, List.set_cons_succ]
            refine wpHd_takeD (i := 4) (d := some 41) (v := undef) rfl rfl (by kernel_rfl) (by kernel_rfl) (by kernel_rfl) (fun _ _ _ h => h) (Or.inr ⟨by rfl, rfl⟩) hA0.out ?_
            try simp only [Act.put, List.setIfInBounds_toArray, List.set_cons_zero, List.set_cons_succ]
            refine wpHd_takeD (i := 5) (d := some 42) (v := undef) rfl rfl (by kernel_rfl) (by kernel_rfl) (by kernel_rfl) (fun _ _ _ h => h) (Or.inr ⟨by rfl, rfl⟩) hA0.out ?_
            try simp only [Act.put, List.setIfInBounds_toArray, List.set_cons_zero, List.set_cons_succ]
            refine wpHd_takeD (i := 6) (d := some 43) (v := undef) rfl rfl (by kernel_rfl) (by kernel_rfl) (by kernel_rfl) (fun _ _ _ h => h) (Or.inr ⟨by rfl, rfl⟩) hA0.out ?_
            try simp only [Act.put, List.setIfInBounds_toArray, List.set_cons_zero, List.set_cons_succ]
            refine wpHd_takeD (i := 7) (d := some 44) (v := undef) rfl rfl (by kernel_rfl) (by kernel_rfl) (by kernel_rfl) (fun _ _ _ h => h) (Or.inr ⟨by rfl, rfl⟩) hA0.out ?_
            try simp only [Act.put, List.setIfInBounds_toArray, List.set_cons_zero, List.set_cons_succ]
            refine wpHd_takeD (i := 8) (d := some 45) (v := undef) rfl rfl (by kernel_rfl) (by kernel_rfl) (by kernel_rfl) (fun _ _ _ h => h) (Or.inr ⟨by rfl, rfl⟩) hA0.out ?_
            try simp only [Act.put, List.setIfInBounds_toArray, List.set_cons_zero, List.set_cons_succ]
            refine wpHd_takeD (i := 9) (d := some 46) (v := undef) rfl rfl (by kernel_rfl) (by kernel_rfl) (by kernel_rfl) (fun _ _ _ h => h) (Or.inr ⟨by rfl, rfl⟩) hA0.out ?_
            try simp only [Act.put, List.setIfInBounds_toArray, List.set_cons_zero, List.set_cons_succ]
            refine wpHd_takeD (i := 10) (d := some 47) (v := undef) rfl rfl (by kernel_rfl) (by kernel_rfl) (by kernel_rfl) (fun _ _ _ h => h) (Or.inr ⟨by rfl, rfl⟩) hA0.out ?_
            try simp only [Act.put, List.setIfInBounds_toArray, List.set_cons_zero, List.set_cons_succ]
            refine wpHd_tail (by kernel_rfl) ?_
            simp only [List.drop_succ_cons, List.drop_zero]
            have HE3 : Hid (Ext wr wr) := Hid.mk' (Ext.refl _)
            have HO3 := hown
            have HX3 := hE
            clear hA0 g0
            go_wp2_with (at_builtin; refine wpList_append_own _ rfl _ _ 22 rfl (w.heap.size + 1) 101 i0 _ 5 56 Tryz.underlying22 hi hz0 hz1 hz2 rfl (by decide) _ _ _ rfl ((owns_ext HO3.out (by exact eX))) ⟨_, 0, none⟩ 1 1 p.cells rfl rfl (cells_new _ #[.int .u32 p.r.oid, .int .u32 p.r.ver, .string p.r.nm, .int .u8 p.r.id, .slice p.a p.r.cols.length p.c] _) (by intro u hu; simp [RR.cells] at hu; rcases hu with rfl | rfl | rfl | rfl | rfl <;> rfl) (by unfold maxLen; omega) (by omega) (by have := HEW.out.size; have := HE3.out.size; simp; omega) ?_)
            intro v' w4 hown' hgrow _
            have HX4 : Hid (Ext (w.alloc (.cells #[.int .u32 oid, .int .u32 ver, .string nm, .int .u8 id, .slice a2 cols.length c2] 101)) w4) := Hid.mk' (Below.grown ((HX3.out.drew).alloc (.cells #[.int .u32 p.r.oid, .int .u32 p.r.ver, .string p.r.nm, .int .u8 p.r.id, .slice p.a p.r.cols.length p.c] 101)) hgrow (by have := HX3.out.size; simp at this ⊢; omega) (fun g hg => by have := (HO3.out.lt g hg).1; simp; omega))
            have HO4 := Hid.mk' hown'
            clear hown' hgrow
            go_wp2
            go_roundw
            case rel => exact ⟨k + 1, by omega, by go_num, by rw [hd2], Hid.mk' (by rw [HO.out, List.map_append, List.flatten_append, List.length_append]; simpa using HO4.out), HX4⟩
            case measure => simp [intOf]; omega
        · have hkk : k = ps.length := by omega
          subst hkk
          have hol : (outs ps (⟨⟨oid, ver, nm, id, cols⟩, a2, c2⟩ : RR) ps.length).length ≤ 100 := by unfold outs; split <;> rw [List.length_take] <;> omega
          have hql : (RR.cells (⟨⟨oid, ver, nm, id, cols⟩, a2, c2⟩ : RR)).length = 5 := rfl
          have HE3 : Hid (Ext wr wr) := Hid.mk' (Ext.refl _)
          have HX3 := hE
          by_cases hPk : P < ps.length
          · rw [decide_eq_true hPk]
            have HO := Hid.mk' (outs_end (ps := ps) (q := (⟨⟨oid, ver, nm, id, cols⟩, a2, c2⟩ : RR)) (by rw [← HPP.out]; exact hPk))
            rw [HO.out] at hown
            obtain ⟨a', c', hv⟩ := owns_shape hown.out
            subst hv
            go_wp2
            go_ret2
            refine RAddPost.more HA.out ?_ (fun b o h => ?_) HEW.out
            · exact ⟨Sl.of_owns (base := w.heap.size + 1) (e := 101) (by rw [List.length_map]; exact hown.out) (RR.len _), fun x hx => (insP_mem hx).elim (fun e => by rw [e]; exact HQ.out.ext HEW.out) (fun h => (HL.out.sl x h).ext HEW.out)⟩
            · have := (hown.out.lt b (by rw [h]; rfl)).1
              omega
          · have hPe : P = ps.length := by omega
            rw [decide_eq_false hPk]
            have HO := Hid.mk' (outs_last (ps := ps) (q := (⟨⟨oid, ver, nm, id, cols⟩, a2, c2⟩ : RR)) (by rw [← HPP.out]; exact hPe))
            clear hPe hPk
            go_wp2_with (at_builtin; refine wpList_append_own _ rfl _ _ 22 rfl (w.heap.size + 1) 101 i0 _ 5 56 Tryz.underlying22 hi hz0 hz1 hz2 rfl (by decide) _ _ _ rfl ((owns_ext hown.out (by exact eX))) ⟨_, 0, none⟩ 1 1 (RR.cells (⟨⟨oid, ver, nm, id, cols⟩, a2, c2⟩ : RR)) rfl rfl (cells_new _ #[.int .u32 oid, .int .u32 ver, .string nm, .int .u8 id, .slice a2 cols.length c2] _) (by intro u hu; simp [RR.cells] at hu; rcases hu with rfl | rfl | rfl | rfl | rfl <;> rfl) (by unfold maxLen; omega) (by omega) (by have := HEW.out.size; have := HE3.out.size; simp; omega) ?_)
            intro v' w4 hown' hgrow _
            have HX4 : Hid (Ext (w.alloc (.cells #[.int .u32 oid, .int .u32 ver, .string nm, .int .u8 id, .slice a2 cols.length c2] 101)) w4) := Hid.mk' (Below.grown ((HX3.out).alloc (.cells #[.int .u32 oid, .int .u32 ver, .string nm, .int .u8 id, .slice a2 cols.length c2] 101)) hgrow (by have := HX3.out.size; simp at this ⊢; omega) (fun g hg => by have := (hown.out.lt g hg).1; simp; omega))
            have hown2 : w4.ownsRow (w.heap.size + 1) 101 5 v' (insP ps (⟨⟨oid, ver, nm, id, cols⟩, a2, c2⟩ : RR)).length ((insP ps (⟨⟨oid, ver, nm, id, cols⟩, a2, c2⟩ : RR)).map RR.cells).flatten := by
              rw [← HO.out, List.map_append, List.flatten_append, List.length_append]; simpa using hown'
            obtain ⟨a', c', hv⟩ := owns_shape hown2
            subst hv
            have HO4 := Hid.mk' hown2
            have HEW4 := Hid.mk' (((Ext.refl w).alloc (.cells #[.int .u32 oid, .int .u32 ver, .string nm, .int .u8 id, .slice a2 cols.length c2] 101)).trans HX4.out)
            clear hown' hgrow hown2
            go_wp2
            go_ret2
            refine RAddPost.more HA.out ?_ (fun b o h => ?_) HEW4.out
            · exact ⟨Sl.of_owns (base := w.heap.size + 1) (e := 101) (by rw [List.length_map]; exact HO4.out) (RR.len _), fun x hx => (insP_mem hx).elim (fun e => by rw [e]; exact HQ.out.ext HEW4.out) (fun h => (HL.out.sl x h).ext HEW4.out)⟩
            · have := (HO4.out.lt b (by rw [h]; rfl)).1
              omega

/-- A catalog of the first k. -/
def upP (ps : List RR) : Nat → List RR
  | 0 => []
  | k + 1 => if h : k < ps.length then addP (upP ps k) ps[k] else upP ps k
theorem upP_succ {ps : List RR} {k : Nat} (h : k < ps.length) : upP ps (k + 1) = addP (upP ps k) ps[k] := by
  conv => lhs; unfold upP
  rw [dif_pos h]
theorem upP_r (ps : List RR) : ∀ k, (upP ps k).map RR.r = ofUp (ps.map RR.r) k
  | 0 => rfl
  | k + 1 => by
    unfold upP ofUp
    by_cases h : k < ps.length
    · rw [dif_pos h, dif_pos (by rw [List.length_map]; exact h), addP_r, upP_r ps k, List.getElem_map]
    · rw [dif_neg h, dif_neg (by rw [List.length_map]; exact h)]
      exact upP_r ps k
theorem upP_mem {ps : List RR} : ∀ {k : Nat} {x : RR}, x ∈ upP ps k → x ∈ ps
  | 0, x, h => by cases h
  | k + 1, x, h => by
    unfold upP at h
    split at h
    · rename_i hk
      rcases addP_mem h with rfl | h
      · exact List.getElem_mem hk
      · exact upP_mem h
    · exact upP_mem h
theorem upP_64 (ps : List RR) (k : Nat) : (upP ps k).length ≤ 64 := by
  have := (ofUp_ok (ps.map RR.r) k).n64
  rw [← upP_r, List.length_map] at this
  exact this
theorem ofAt_P {ps : List RR} {k : Nat} (h : k < ps.length) : ofAt (ps.map RR.r) k = addE ((upP ps k).map RR.r) ps[k].r := by
  unfold ofAt
  rw [dif_pos (by rw [List.length_map]; exact h), upP_r, List.getElem_map]

/-- What is wrong first with relations; its place. -/
def ofE (l : List Rl) : Int := firstE (ofAt l) l.length
def plE (f : Nat → Int) : Nat → Nat
  | 0 => 0
  | n + 1 => if firstE f n ≠ 0 then plE f n else if f n ≠ 0 then n else n + 1
theorem plE_zero {f : Nat → Int} : ∀ {n : Nat}, (∀ i, i < n → f i = 0) → plE f n = n
  | 0, _ => rfl
  | n + 1, h => by
    unfold plE
    rw [if_neg (by rw [firstE_zero (fun i hi => h i (by omega))]; simp), if_neg (by rw [h n (by omega)]; simp)]
theorem plE_at {f : Nat → Int} {k : Nat} (h : ∀ i, i < k → f i = 0) (h0 : f k ≠ 0) : ∀ {n : Nat}, k < n → plE f n = k
  | 0, hk => by omega
  | n + 1, hk => by
    unfold plE
    by_cases e : k = n
    · subst e
      rw [if_neg (by rw [firstE_zero h]; simp), if_pos h0]
    · rw [if_pos (by rw [firstE_at h (show k < n by omega) h0]; exact h0), plE_at h h0 (by omega)]
def ofPl (l : List Rl) : Nat := plE (ofAt l) l.length

def ROfPost (ps : List RR) (w : World) (e : Ending) (w' : World) : Prop :=
  ∃ a' c' n, e = .returned (.tuple #[.slice a' n c', .int .i64 (ofPl (ps.map RR.r) : Nat), .int .i64 (ofE (ps.map RR.r))]) ∧ (ofE (ps.map RR.r) = 0 → n = (upP ps ps.length).length ∧ RL w' (.slice a' n c') (upP ps ps.length)) ∧ (ofE (ps.map RR.r) ≠ 0 → a' = none ∧ n = 0 ∧ c' = 0) ∧ Ext w w'

set_option maxRecDepth 100000 in set_option maxHeartbeats 2000000 in
theorem rof_any (ps : List RR) (a : Option Addr) (cap : Nat) (w : World) (hl : RL w (.slice a ps.length cap) ps) (hb : ∀ p ∈ ps, p.r.wb) (hlen : ps.length ≤ 9223372036854775807) :
    Calls Tryz.prog 39 #[.slice a ps.length cap] w (ROfPost ps w) := by
  have HL := Hid.mk' hl
  have HB := Hid.mk' hb
  clear hl hb
  go_enter Tryz.func39, Tryz.ntmps39
  go_wp2
  go_loopw [5, 6] (fun v i wr => ∃ (k : Nat) (a' : Option Addr) (c' : Nat), k ≤ ps.length ∧ i = .int .i64 k ∧ v = .slice a' (upP ps k).length c' ∧ Hid (∀ j, j < k → ofAt (ps.map RR.r) j = 0) ∧ Hid (RL wr (.slice a' (upP ps k).length c') (upP ps k)) ∧ Hid (Ext w wr)) (fun _ i _ => ps.length - (intOf i).toNat)
  case atStart => exact ⟨0, none, 0, Nat.zero_le _, rfl, rfl, Hid.mk' (fun j h => by omega), Hid.mk' (RL.nil _), Hid.mk' (Ext.refl _)⟩
  case round =>
    obtain ⟨k, a', c', hk, rfl, rfl, hz, hr, hE⟩ := hrel
    by_cases hlt : k < ps.length
    · obtain ⟨b, o, rfl, hb, hx⟩ := HL.out.row.at_ (i := k) (by simpa using hlt)
      obtain ⟨f0, f1, f2, f3, f4⟩ := RR.at_ hlt hx hb hE.out
      have hbw : b < wr.heap.size := Nat.lt_of_lt_of_le hb hE.out.size
      have hin := HL.out.sl _ (List.getElem_mem hlt)
      have hwb := HB.out _ (List.getElem_mem hlt)
      have HS := Hid.mk' (upP_succ hlt)
      have HAT := Hid.mk' (ofAt_P hlt)
      obtain ⟨p, hp⟩ : ∃ p, p = ps[k] := ⟨_, rfl⟩
      rw [← hp] at f0 f1 f2 f3 f4 hin hwb HS HAT
      have HAD := Hid.mk' (fun W (h : Ext wr W) => radd_any (upP ps k) a' c' p W (hr.out.ext h) (hin.ext (hE.out.trans h)) hwb (by have := upP_64 ps k; omega))
      unfold RAddPost RR.agg at HAD
      rw [← HS.out, ← HAT.out] at HAD
      clear hx hp hin hwb
      obtain ⟨E, hEE⟩ : ∃ E, E = ofAt (ps.map RR.r) k := ⟨_, rfl⟩
      rw [← hEE] at HAD
      by_cases h0 : E = 0
      · have H0 := Hid.mk' (hEE.symm.trans h0)
        subst h0
        clear hEE
        go_wp2_with (go_at_call 85; refine (HAD.out _ (Ext.refl _)).mono ?_; rintro e w1 ⟨a1, c1, rfl, hl1, -, hb1⟩; have HL1 := Hid.mk' hl1; clear hl1)
        go_roundw
        case rel => exact ⟨k + 1, a1, c1, by omega, by go_num, rfl, Hid.mk' (fun j hj => by
          by_cases e : j = k
          · subst e; exact H0.out
          · exact hz.out j (by omega)), HL1, Hid.mk' (hE.out.trans hb1)⟩
        case measure => simp [intOf]; omega
      · have h0' : (E != 0) = true := by simpa using h0
        have HF := Hid.mk' (show ofE (ps.map RR.r) = E by unfold ofE; rw [firstE_at hz.out (by rw [List.length_map]; exact hlt) (by rw [← hEE]; exact h0), hEE])
        have HPL := Hid.mk' (show ofPl (ps.map RR.r) = k from plE_at hz.out (by rw [← hEE]; exact h0) (by rw [List.length_map]; exact hlt))
        have H0 := Hid.mk' h0
        clear h0 hEE
        go_wp2_with (go_at_call 85; refine (HAD.out _ (Ext.refl _)).mono ?_; rintro e w1 ⟨a1, c1, rfl, -, -, hb1⟩)
        go_ret3
        exact ⟨none, 0, 0, by rw [HF.out, HPL.out]; rfl, fun h => absurd (HF.out.symm.trans h) H0.out, fun _ => ⟨rfl, rfl, rfl⟩, hE.out.trans hb1⟩
    · obtain rfl : k = ps.length := by omega
      have HF := Hid.mk' (show ofE (ps.map RR.r) = 0 by unfold ofE; exact firstE_zero (by rw [List.length_map]; exact hz.out))
      have HPL := Hid.mk' (show ofPl (ps.map RR.r) = ps.length by unfold ofPl; rw [plE_zero (by rw [List.length_map]; exact hz.out), List.length_map])
      go_wp2
      go_ret3
      exact ⟨a', c', _, by rw [HF.out, HPL.out]; rfl, fun _ => ⟨rfl, hr.out⟩, fun h => absurd HF.out h, hE.out⟩

end Go.Proofs.YtlobghojjfkchaaGreat

/-
One relation more in a catalog: the program's own, Add.
-/
namespace Go.Proofs.YtlobghojjfkchaaGreat
open Go.RowKit

/-- Its columns lie in a row of the call's own, from N on. -/
def RR.owned (N : Nat) (W : World) (q : RR) : Prop := W.ownsRow N 130 3 (.slice q.a q.r.cols.length q.c) q.r.cols.length (q.r.cols.map Col.cells).flatten
theorem RR.owned.in {N : Nat} {W : World} {q : RR} (h : q.owned N W) : q.in W := Sl.of_owns (base := N) (e := 130) (by rw [List.length_map]; exact h) (by intro xs hxs; simp at hxs; obtain ⟨_, _, rfl⟩ := hxs; rfl)
theorem RR.owned.at_ {N : Nat} {W : World} {q : RR} (h : q.owned N W) {b o : Nat} (e : q.a = some ⟨b, o, none⟩) : N ≤ b ∧ b < W.heap.size := h.lt b (by rw [e]; rfl)
theorem RR.owned.ext {N : Nat} {W W' : World} {q : RR} (h : q.owned N W) (he : Ext W W') : q.owned N W' := owns_ext h he
theorem RR.owned.mono {N M : Nat} {W : World} {q : RR} (h : q.owned N W) (hm : M ≤ N) : q.owned M W := owns_base h hm

set_option maxRecDepth 100000 in set_option maxHeartbeats 1600000 in
theorem pown_any (p : RR) (w : World) (hp : p.in w) (hlen : p.r.cols.length ≤ 1000) :
    Calls Tryz.prog 91 #[p.agg] w fun e w' => ∃ q : RR, e = .returned q.agg ∧ q.r = p.r ∧ q.owned w.heap.size w' ∧ Ext w w' := by
  obtain ⟨⟨oid, ver, nm, id, cols⟩, a2, c2⟩ := p
  unfold RR.agg
  unfold RR.in at hp
  simp only at hp hlen ⊢
  have HC := Hid.mk' (fun W (h : Ext w W) => clonec_any cols a2 c2 W (hp.ext h) hlen)
  clear hp
  go_enter Tryz.func91, Tryz.ntmps91
  go_wp2_with (go_at_call 134; refine (HC.out _ (by exact eX)).mono ?_; rintro e w1 ⟨a', c', rfl, ho, hb1⟩; have HO := Hid.mk' ho; have HB := Hid.mk' hb1; have g0 := (((Blk.new w #[.int .u32 oid, .int .u32 ver, .string nm, .int .u8 id, .slice a2 cols.length c2] 112).alloc (.cells #[.int .u32 0, .int .u32 0, .string ⟨#[]⟩, .int .u8 0, .slice none 0 0] 112)).ext hb1); have g1 := ((Blk.new' (w := w.alloc (.cells #[.int .u32 oid, .int .u32 ver, .string nm, .int .u8 id, .slice a2 cols.length c2] 112)) (b := w.heap.size + 1) #[.int .u32 0, .int .u32 0, .string ⟨#[]⟩, .int .u8 0, .slice none 0 0] 112 (by simp)).ext hb1); have g0c := g0.cell; have g0f := g0.frozen; have g0z := g0.lt; have g1c := g1.cell; have g1f := g1.frozen; have g1z := g1.lt; clear ho hb1 g0 g1)
  simp [bodyPost, results, Tryz.results91, go_sem, *]
  have hEw : Ext w w1 := (((Ext.refl w).alloc _).alloc _).trans HB.out
  have ho := HO.out
  simp only [World.size_alloc] at ho
  refine ⟨⟨⟨oid, ver, nm, id, cols⟩, a', c'⟩, ⟨rfl, rfl, rfl, rfl, rfl, rfl, rfl⟩, rfl, ?_, by exact eX⟩
  refine owns_base (base := w.heap.size + 1 + 1) ?_ (by omega)
  dsimp only
  exact owns_set (owns_set (owns_set (owns_set (owns_set (owns_set ho (by dsimp only; omega) _) (by dsimp only; omega) _) (by dsimp only; omega) _) (by dsimp only; omega) _) (by dsimp only; omega) _) (by dsimp only; omega) _

theorem Ca.ins {w5 w6 : World} {N g : Nat} {c v' : Value} {ps : List RR} {q : RR} (hc : Ca w5 N g c ps) (hq : q.in w5) (hqn : q.r.cols ≠ [] → ∀ b o, q.a = some ⟨b, o, none⟩ → b ≠ g ∧ c.ownBlock ≠ some b ∧ N ≤ b ∧ b < w5.heap.size) (hadd : addE (ps.map RR.r) q.r = 0) (hwb : q.r.wb)
    (ho : w6.ownsRow N 112 5 v' (ps.length + 1) ((insP ps q).map RR.cells).flatten) (hg : w5.grownBy w6 c.ownBlock) (hat : v'.ownBlock = c.ownBlock ∨ ∃ b, v'.ownBlock = some b ∧ w5.heap.size ≤ b) :
    Ca (w6.setCell ⟨g, 0, none⟩ v') N g v' (insP ps q) ∧ Kp (Ca.S g c) w5 (w6.setCell ⟨g, 0, none⟩ v') := by
  have hgz := hc.ptr.lt
  have hk1 : Kp (fun k => c.ownBlock = some k) w5 w6 := Kp.of_grown hg
  have hk2 : Kp (fun k => k = g) w6 (w6.setCell ⟨g, 0, none⟩ v') := Kp.set _ _ rfl
  have hv : v'.ownBlock ≠ some g := by
    rcases hat with h | ⟨b, h, hb⟩
    · rw [h]; exact hc.gv
    · rw [h]; intro e; injection e with e; omega
  have hp6 : Blk w6 g #[c] 183 := hc.ptr.kp hk1 hc.gv
  have hne : ∀ p ∈ insP ps q, p.r.cols ≠ [] → ∀ b o, p.a = some ⟨b, o, none⟩ → b ≠ g ∧ c.ownBlock ≠ some b ∧ N ≤ b ∧ b < w5.heap.size := fun p hp => by
    rcases insP_mem hp with rfl | h
    · exact hqn
    · exact hc.ne p h
  have hin : ∀ p ∈ insP ps q, p.in w5 := fun p hp => by
    rcases insP_mem hp with rfl | h
    · exact hq
    · exact hc.sl p h
  refine ⟨⟨?_, ?_, hc.gN, hv, fun p hp => ?_, fun p hp h0 b o e => ?_, ?_, fun p hp => ?_⟩, ?_⟩
  · have := hp6.set 0 v'
    simpa using this
  · rw [insP_len]
    exact owns_kp ho hk2 (fun b hb e => hv (by rw [hb, e]))
  · have h0 := hne p hp
    have h1 : p.in w6 := Sl.kp (hin p hp) hk1 (fun hx b o e => (h0 (fun h => hx (by rw [h]; rfl)) b o e).2.1)
    exact Sl.kp h1 hk2 (fun hx b o e => (h0 (fun h => hx (by rw [h]; rfl)) b o e).1)
  · obtain ⟨q1, q2, q3, q4⟩ := hne p hp h0 b o e
    refine ⟨q1, ?_, q3, by have := hg.size; simp [World.setCell]; omega⟩
    rcases hat with h | ⟨b', h, hb⟩
    · rw [h]; exact q2
    · rw [h]; intro e2; injection e2 with e2; omega
  · rw [insP_r]
    have := hc.ok.add q.r
    unfold addL at this
    rwa [if_pos hadd] at this
  · rcases insP_mem hp with rfl | h
    · exact hwb
    · exact hc.wb p h
  · refine (hk1.mono (T := Ca.S g c) (fun x hx _ => .inr hx)).trans hk2 (fun x hx _ => .inl hx)

def CAddPost (N g : Nat) (c : Value) (ps : List RR) (q : RR) (w : World) (e : Ending) (w' : World) : Prop :=
  ∃ c' q', e = .returned (.int .i64 (addE (ps.map RR.r) q.r)) ∧ q'.r = q.r ∧ Ca w' N g c' (addP ps q') ∧ Kp (Ca.S g c) w w' ∧ ∀ b, c'.ownBlock = some b → c.ownBlock = some b ∨ w.heap.size ≤ b
theorem CAddPost.keep {N g : Nat} {c : Value} {ps : List RR} {q : RR} {w w' : World} {E : Int} (h : addE (ps.map RR.r) q.r = E) (h0 : E ≠ 0) (hc : Ca w N g c ps) (he : Ext w w') : CAddPost N g c ps q w (.returned (.int .i64 E)) w' := by
  have e : addP ps q = ps := by unfold addP; rw [h, if_neg h0]
  exact ⟨c, q, by rw [h], rfl, by rw [e]; exact hc.ext he, Kp.of_ext he, fun b hb => .inl hb⟩

set_option maxRecDepth 100000 in set_option maxHeartbeats 4000000 in
theorem cadd_any (N g : Nat) (c : Value) (ps : List RR) (q : RR) (w : World) (hc : Ca w N g c ps) (hq : q.in w) (hcap : q.r.cols.length ≤ q.c) (hb : q.r.wb) :
    Calls Tryz.prog 87 #[.pointer (some ⟨g, 0, none⟩), q.agg] w (CAddPost N g c ps q w) := by
  obtain ⟨a, cap, rfl⟩ := hc.shape
  obtain ⟨⟨oid, ver, nm, id, cols⟩, a2, c2⟩ := q
  unfold RR.agg
  simp only at hcap ⊢
  have HR8 := Hid.mk' (fun W (h : Ext w W) => right8_big oid ver nm id cols a2 c2 W (Sl.ext hq h) hcap (by have := hb.n; simp only at this; omega) hb.nm hb.cs)
  have HFD := Hid.mk' (fun W (h : Ext w W) => find_any N g _ ps oid ver W (hc.ext h))
  have HOW := Hid.mk' (fun W (h : Ext w W) hn => pown_any (⟨⟨oid, ver, nm, id, cols⟩, a2, c2⟩ : RR) W (hq.ext h) hn)
  have HC := Hid.mk' hc
  have HWB := Hid.mk' hb
  have HAE : Hid (addE (ps.map RR.r) (⟨oid, ver, nm, id, cols⟩ : Rl) = if (⟨oid, ver, nm, id, cols⟩ : Rl).right ≠ 0 then (⟨oid, ver, nm, id, cols⟩ : Rl).right else if hasR oid ver (ps.map RR.r) = true then 9 else if 64 ≤ (ps.map RR.r).length then 8 else 0) := Hid.mk' rfl
  have hgc := hc.ptr.cell
  have hgz := hc.ptr.lt
  have hn64 := hc.n64
  unfold RR.agg at HOW
  simp only at HOW
  clear hc hq hb hcap
  obtain ⟨E, hE⟩ : ∃ E, E = Rl.right (⟨oid, ver, nm, id, cols⟩ : Rl) := ⟨_, rfl⟩
  rw [← hE] at HR8 HAE
  by_cases h0 : E = 0
  case neg =>
    have h0' : (E != 0) = true := by simpa using h0
    have HA := Hid.mk' (HAE.out.trans (if_pos h0))
    have H0 := Hid.mk' h0
    clear h0 hE HAE
    go_enter Tryz.func87, Tryz.ntmps87
    go_wp2_with (go_at_call 130; refine (HR8.out _ (by exact eX)).mono ?_; rintro e w1 ⟨rfl, hb1⟩; have hE1 : Ext w w1 := (by exact eX))
    go_ret
    exact CAddPost.keep HA.out H0.out HC.out hE1
  subst h0
  have hn16 : cols.length ≤ 16 := Rl.cols_le hE.symm
  have HAE2 := Hid.mk' (HAE.out.trans (if_neg (by simp)))
  clear HAE hE
  obtain ⟨P, hP⟩ : ∃ P, P = posR oid ver (ps.map RR.r) := ⟨_, rfl⟩
  have hPn : P ≤ ps.length := by have := posR_le oid ver (ps.map RR.r); rw [List.length_map] at this; omega
  rw [← hP] at HFD
  have HPP := Hid.mk' hP
  clear hP
  cases hh : hasR oid ver (ps.map RR.r) with
  | true =>
    rw [hh] at HFD HAE2
    have HA := Hid.mk' (HAE2.out.trans (if_pos rfl))
    clear hh HAE2
    go_enter Tryz.func87, Tryz.ntmps87
    go_wp2_with (first
      | (go_at_call 130; refine (HR8.out _ (by exact eX)).mono ?_; rintro e w1 ⟨rfl, hb1⟩; have hE1 : Ext w w1 := (by exact eX); have g0 := ((Blk.new w #[.int .u32 oid, .int .u32 ver, .string nm, .int .u8 id, .slice a2 cols.length c2] 112).ext hb1).cell)
      | (go_at_call 90; refine (HFD.out _ (by exact eX)).mono ?_; rintro e w2 ⟨rfl, hb2⟩; have hE2 : Ext w w2 := (by exact eX)))
    go_ret
    exact CAddPost.keep HA.out (by decide) HC.out hE2
  | false =>
    rw [hh] at HFD HAE2
    have HAE3 := Hid.mk' (HAE2.out.trans (if_neg (by simp)))
    rw [List.length_map] at HAE3
    clear hh HAE2
    by_cases h64 : 64 ≤ ps.length
    · have HA := Hid.mk' (HAE3.out.trans (if_pos h64))
      clear HAE3
      go_enter Tryz.func87, Tryz.ntmps87
      go_wp2_with (first
        | (go_at_call 130; refine (HR8.out _ (by exact eX)).mono ?_; rintro e w1 ⟨rfl, hb1⟩; have hE1 : Ext w w1 := (by exact eX); have g0 := ((Blk.new w #[.int .u32 oid, .int .u32 ver, .string nm, .int .u8 id, .slice a2 cols.length c2] 112).ext hb1).cell)
        | (go_at_call 90; refine (HFD.out _ (by exact eX)).mono ?_; rintro e w2 ⟨rfl, hb2⟩; have hE2 : Ext w w2 := (by exact eX); have hgc2 := (HC.out.ptr.ext hE2).cell))
      go_ret
      exact CAddPost.keep HA.out (by decide) HC.out hE2
    · have HA := Hid.mk' (HAE3.out.trans (if_neg h64))
      have h64' : ps.length < 64 := by omega
      clear HAE3 h64
      go_enter Tryz.func87, Tryz.ntmps87
      go_upto_region 9 with (first
        | (go_at_call 130; refine (HR8.out _ (by exact eX)).mono ?_; rintro e w1 ⟨rfl, hb1⟩; have hE1 : Ext w w1 := (by exact eX); have g0 := ((Blk.new w #[.int .u32 oid, .int .u32 ver, .string nm, .int .u8 id, .slice a2 cols.length c2] 112).ext hb1).cell; have HB0 := Hid.mk' ((Blk.new w #[.int .u32 oid, .int .u32 ver, .string nm, .int .u8 id, .slice a2 cols.length c2] 112).ext hb1))
        | (go_at_call 90; refine (HFD.out _ (by exact eX)).mono ?_; rintro e w2 ⟨rfl, hb2⟩; have hE2 : Ext w w2 := (by exact eX); have hgc2 := (HC.out.ptr.ext hE2).cell; have HB2 := Hid.mk' (HB0.out.ext hb2)))
      have HE2 := Hid.mk' hE2
      have HK2 : Hid (∀ W, Ext w2 W → Ext w W) := Hid.mk' (fun W h => HE2.out.trans h)
      have hA0 : Hid ((fun W : World => (∀ o, W.cell? ⟨g, o, none⟩ = (#[Value.slice a ps.length cap] : Array Value)[o]?) ∧ (∀ o, W.cell? ⟨w.heap.size, o, none⟩ = (#[.int .u32 oid, .int .u32 ver, .string nm, .int .u8 id, .slice a2 cols.length c2] : Array Value)[o]?)) w2.drew) := Hid.mk' ⟨hgc2, HB2.out.cell⟩
      clear hE1 hE2 hb1 hb2 g0 hgc
      refine wp_region_head 10 (fun W : World => (∀ o, W.cell? ⟨g, o, none⟩ = (#[Value.slice a ps.length cap] : Array Value)[o]?) ∧ (∀ o, W.cell? ⟨w.heap.size, o, none⟩ = (#[.int .u32 oid, .int .u32 ver, .string nm, .int .u8 id, .slice a2 cols.length c2] : Array Value)[o]?)) (by kernel_rfl) (by decide) ?_
      (refine wpHd_take (i := 0) (v := ?_) rfl (by kernel_rfl) (by kernel_rfl) (by kernel_rfl) (fun _ _ _ h => h) (Or.inl ⟨by rfl, ?_⟩) hA0.out ?_; rotate_left 1; · (intro w' hS'; (try dsimp only at hS'); go_split_ands; go_simp; try with_reducible rfl))
      (refine wpHd_take (i := 1) (v := ?_) rfl (by kernel_rfl) (by kernel_rfl) (by kernel_rfl) (fun _ _ _ h => h) (Or.inl ⟨by rfl, ?_⟩) hA0.out ?_; rotate_left 1; · (intro w' hS'; (try dsimp only at hS'); go_split_ands; go_simp; try with_reducible rfl))
      (refine wpHd_take (i := 2) (v := ?_) rfl (by kernel_rfl) (by kernel_rfl) (by kernel_rfl) (fun _ _ _ h => h) (Or.inl ⟨by rfl, ?_⟩) hA0.out ?_; rotate_left 1; · (intro w' hS'; (try dsimp only at hS'); go_split_ands; go_simp; try with_reducible rfl))
      (refine wpHd_take (i := 3) (v := ?_) rfl (by kernel_rfl) (by kernel_rfl) (by kernel_rfl) (fun _ _ _ h => h) (Or.inl ⟨by rfl, ?_⟩) hA0.out ?_; rotate_left 1; · (intro w' hS'; (try dsimp only at hS'); go_split_ands; go_simp; try with_reducible rfl))
      (refine wpHd_take (i := 4) (v := ?_) rfl (by kernel_rfl) (by kernel_rfl) (by kernel_rfl) (fun _ _ _ h => h) (Or.inl ⟨by rfl, ?_⟩) hA0.out ?_; rotate_left 1; · (intro w' hS'; (try dsimp only at hS'); go_split_ands; go_simp; try with_reducible rfl))
      (refine wpHd_take (i := 5) (v := ?_) rfl (by kernel_rfl) (by kernel_rfl) (by kernel_rfl) (fun _ _ _ h => h) (Or.inl ⟨by rfl, ?_⟩) hA0.out ?_; rotate_left 1; · (intro w' hS'; (try dsimp only at hS'); go_split_ands; go_simp; try with_reducible rfl))
      (refine wpHd_take (i := 6) (v := ?_) rfl (by kernel_rfl) (by kernel_rfl) (by kernel_rfl) (fun _ _ _ h => h) (Or.inl ⟨by rfl, ?_⟩) hA0.out ?_; rotate_left 1; · (intro w' hS'; (try dsimp only at hS'); go_split_ands; go_simp; try with_reducible rfl))
      refine wpHd_one (i := 7) rfl rfl (by kernel_rfl) (fun K hK => ?_)
      go_simp
      refine (HOW.out _ (HK2.out _ (Ext.refl w2).drew) (by omega)).mono ?_
      rintro e w4 ⟨⟨r', a', k'⟩, rfl, hqr, hqo, hb4⟩
      simp only at hqr
      subst hqr
      have HX4 : Hid (Ext w2 w4) := Hid.mk' ((Ext.refl w2).drew.trans hb4)
      have HQO := Hid.mk' hqo
      simp only
      refine hK.out _ _ ⟨((HC.out.ptr.ext HE2.out).ext HX4.out).cell, (HB2.out.ext HX4.out).cell⟩ (fun hA => ?_)
      clear hK K hA hA0 hb4 hqo hgc2
      refine wpHd_one (i := 8) rfl rfl (by kernel_rfl) (fun K hK => ?_)
      go_simp
      have HX5 : Hid (Ext w2 (w4.alloc (.cells #[.int .u32 oid, .int .u32 ver, .string nm, .int .u8 id, .slice a' cols.length k'] 112))) := Hid.mk' (HX4.out.alloc _)
      refine hK.out _ _ ⟨((HC.out.ptr.ext HE2.out).ext HX5.out).cell, (HB2.out.ext HX5.out).cell⟩ (fun hA => ?_)
      clear hK K hA
      obtain ⟨w5, hw5⟩ : ∃ w5, w5 = w4.alloc (.cells #[.int .u32 oid, .int .u32 ver, .string nm, .int .u8 id, .slice a' cols.length k'] 112) := ⟨_, rfl⟩
      have HV5 : Hid (Blk w5 w4.heap.size #[.int .u32 oid, .int .u32 ver, .string nm, .int .u8 id, .slice a' cols.length k'] 112) := Hid.mk' (by rw [hw5]; exact Blk.new _ _ _)
      have HQ5 : Hid (RR.owned w2.heap.size w5 (⟨⟨oid, ver, nm, id, cols⟩, a', k'⟩ : RR)) := Hid.mk' (by rw [hw5]; exact RR.owned.ext HQO.out ((Ext.refl w4).alloc _))
      have hz5 : w4.heap.size < w5.heap.size := HV5.out.lt
      have hz4 : w2.heap.size ≤ w4.heap.size := HX4.out.size
      have hz2 : w.heap.size ≤ w2.heap.size := HE2.out.size
      rw [← hw5] at HX5 ⊢
      clear hw5
      have HC5 : Hid (Ca w5 N g (.slice a ps.length cap) ps) := Hid.mk' ((HC.out.ext HE2.out).ext HX5.out)
      have hown5 := HC5.out.own
      have HOL : Hid (∀ b, (Value.slice a ps.length cap).ownBlock = some b → b < w.heap.size) := Hid.mk' (fun b hb => (HC.out.own.lt b hb).2)
      have hins := ins_any N ps.length P cap w4.heap.size a ((ps.map RR.cells).flatten) (RR.cells (⟨⟨oid, ver, nm, id, cols⟩, a', k'⟩ : RR)) w5 hown5 rfl HV5.out (by intro u hu; simp [RR.cells] at hu; rcases hu with rfl | rfl | rfl | rfl | rfl <;> rfl) (RR.one ps) (by omega) hPn (fun e => by have := HOL.out _ e; omega) (by have := HC.out.gN; omega)
      have HINS := Hid.mk' hins
      clear hins hown5
      refine wpHd_one (i := 9) rfl rfl (by kernel_rfl) (fun K hK => ?_)
      go_simp
      refine HINS.out.mono ?_
      rintro e w6 ⟨v', rfl, ho6, hg6, hat6⟩
      have hbk : ∀ k, k < w5.heap.size → (Value.slice a ps.length cap).ownBlock ≠ some k → w6.heap[k]? = w5.heap[k]? := fun k hk hn => hg6.block k hk (fun e => hn e.symm)
      have hgl := HC5.out.ptr.lt
      refine hK.out _ _ ⟨Blk.cell ((hbk g hgl HC5.out.gv).trans HC5.out.ptr), Blk.cell ((hbk w.heap.size (by omega) (fun e => by have := HOL.out _ e; omega)).trans (HB2.out.ext HX5.out))⟩ (fun hA => ?_)
      clear hK K hA
      have hfl := insP_flat ps (⟨⟨oid, ver, nm, id, cols⟩, a', k'⟩ : RR)
      simp only [← HPP.out] at hfl
      rw [← hfl] at ho6
      obtain ⟨a6, c6, rfl⟩ := owns_shape ho6
      have HFIN := Hid.mk' (Ca.ins HC5.out HQ5.out.in (fun h0 b o e => by
        obtain ⟨h1, h2⟩ := HQ5.out.at_ e
        have := HC.out.gN
        exact ⟨by omega, fun e2 => by have := HOL.out _ e2; omega, by omega, h2⟩) HA.out ⟨HWB.out.nm, HWB.out.cs, HWB.out.n, HWB.out.idn⟩ ho6 hg6 hat6)
      have HG6 : Hid (Blk w6 g #[.slice a ps.length cap] 183) := Hid.mk' ((hbk g hgl HC5.out.gv).trans HC5.out.ptr)
      have HAT : Hid (∀ b, (Value.slice a6 (ps.length + 1) c6).ownBlock = some b → (Value.slice a ps.length cap).ownBlock = some b ∨ w.heap.size ≤ b) := Hid.mk' (fun b hb => by
        rcases hat6 with h | ⟨b', h, h2⟩
        · left; rw [← h]; exact hb
        · right; rw [h] at hb; injection hb with hb; omega)
      have hg6c := HG6.out.cell
      have hg6f := HG6.out.frozen
      have hg6z := HG6.out.lt
      have HX5w : Hid (Ext w w5) := Hid.mk' (HE2.out.trans HX5.out)
      clear ho6 hg6 hat6 hbk hfl
      refine wpHd_tail (by kernel_rfl) ?_
      simp only [List.drop_succ_cons, List.drop_zero]
      go_wp2
      go_ret
      have hadd : addP ps (⟨⟨oid, ver, nm, id, cols⟩, a', k'⟩ : RR) = insP ps (⟨⟨oid, ver, nm, id, cols⟩, a', k'⟩ : RR) := by unfold addP; rw [if_pos HA.out]
      exact ⟨_, ⟨⟨oid, ver, nm, id, cols⟩, a', k'⟩, by rw [HA.out]; rfl, rfl, by rw [hadd]; exact HFIN.out.1, (Kp.of_ext HX5w.out).trans HFIN.out.2 (fun x hx _ => hx), HAT.out⟩

end Go.Proofs.YtlobghojjfkchaaGreat


/-
A catalog of relations: the program's New, Of, Len, Get; the laws' Own of relations, Ref.
-/
namespace Go.Proofs.YtlobghojjfkchaaGreat
open Go.RowKit

theorem Ca.new (w : World) : Ca (w.alloc (.cells #[.slice none 0 0] 183)) w.heap.size w.heap.size (.slice none 0 0) [] :=
  ⟨Blk.new _ _ _, World.ownsRow_nil _ _ _ _, Nat.le_refl _, (by intro h; cases h), (fun p h => by cases h), (fun p h => by cases h), CatOk.nil, (fun p h => by cases h)⟩

set_option maxRecDepth 20000 in set_option maxHeartbeats 400000 in
theorem new_any (w : World) : Calls Tryz.prog 86 #[] w fun e w' => e = .returned (.pointer (some ⟨w.heap.size, 0, none⟩)) ∧ w' = w.alloc (.cells #[.slice none 0 0] 183) := by
  go_enter Tryz.func86, Tryz.ntmps86
  go_wp2
  go_ret
  exact ⟨rfl, rfl⟩

set_option maxRecDepth 20000 in set_option maxHeartbeats 400000 in
theorem ref9_any (o v : Int) (w : World) : Calls Tryz.prog 48 #[.agg #[.int .u32 o, .int .u32 v]] w fun e w' => e = .returned (.agg #[.int .u32 o, .int .u32 v]) ∧ Ext w w' := by
  go_enter Tryz.func48, Tryz.ntmps48
  go_wp2
  simp [bodyPost, results, Tryz.results48, go_sem, *]
  exact eX

theorem own9_one (p : RR) (w : World) (hp : p.in w) (hn : p.r.cols.length ≤ 5864062014634) :
    Calls Tryz.prog 88 #[p.agg] w fun e w' => ∃ q : RR, e = .returned q.agg ∧ q.r = p.r ∧ q.r.cols.length ≤ q.c ∧ q.owned w.heap.size w' ∧ Ext w w' := by
  obtain ⟨⟨oid, ver, nm, id, cols⟩, a, cap⟩ := p
  refine (own8_big oid ver nm id cols a cap w hp hn).mono fun e w' h => ?_
  obtain ⟨a', c', h1, h2, h3, h4⟩ := h
  exact ⟨⟨⟨oid, ver, nm, id, cols⟩, a', c'⟩, h1, rfl, h2, h3, h4⟩

/-- Relations of the call's own, in a row of its own, all from N on. -/
structure OwnR (W : World) (N : Nat) (ps : List RR) (k : Nat) (v : Value) (qs : List RR) : Prop where
  own : W.ownsRow N 112 5 v k (qs.map RR.cells).flatten
  len : qs.length = k
  r : ∀ i (h : i < qs.length) (h2 : i < ps.length), qs[i].r = ps[i].r
  cap : ∀ q ∈ qs, q.r.cols.length ≤ q.c
  sl : ∀ q ∈ qs, q.owned N W
  ne : ∀ q ∈ qs, ∀ b o, q.a = some ⟨b, o, none⟩ → v.ownBlock ≠ some b
theorem OwnR.nil (W : World) (N : Nat) (ps : List RR) : OwnR W N ps 0 (.slice none 0 0) [] :=
  ⟨World.ownsRow_nil _ _ _ _, rfl, (fun i h => absurd h (Nat.not_lt_zero _)), (fun q h => by cases h), (fun q h => by cases h), (fun q h => by cases h)⟩
theorem OwnR.ext {W W' : World} {N k : Nat} {ps qs : List RR} {v : Value} (h : OwnR W N ps k v qs) (he : Ext W W') : OwnR W' N ps k v qs :=
  ⟨owns_ext h.own he, h.len, h.r, h.cap, fun q hq => (h.sl q hq).ext he, h.ne⟩
theorem OwnR.push {W W' : World} {N k : Nat} {ps qs : List RR} {v v' : Value} {q : RR} (h : OwnR W N ps k v qs) (hk : k < ps.length) (hr : q.r = ps[k].r) (hc : q.r.cols.length ≤ q.c) (hs : q.owned N W) (hn : ∀ b o, q.a = some ⟨b, o, none⟩ → v.ownBlock ≠ some b)
    (hg : W.grownBy W' v.ownBlock) (hat : v'.ownBlock = v.ownBlock ∨ v'.ownBlock = some W.heap.size) (ho : W'.ownsRow N 112 5 v' (k + 1) ((qs.map RR.cells).flatten ++ q.cells)) : OwnR W' N ps (k + 1) v' (qs ++ [q]) := by
  have hall : ∀ x ∈ qs ++ [q], x.r.cols.length ≤ x.c ∧ x.owned N W ∧ ∀ b o, x.a = some ⟨b, o, none⟩ → v.ownBlock ≠ some b := fun x hx => by
    rcases List.mem_append.1 hx with hx | hx
    · exact ⟨h.cap x hx, h.sl x hx, h.ne x hx⟩
    · obtain rfl : x = q := by simpa using hx
      exact ⟨hc, hs, hn⟩
  have hk1 : Kp (fun k => v.ownBlock = some k) W W' := Kp.of_grown hg
  refine ⟨by simpa using ho, by rw [List.length_append, h.len]; rfl, fun i h1 h2 => ?_, fun x hx => (hall x hx).1, fun x hx => ?_, fun x hx b o e => ?_⟩
  · by_cases hi : i < qs.length
    · rw [List.getElem_append_left hi]; exact h.r i hi h2
    · have hql := h.len
      rw [List.length_append, List.length_singleton] at h1
      obtain rfl : i = k := by omega
      rw [List.getElem_append_right (by omega)]
      simpa using hr
  · obtain ⟨-, h2, h3⟩ := hall x hx
    refine owns_kp h2 hk1 (fun b hb => ?_)
    obtain ⟨xr, xa, xc⟩ := x
    cases xa with
    | none => cases hb
    | some ad =>
      obtain ⟨b', o', sp⟩ := ad
      have hb' : b' = b := by simpa [Value.ownBlock] using hb
      subst hb'
      rcases h2.2 with ⟨hv, -⟩ | ⟨g, cap, cur, hv, -⟩
      · cases hv
      · simp only [Value.slice.injEq, Option.some.injEq, Addr.mk.injEq] at hv
        obtain ⟨⟨rfl, rfl, rfl⟩, -⟩ := hv
        exact h3 _ _ rfl
  · obtain ⟨-, h2, h3⟩ := hall x hx
    rcases hat with h4 | h4
    · rw [h4]; exact h3 b o e
    · rw [h4]; intro h5; injection h5 with h5
      have := (h2.at_ e).2; omega
theorem OwnR.rl {W : World} {N : Nat} {ps qs : List RR} {v : Value} (h : OwnR W N ps ps.length v qs) : RL W v qs := ⟨Sl.of_owns (base := N) (e := 112) (by rw [List.length_map, h.len]; exact h.own) (RR.len qs), fun q hq => (h.sl q hq).in⟩
theorem OwnR.rs {W : World} {N : Nat} {ps qs : List RR} {v : Value} (h : OwnR W N ps ps.length v qs) : qs.map RR.r = ps.map RR.r := by
  apply List.ext_getElem
  · rw [List.length_map, List.length_map, h.len]
  · intro i h1 h2
    rw [List.getElem_map, List.getElem_map]
    rw [List.length_map] at h1 h2
    exact h.r i h1 h2
theorem OwnR.wb {W : World} {N : Nat} {ps qs : List RR} {v : Value} (h : OwnR W N ps ps.length v qs) (hw : ∀ p ∈ ps, p.r.wb) : ∀ q ∈ qs, q.r.wb := fun q hq => by
  obtain ⟨i, hi, rfl⟩ := List.getElem_of_mem hq
  rw [h.r i hi (by rw [← h.len]; exact hi)]
  exact hw _ (List.getElem_mem _)

set_option maxRecDepth 100000 in set_option maxHeartbeats 4000000 in
theorem own9_any (ps : List RR) (a : Option Addr) (cap : Nat) (w : World) (hl : RL w (.slice a ps.length cap) ps) (hlen : ps.length ≤ 1000) (hb : ∀ p ∈ ps, p.r.wb) :
    Calls Tryz.prog 41 #[.slice a ps.length cap] w fun e w' => ∃ a' c' qs, e = .returned (.slice a' ps.length c') ∧ OwnR w' w.heap.size ps ps.length (.slice a' ps.length c') qs ∧ Ext w w' := by
  obtain ⟨i0, hi, hz0, hz1, hz2⟩ := info_parts Tryz.infoRel
  have HL := Hid.mk' hl
  have HB := Hid.mk' hb
  clear hl hb
  go_enter Tryz.func41, Tryz.ntmps41
  go_wp2
  go_loopw [3, 4] (fun v i wr => ∃ (k : Nat) (qs : List RR), k ≤ ps.length ∧ i = .int .i64 k ∧ Hid (OwnR wr w.heap.size ps k v qs) ∧ Hid (Ext w wr)) (fun _ i _ => ps.length - (intOf i).toNat)
  case atStart => exact ⟨0, [], Nat.zero_le _, rfl, Hid.mk' (OwnR.nil _ _ _), Hid.mk' (Ext.refl _)⟩
  case round =>
    obtain ⟨k, qs, hk, rfl, hown, hE⟩ := hrel
    by_cases hlt : k < ps.length
    · obtain ⟨b, o, rfl, hb, hx⟩ := HL.out.row.at_ (i := k) (by simpa using hlt)
      obtain ⟨f0, f1, f2, f3, f4⟩ := RR.at_ hlt hx hb hE.out
      have hbw : b < wr.heap.size := Nat.lt_of_lt_of_le hb hE.out.size
      have HO := Hid.mk' (fun W (h : Ext wr W) => own9_one ps[k] W ((HL.out.sl _ (List.getElem_mem hlt)).ext (hE.out.trans h)) (HB.out _ (List.getElem_mem hlt)).n)
      obtain ⟨p, hp⟩ : ∃ p, p = ps[k] := ⟨_, rfl⟩
      rw [← hp] at f0 f1 f2 f3 f4 HO
      unfold RR.agg at HO
      have HP := Hid.mk' hp
      have hwz := hE.out.size
      clear hx hp
      go_wp2_with (first
        | (go_at_call 88; refine (HO.out _ (Ext.refl _)).mono ?_; rintro e w1 ⟨⟨r', a', c'⟩, rfl, hr, hcp, ho, hb1⟩; simp only at hr; subst hr; have HQ := Hid.mk' ho; have HCP := Hid.mk' hcp; have HB1 := Hid.mk' hb1; have hz1' := hb1.size; clear ho hcp hb1; try simp only)
        | (at_builtin; refine wpList_append_own_at _ rfl _ _ 106 rfl w.heap.size 112 i0 _ 5 56 Tryz.underlying106 hi hz0 hz1 hz2 rfl (by decide) _ _ _ rfl (owns_ext hown.out.own (HB1.out.alloc _)) ⟨_, 0, none⟩ 1 1 (RR.cells ⟨p.r, a', c'⟩) rfl rfl (cells_new _ #[.int .u32 p.r.oid, .int .u32 p.r.ver, .string p.r.nm, .int .u8 p.r.id, .slice a' p.r.cols.length c'] _) (by intro u hu; simp [RR.cells] at hu; rcases hu with rfl | rfl | rfl | rfl | rfl <;> rfl) (by unfold maxLen; omega) (by omega) (by simp; omega) ?_))
      intro v' w2 hown' hgrow _ hat
      have HE2 := Hid.mk' ((hE.out.trans HB1.out).alloc (.cells #[.int .u32 p.r.oid, .int .u32 p.r.ver, .string p.r.nm, .int .u8 p.r.id, .slice a' p.r.cols.length c'] 112) |>.grown (owns_ext hown.out.own (HB1.out.alloc _)) hgrow)
      have HN := Hid.mk' ((hown.out.ext (HB1.out.alloc (.cells #[.int .u32 p.r.oid, .int .u32 p.r.ver, .string p.r.nm, .int .u8 p.r.id, .slice a' p.r.cols.length c'] 112))).push (q := ⟨p.r, a', c'⟩) hlt (by rw [← HP.out]) HCP.out ((RR.owned.ext HQ.out ((Ext.refl w1).alloc _)).mono hwz) (fun b o e h4 => by
          have h5 := owns_lt3 hown.out.own h4
          have h6 := (RR.owned.at_ HQ.out e).1
          omega) hgrow (by first | exact hat | (rw [World.size_alloc]; exact hat)) hown')
      clear hown' hgrow hat hown hE
      go_wp2
      go_roundw
      case rel => exact ⟨k + 1, _, by omega, by go_num, HN, HE2⟩
      case measure => simp [intOf]; omega
    · obtain rfl : k = ps.length := by omega
      obtain ⟨a', c', rfl⟩ := owns_shape hown.out.own
      go_wp2
      go_ret
      exact ⟨a', c', qs, rfl, hown.out, hE.out⟩

end Go.Proofs.YtlobghojjfkchaaGreat

/-
A catalog of relations: the program's Of, Get.
-/
namespace Go.Proofs.YtlobghojjfkchaaGreat
open Go.RowKit

theorem Ca.S_ge {W : World} {N g : Nat} {c : Value} {ps : List RR} (h : Ca W N g c ps) : ∀ x, Ca.S g c x → N ≤ x := fun x hx => by
  rcases hx with rfl | hx
  · exact h.gN
  · exact (h.own.lt x hx).1

def COfPost (l : List Rl) (w : World) (e : Ending) (w' : World) : Prop :=
  ∃ pv, e = .returned (.tuple #[.pointer pv, .int .i64 (ofPl l : Nat), .int .i64 (ofE l)]) ∧ (ofE l = 0 → pv = some ⟨w.heap.size, 0, none⟩ ∧ ∃ c qs, Ca w' w.heap.size w.heap.size c qs ∧ qs.map RR.r = ofUp l l.length) ∧ (ofE l ≠ 0 → pv = none) ∧ Ext w w'

set_option maxRecDepth 100000 in set_option maxHeartbeats 4000000 in
theorem cof_any (ps : List RR) (a : Option Addr) (cap : Nat) (w : World) (hl : RL w (.slice a ps.length cap) ps) (hcap : ∀ p ∈ ps, p.r.cols.length ≤ p.c) (hb : ∀ p ∈ ps, p.r.wb) (hlen : ps.length ≤ 1000) :
    Calls Tryz.prog 40 #[.slice a ps.length cap] w (COfPost (ps.map RR.r) w) := by
  have HL := Hid.mk' hl
  have HB := Hid.mk' hb
  have HCP := Hid.mk' hcap
  clear hl hb hcap
  go_enter Tryz.func40, Tryz.ntmps40
  go_wp2_with (go_at_call 86; refine (new_any _).mono ?_; rintro e w1 ⟨rfl, rfl⟩)
  go_loopw [12] (fun i wr => ∃ (k : Nat) (c : Value) (qs : List RR), k ≤ ps.length ∧ i = .int .i64 k ∧ Hid (∀ j, j < k → ofAt (ps.map RR.r) j = 0) ∧ Hid (Ca wr w.heap.size w.heap.size c qs) ∧ Hid (qs.map RR.r = ofUp (ps.map RR.r) k) ∧ Hid (Ext w wr)) (fun i _ => ps.length - (intOf i).toNat)
  case atStart => exact ⟨0, _, [], Nat.zero_le _, rfl, Hid.mk' (fun j h => by omega), Hid.mk' (Ca.new w), Hid.mk' rfl, Hid.mk' (by exact eX)⟩
  case round =>
    obtain ⟨k, c, qs, hk, rfl, hz, hca, hqs, hE⟩ := hrel
    by_cases hlt : k < ps.length
    · obtain ⟨b, o, rfl, hb, hx⟩ := HL.out.row.at_ (i := k) (by simpa using hlt)
      obtain ⟨f0, f1, f2, f3, f4⟩ := RR.at_ hlt hx hb hE.out
      have hbw : b < wr.heap.size := Nat.lt_of_lt_of_le hb hE.out.size
      have hin := HL.out.sl _ (List.getElem_mem hlt)
      have hwb := HB.out _ (List.getElem_mem hlt)
      have hcp := HCP.out _ (List.getElem_mem hlt)
      have hlt2 : k < (ps.map RR.r).length := by simpa using hlt
      have HS : Hid (ofUp (ps.map RR.r) (k + 1) = addL (qs.map RR.r) ps[k].r) := Hid.mk' (by rw [ofUp_succ hlt2, List.getElem_map, hqs.out])
      have HAT : Hid (ofAt (ps.map RR.r) k = addE (qs.map RR.r) ps[k].r) := Hid.mk' (by unfold ofAt; rw [dif_pos hlt2, List.getElem_map, hqs.out])
      obtain ⟨p, hp⟩ : ∃ p, p = ps[k] := ⟨_, rfl⟩
      rw [← hp] at f0 f1 f2 f3 f4 hin hwb hcp HS HAT
      have HAD := Hid.mk' (fun W (h : Ext wr W) => cadd_any w.heap.size w.heap.size c qs p W (hca.out.ext h) (hin.ext (hE.out.trans h)) hcp hwb)
      unfold CAddPost RR.agg at HAD
      rw [← HAT.out] at HAD
      clear hx hp hin hwb hcp
      obtain ⟨E, hEE⟩ : ∃ E, E = ofAt (ps.map RR.r) k := ⟨_, rfl⟩
      rw [← hEE] at HAD
      have HSG := Hid.mk' hca.out.S_ge
      by_cases h0 : E = 0
      · have H0 := Hid.mk' (hEE.symm.trans h0)
        subst h0
        clear hEE
        go_wp2_with (go_at_call 87; refine (HAD.out _ (by exact eX)).mono ?_; rintro e w1 ⟨c', q', rfl, hqr, hc', hkp, -⟩; have HC' := Hid.mk' hc'; have HQR := Hid.mk' hqr; have HE1 := Hid.mk' (Kp.ext (show Ext w _ from hE.out.trans (by exact eX)) (fun x hx _ => HSG.out x hx) hkp); clear hc' hqr hkp)
        go_roundw
        case rel => exact ⟨k + 1, c', _, by omega, by go_num, Hid.mk' (fun j hj => by
          by_cases e : j = k
          · subst e; exact H0.out
          · exact hz.out j (by omega)), HC', Hid.mk' (by rw [addP_r, HS.out, HQR.out]), HE1⟩
        case measure => simp [intOf]; omega
      · have h0' : (E != 0) = true := by simpa using h0
        have HF := Hid.mk' (show ofE (ps.map RR.r) = E by unfold ofE; rw [firstE_at hz.out hlt2 (by rw [← hEE]; exact h0), hEE])
        have HPL := Hid.mk' (show ofPl (ps.map RR.r) = k from plE_at hz.out (by rw [← hEE]; exact h0) hlt2)
        have H0 := Hid.mk' h0
        clear h0 hEE
        go_wp2_with (go_at_call 87; refine (HAD.out _ (by exact eX)).mono ?_; rintro e w1 ⟨c', q', rfl, hqr, hc', hkp, -⟩; have HE1 := Hid.mk' (Kp.ext (show Ext w _ from hE.out.trans (by exact eX)) (fun x hx _ => HSG.out x hx) hkp); clear hc' hqr hkp)
        go_ret3
        exact ⟨none, by rw [HF.out, HPL.out]; rfl, fun h => absurd (HF.out.symm.trans h) H0.out, fun _ => rfl, HE1.out⟩
    · obtain rfl : k = ps.length := by omega
      have HF := Hid.mk' (show ofE (ps.map RR.r) = 0 by unfold ofE; exact firstE_zero (by rw [List.length_map]; exact hz.out))
      have HPL := Hid.mk' (show ofPl (ps.map RR.r) = ps.length by unfold ofPl; rw [plE_zero (by rw [List.length_map]; exact hz.out), List.length_map])
      go_wp2
      go_ret3
      exact ⟨_, by rw [HF.out, HPL.out]; rfl, fun _ => ⟨rfl, c, qs, hca.out, by rw [List.length_map]; exact hqs.out⟩, fun h => absurd HF.out h, hE.out⟩

set_option maxRecDepth 100000 in set_option maxHeartbeats 4000000 in
theorem cget_any (N g : Nat) (c : Value) (ps : List RR) (o v : Int) (w : World) (hc : Ca w N g c ps) :
    Calls Tryz.prog 44 #[.pointer (some ⟨g, 0, none⟩), .agg #[.int .u32 o, .int .u32 v]] w fun e w' => ∃ q : RR, e = .returned (.tuple #[q.agg, .bool (hasR o v (ps.map RR.r))]) ∧ q.r = ((getP o v ps).getD RR.zero).r ∧ q.owned w.heap.size w' ∧ Ext w w' := by
  obtain ⟨a, cap, rfl⟩ := hc.shape
  have HFD := Hid.mk' (fun W (h : Ext w W) => find_any N g _ ps o v W (hc.ext h))
  have HC := Hid.mk' hc
  have hhas := hc.ok.srt.has o v
  have g0 := hc.ptr.cell
  have z0 := hc.ptr.lt
  clear hc
  obtain ⟨P, hP⟩ : ∃ P, P = posR o v (ps.map RR.r) := ⟨_, rfl⟩
  rw [← hP] at HFD
  cases hh : hasR o v (ps.map RR.r) with
  | false =>
    rw [hh] at HFD
    have HN : Hid (getP o v ps = none) := Hid.mk' (by
      have := getP_is o v ps
      rw [hh] at this
      exact Option.not_isSome_iff_eq_none.1 (by rw [this]; simp))
    clear hh hhas hP
    go_enter Tryz.func44, Tryz.ntmps44
    go_wp2_with (go_at_call 90; refine (HFD.out _ (by exact eX)).mono ?_; rintro e w1 ⟨rfl, hb1⟩; have HB1 := Hid.mk' ((Blk.new' (w := w.alloc (.cells #[.int .u32 o, .int .u32 v] 45)) (b := w.heap.size + 1) #[.int .u32 0, .int .u32 0, .string ⟨#[]⟩, .int .u8 0, .slice none 0 0] 112 (by simp)).ext hb1); have g1 := HB1.out.cell; have g1f := HB1.out.frozen; have z1 := HB1.out.lt)
    simp [bodyPost, results, Tryz.results44, go_sem, *]
    refine ⟨RR.zero, ⟨rfl, by rw [HN.out]; rfl, World.ownsRow_nil _ _ _ _, by exact eX⟩⟩
  | true =>
    rw [hh] at HFD hhas
    have hex := of_decide_eq_true hhas.symm
    obtain ⟨hi, hq⟩ := hex
    simp only [← hP, List.getElem_map] at hi hq
    have hlt : P < ps.length := by simpa using hi
    have HG : Hid (getP o v ps = some ps[P]) := Hid.mk' (getP_at hlt hq (fun j hj hjp hq2 => by
      have := HC.out.ok.srt.at_ (i := j) (j := P) (by simpa using hj) (by simpa using hlt) hjp
      unfold Rl.lt at this
      simp only [List.getElem_map] at this
      rw [hq.1, hq.2, hq2.1, hq2.2] at this
      exact ahead_irr this))
    have HOW := Hid.mk' (fun W (h : Ext w W) => pown_any ps[P] W ((HC.out.sl _ (List.getElem_mem hlt)).ext h) (by have := HC.out.n16 (List.getElem_mem hlt); omega))
    obtain ⟨b, q, rfl, hb, hx⟩ := HC.out.rl.row.at_ (i := P) (by simpa using hlt)
    have HF := Hid.mk' (fun W (h : Ext w W) => RR.at_ hlt hx hb h)
    obtain ⟨p, hp⟩ : ∃ p, p = ps[P] := ⟨_, rfl⟩
    rw [← hp] at HG HOW HF
    unfold RR.agg at HOW
    clear hh hhas hP hi hq hx hp
    go_enter Tryz.func44, Tryz.ntmps44
    go_wp2_with (first
      | (go_at_call 90; refine (HFD.out _ (by exact eX)).mono ?_; rintro e w1 ⟨rfl, hb1⟩; have HE1 := Hid.mk' (show Ext ((w.alloc (.cells #[.int .u32 o, .int .u32 v] 45)).alloc (.cells #[.int .u32 0, .int .u32 0, .string ⟨#[]⟩, .int .u8 0, .slice none 0 0] 112)) w1 from hb1); have hEw : Ext w w1 := (((Ext.refl w).alloc _).alloc _).trans hb1; obtain ⟨f0, f1, f2, f3, f4⟩ := HF.out _ hEw; have g2 := (HC.out.ptr.ext hEw).cell; have z2 := (HC.out.ptr.ext hEw).lt; have hbw : b < w1.heap.size := Nat.lt_of_lt_of_le hb hEw.size; have HEw := Hid.mk' hEw; clear hEw hb1)
      | (go_at_call 91; refine (HOW.out _ HEw.out).mono ?_; rintro e w3 ⟨⟨r', a', c'⟩, rfl, hqr, hqo, hb3⟩; simp only at hqr; subst hqr; have HQO := Hid.mk' hqo; have HE3 := Hid.mk' (HE1.out.trans hb3); have HB1 := Hid.mk' ((Blk.new' (w := w.alloc (.cells #[.int .u32 o, .int .u32 v] 45)) (b := w.heap.size + 1) #[.int .u32 0, .int .u32 0, .string ⟨#[]⟩, .int .u8 0, .slice none 0 0] 112 (by simp)).ext HE3.out); have g1 := HB1.out.cell; have g1f := HB1.out.frozen; have z1 := HB1.out.lt; have hzz := HE1.out.size; clear hqo hb3; try simp only))
    simp [bodyPost, results, Tryz.results44, go_sem, *]
    have hEw : Ext w w3 := (((Ext.refl w).alloc _).alloc _).trans HE3.out
    simp only [World.size_alloc] at hzz
    refine ⟨⟨p.r, a', c'⟩, rfl, by rw [HG.out]; rfl, ?_, by exact eX⟩
    exact owns_base (base := w1.heap.size) (owns_set (owns_set (owns_set (owns_set (owns_set HQO.out (by dsimp only; omega) _) (by dsimp only; omega) _) (by dsimp only; omega) _) (by dsimp only; omega) _) (by dsimp only; omega) _) (by omega)

end Go.Proofs.YtlobghojjfkchaaGreat

/-
A row of cells in a block of the call's own: read, written at an index, made, cloned.
-/
namespace Go.Proofs.YtlobghojjfkchaaGreat
open Go.RowKit

def RowAt (W : World) (g : Nat) (ks : List K) : Prop := ∃ cs : Array Value, Blk W g cs 195 ∧ ks.length * 5 ≤ cs.size ∧ ∀ i (hi : i < ks.length), ∀ j, j < 5 → cs[i * 5 + j]? = (ks[i].pc)[j]?
section
variable {W W' : World} {g : Nat} {ks : List K}
theorem RowAt.lt (h : RowAt W g ks) : g < W.heap.size := by obtain ⟨cs, hb, _⟩ := h; exact hb.lt
theorem RowAt.ext (h : RowAt W g ks) (he : Ext W W') : RowAt W' g ks := by obtain ⟨cs, hb, hr⟩ := h; exact ⟨cs, hb.ext he, hr⟩
theorem RowAt.drew (h : RowAt W g ks) : RowAt W.drew g ks := h
theorem RowAt.alloc (h : RowAt W g ks) (o : Obj) : RowAt (W.alloc o) g ks := h.ext ((Ext.refl W).alloc o)
theorem RowAt.other (h : RowAt W g ks) (a : Addr) (v : Value) (hne : g ≠ a.block) : RowAt (W.setCell a v) g ks := by obtain ⟨cs, hb, hr⟩ := h; exact ⟨cs, hb.other a v hne, hr⟩
theorem RowAt.kept (h : RowAt W g ks) {row : Option Nat} (hg : W.grownBy W' row) (hr : ∀ r, row = some r → ∃ o : Obj, W.heap[r]? = some o ∧ o.isCells = false) : RowAt W' g ks := by
  obtain ⟨cs, hb, hx⟩ := h
  refine ⟨cs, (hg.block g hb.lt (fun e => ?_)).trans hb, hx⟩
  obtain ⟨o, ho, hc⟩ := hr g e.symm
  rw [show W.heap[g]? = _ from hb] at ho
  cases ho; cases hc
theorem RowAt.frozen (h : RowAt W g ks) (o : Nat) : W.frozen? ⟨g, o, none⟩ = false := by obtain ⟨cs, hb, _⟩ := h; exact hb.frozen o
theorem RowAt.cells (h : RowAt W g ks) {i : Nat} (hi : i < ks.length) : W.cell? ⟨g, i * 5, none⟩ = some (.int .u8 ks[i].k) ∧ W.cell? ⟨g, i * 5 + 1, none⟩ = some (.int .u8 ks[i].v.ty) ∧ W.cell? ⟨g, i * 5 + 2, none⟩ = some (.int .i64 ks[i].v.n) ∧
    W.cell? ⟨g, i * 5 + 3, none⟩ = some (.complex .f64 ks[i].v.x ks[i].v.y) ∧ W.cell? ⟨g, i * 5 + 4, none⟩ = some (.string ks[i].v.s) := by
  obtain ⟨cs, hb, _, hx⟩ := h
  have hx := hx i hi
  exact ⟨(hb.cell _).trans (hx 0 (by omega)), (hb.cell _).trans (hx 1 (by omega)), (hb.cell _).trans (hx 2 (by omega)), (hb.cell _).trans (hx 3 (by omega)), (hb.cell _).trans (hx 4 (by omega))⟩
theorem RowAt.sl (h : RowAt W g ks) (cap : Nat) : Sl W (.slice (some ⟨g, 0, none⟩) ks.length cap) 5 (ks.map K.pc) := by
  obtain ⟨cs, hb, _, hx⟩ := h
  refine ⟨_, cap, by rw [List.length_map], .inr ⟨g, 0, rfl, hb.lt, fun i hi j hj => ?_⟩⟩
  rw [List.length_map] at hi
  rw [getD_map K.pc ks hi, ← hx i hi j hj, Nat.zero_add]
  exact hb.cell _
theorem RowAt.set (h : RowAt W g ks) {i : Nat} (hi : i < ks.length) (c : K) :
    RowAt (((((W.setCell ⟨g, i * 5, none⟩ (.int .u8 c.k)).setCell ⟨g, i * 5 + 1, none⟩ (.int .u8 c.v.ty)).setCell ⟨g, i * 5 + 2, none⟩ (.int .i64 c.v.n)).setCell ⟨g, i * 5 + 3, none⟩ (.complex .f64 c.v.x c.v.y)).setCell ⟨g, i * 5 + 4, none⟩ (.string c.v.s)) g (ks.set i c) := by
  obtain ⟨cs, hb, hs, hx⟩ := h
  refine ⟨_, ((((hb.set _ _).set _ _).set _ _).set _ _).set _ _, by simpa using hs, fun q hq j hj => ?_⟩
  rw [List.length_set] at hq
  simp only [Array.getElem?_setIfInBounds, Array.size_setIfInBounds]
  by_cases e : q = i
  · subst e
    rw [List.getElem_set_self]
    have : j = 0 ∨ j = 1 ∨ j = 2 ∨ j = 3 ∨ j = 4 := by omega
    rcases this with rfl | rfl | rfl | rfl | rfl
    all_goals
      simp [K.pc]
      (try omega)
  · rw [List.getElem_set_ne (Ne.symm e), ← hx q hq j hj]
    rw [if_neg (by omega), if_neg (by omega), if_neg (by omega), if_neg (by omega), if_neg (by omega)]
theorem RowAt.mono (h : RowAt W g ks) {ls : List K} (e : ks = ls) : RowAt W g ls := e ▸ h

theorem RowAt.of_owns {base n cap : Nat} (h : W.ownsRow base 195 5 (.slice (some ⟨g, 0, none⟩) n cap) n (ks.map K.pc).flatten) (hn : ks.length = n) : RowAt W g ks := by
  obtain ⟨h1, h2⟩ := h
  rcases h2 with ⟨h3, _⟩ | ⟨g', cap', cur, hv, hg, hh, hnc, hcap, hsz, htake⟩
  · cases h3
  · simp only [Value.slice.injEq, Option.some.injEq, Addr.mk.injEq] at hv
    obtain ⟨⟨rfl, -, -⟩, -, rfl⟩ := hv
    have hfl : (ks.map K.pc).flatten.length = ks.length * 5 := by
      have := flat_length 5 (ks.map K.pc) (fun xs hxs => by simp at hxs; obtain ⟨c, _, rfl⟩ := hxs; rfl)
      rwa [List.length_map] at this
    have hct : ks.length * 5 ≤ cur.size := by
      have := congrArg List.length htake
      rw [List.length_take, hfl] at this
      simp at this
      omega
    refine ⟨cur, hh, hct, fun i hi j hj => ?_⟩
    have := flat_get 5 (ks.map K.pc) (fun xs hxs => by simp at hxs; obtain ⟨c, _, rfl⟩ := hxs; rfl) i (by simpa using hi) j hj
    rw [getD_map K.pc ks hi] at this
    rw [← this, ← htake, List.getElem?_take, if_pos (by rw [← hn]; omega)]
    simp
end

/-- make of a row. -/
theorem run_makeK (n : Nat) (hn : n ≤ 1000) (w : World) :
    ∃ cs : Array Value, (Instr.makeSlice 47 (.int .i64 (n : Int)) (.int .i64 (n : Int))).run Tryz.prog w = .ok (.slice (some ⟨w.heap.size, 0, none⟩) n n) (w.alloc (.cells cs 195)) ∧ n * 5 ≤ cs.size ∧ ∀ i, i < n → ∀ j, j < 5 → cs[i * 5 + j]? = (K.zero.pc)[j]? := by
  obtain ⟨i0, hi, hz0, hz1, hz2⟩ := info_parts Tryz.infoCellP
  have hr := run_make (P := Tryz.prog) w 47 195 i0 _ Tryz.underlying47 hi hz0 .i64 .i64 (n : Int) (n : Int) (by omega) (by omega) (by rw [hz2]; omega) (by omega)
  simp only [Int.toNat_natCast, hz1] at hr
  refine ⟨_, hr, by rw [size_madeCells]; exact Nat.le_refl _, fun i hi j hj => ?_⟩
  have hlt : i * 5 + j < n * 5 := by omega
  have hm : (i * 5 + j) % 5 = j := by omega
  have : j = 0 ∨ j = 1 ∨ j = 2 ∨ j = 3 ∨ j = 4 := by omega
  simp only [madeCells, Array.getElem?_map, Array.getElem?_range, hlt]
  rcases this with rfl | rfl | rfl | rfl | rfl <;> simp [Value.cells, K.pc, K.zero, V.zero, hm]

end Go.Proofs.YtlobghojjfkchaaGreat

/-
The key of a row: the program's image.KeyOf.
-/
namespace Go.Proofs.YtlobghojjfkchaaGreat
open Go.RowKit Go.Shelf
attribute [local go_sem] Oper.semAt_some

/-- Is a column of the key? -/
def isKeyAt (cols : List Col) (i : Nat) : Bool := (cols[i]?.map Col.key).getD false
/-- A row with the columns of the key alone. -/
def keyOf (cols : List Col) (l : List K) : List K := l.mapIdx fun i c => if isKeyAt cols i = true then c else K.zero
/-- A row with some of its cells. -/
def fillK {cols : List Col} (l : List K) (pre : List (KX cols)) : List K := l.mapIdx fun i c => if pre.any (fun x => x.1.1 == i) = true then c else K.zero
theorem fillK_len {cols : List Col} {l : List K} {pre : List (KX cols)} : (fillK l pre).length = l.length := by simp [fillK]
theorem fillK_get {cols : List Col} {l : List K} {pre : List (KX cols)} {i : Nat} (h : i < (fillK l pre).length) : (fillK l pre)[i] = if pre.any (fun x => x.1.1 == i) = true then l[i]'(by rw [fillK_len] at h; exact h) else K.zero := by
  simp [fillK]
theorem fillK_nil {cols : List Col} {l : List K} : fillK l ([] : List (KX cols)) = List.replicate l.length K.zero := by
  apply List.ext_getElem
  · simp [fillK]
  · intro i h1 h2; rw [fillK_get]; simp
theorem fillK_set {cols : List Col} {l : List K} {pre : List (KX cols)} {x : KX cols} (h : x.1.1 < l.length) : fillK l (pre ++ [x]) = (fillK l pre).set x.1.1 l[x.1.1] := by
  apply List.ext_getElem
  · simp [fillK]
  · intro i h1 h2
    rw [fillK_get, List.getElem_set]
    by_cases e : x.1.1 = i
    · subst e; simp
    · rw [if_neg e, fillK_get, List.any_append]
      have : ([x].any fun x => x.1.1 == i) = false := by simp [e]
      rw [this, Bool.or_false]
theorem fillK_skip {cols : List Col} {l : List K} {pre : List (KX cols)} {x : KX cols} (h : l.length ≤ x.1.1) : fillK l (pre ++ [x]) = fillK l pre := by
  apply List.ext_getElem
  · simp [fillK]
  · intro i h1 h2
    rw [fillK_get, fillK_get, List.any_append]
    have hi : i < l.length := by rw [fillK_len] at h2; exact h2
    have : ([x].any fun x => x.1.1 == i) = false := by simp; omega
    rw [this, Bool.or_false]
theorem isKey_any {cols : List Col} {i : Nat} : (keysUp cols cols.length).any (fun x => x.1.1 == i) = isKeyAt cols i := by
  rw [Bool.eq_iff_iff, List.any_eq_true]
  unfold isKeyAt
  constructor
  · rintro ⟨⟨⟨j, c⟩, hj, hc, hk⟩, _, h⟩
    simp only [beq_iff_eq] at h
    subst h
    simp only at hc hk
    rw [hc]; simpa using hk
  · intro h
    cases hc : cols[i]? with
    | none => rw [hc] at h; simp at h
    | some c =>
      rw [hc] at h
      have hi : i < cols.length := (List.getElem?_eq_some_iff.1 hc).1
      exact ⟨⟨(i, c), hi, hc, by simpa using h⟩, (keysUp_mem _ _).2 hi, by simp⟩
theorem fillK_all {cols : List Col} {l : List K} : fillK l (keysUp cols cols.length) = keyOf cols l := by
  unfold fillK keyOf
  congr 1
  funext i c
  rw [isKey_any]

set_option maxRecDepth 100000 in
set_option maxHeartbeats 4000000 in
theorem keyOf_in (F : Fence) (n : Nat) (h1F : F.fn 196) (hKF : F.fn 164) (hDF : F.fn 129) (hro : F.round = none) (hn : 3 ≤ n) (oid ver : Int) (nm : ByteArray) (id : Int) (cols : List Col) (a2 : Option Addr) (cap2 : Nat) (l : List K) (a : Option Addr) (cap : Nat) (w : World)
    (hl2 : Sl w (.slice a2 cols.length cap2) 3 (cols.map Col.cells)) (hlen2 : cols.length ≤ 1000) (hl : Sl w (.slice a l.length cap) 5 (l.map K.pc)) (hlen : l.length ≤ 1000) :
    CallsIn F n Tryz.prog 129 #[.agg #[.int .u32 oid, .int .u32 ver, .string nm, .int .u8 id, .slice a2 cols.length cap2], .slice a l.length cap] w fun e w' => ∃ g cap', e = .returned (.slice (some ⟨g, 0, none⟩) l.length cap') ∧ l.length ≤ cap' ∧ w.heap.size ≤ g ∧ RowAt w' g (keyOf cols l) ∧ Ext w w' := by
  have h1 : 1 ≤ n := by omega
  have HL := Hid.mk' hl
  have HL2 := Hid.mk' hl2
  clear hl hl2
  obtain ⟨cs, hmk0, hcs1, hcs2⟩ := run_makeK l.length hlen ((w.alloc (.cells #[.int .u32 oid, .int .u32 ver, .string nm, .int .u8 id, .slice a2 cols.length cap2] 112)).alloc (.cells #[.slice a l.length cap] 47))
  have hmk : (Instr.makeSlice 47 (.int .i64 (l.length : Int)) (.int .i64 (l.length : Int))).run Tryz.prog ((w.alloc (.cells #[.int .u32 oid, .int .u32 ver, .string nm, .int .u8 id, .slice a2 cols.length cap2] 112)).alloc (.cells #[.slice a l.length cap] 47)) = .ok (.slice (some ⟨w.heap.size + 1 + 1, 0, none⟩) l.length l.length) (((w.alloc (.cells #[.int .u32 oid, .int .u32 ver, .string nm, .int .u8 id, .slice a2 cols.length cap2] 112)).alloc (.cells #[.slice a l.length cap] 47)).alloc (.cells cs 195)) := by
    rw [hmk0]; simp
  have HC := Hid.mk' (And.intro hcs1 hcs2)
  clear hmk0 hcs1 hcs2
  refine callsIn_of_wp_marks Tryz.func129 rfl hDF ?_ hro
  simp only [Tryz.ntmps129, List.size_toArray, List.length_cons, List.length_nil, Nat.reduceAdd, Nat.reduceSub, Array.replicate_succ, Array.replicate_zero, List.push_toArray, List.append_toArray, List.nil_append, List.cons_append]
  gi_wp2_with (gi_at_call 164; refine (keys_in F (n - 1) hKF hro _ _ _ _ _ _).mono ?_; rintro e w' ⟨rfl, rfl⟩)
  have hE5 : Ext w (((((w.alloc (.cells #[.int .u32 oid, .int .u32 ver, .string nm, .int .u8 id, .slice a2 cols.length cap2] 112)).alloc (.cells #[.slice a l.length cap] 47)).alloc (.cells cs 195)).alloc (.cells #[.slice (some ⟨w.heap.size + 1 + 1, 0, none⟩) l.length l.length] 47)).alloc (.cells #[.int .u32 oid, .int .u32 ver, .string nm, .int .u8 id, .slice a2 cols.length cap2] 112)) := (((((Ext.refl w).alloc _).alloc _).alloc _).alloc _).alloc _
  have hB1 : Blk (((((w.alloc (.cells #[.int .u32 oid, .int .u32 ver, .string nm, .int .u8 id, .slice a2 cols.length cap2] 112)).alloc (.cells #[.slice a l.length cap] 47)).alloc (.cells cs 195)).alloc (.cells #[.slice (some ⟨w.heap.size + 1 + 1, 0, none⟩) l.length l.length] 47)).alloc (.cells #[.int .u32 oid, .int .u32 ver, .string nm, .int .u8 id, .slice a2 cols.length cap2] 112)) (w.heap.size + 1) #[.slice a l.length cap] 47 := (((Blk.new' _ _ (by simp)).alloc _).alloc _).alloc _
  have hB2 : Blk (((((w.alloc (.cells #[.int .u32 oid, .int .u32 ver, .string nm, .int .u8 id, .slice a2 cols.length cap2] 112)).alloc (.cells #[.slice a l.length cap] 47)).alloc (.cells cs 195)).alloc (.cells #[.slice (some ⟨w.heap.size + 1 + 1, 0, none⟩) l.length l.length] 47)).alloc (.cells #[.int .u32 oid, .int .u32 ver, .string nm, .int .u8 id, .slice a2 cols.length cap2] 112)) (w.heap.size + 1 + 1) cs 195 := ((Blk.new' _ _ (by simp)).alloc _).alloc _
  have hB3 : Blk (((((w.alloc (.cells #[.int .u32 oid, .int .u32 ver, .string nm, .int .u8 id, .slice a2 cols.length cap2] 112)).alloc (.cells #[.slice a l.length cap] 47)).alloc (.cells cs 195)).alloc (.cells #[.slice (some ⟨w.heap.size + 1 + 1, 0, none⟩) l.length l.length] 47)).alloc (.cells #[.int .u32 oid, .int .u32 ver, .string nm, .int .u8 id, .slice a2 cols.length cap2] 112)) (w.heap.size + 1 + 1 + 1) #[.slice (some ⟨w.heap.size + 1 + 1, 0, none⟩) l.length l.length] 47 := (Blk.new' _ _ (by simp)).alloc _
  have hB4 : Blk (((((w.alloc (.cells #[.int .u32 oid, .int .u32 ver, .string nm, .int .u8 id, .slice a2 cols.length cap2] 112)).alloc (.cells #[.slice a l.length cap] 47)).alloc (.cells cs 195)).alloc (.cells #[.slice (some ⟨w.heap.size + 1 + 1, 0, none⟩) l.length l.length] 47)).alloc (.cells #[.int .u32 oid, .int .u32 ver, .string nm, .int .u8 id, .slice a2 cols.length cap2] 112)) (w.heap.size + 1 + 1 + 1 + 1) #[.int .u32 oid, .int .u32 ver, .string nm, .int .u8 id, .slice a2 cols.length cap2] 112 := Blk.new' _ _ (by simp)
  have hRow : RowAt (((((w.alloc (.cells #[.int .u32 oid, .int .u32 ver, .string nm, .int .u8 id, .slice a2 cols.length cap2] 112)).alloc (.cells #[.slice a l.length cap] 47)).alloc (.cells cs 195)).alloc (.cells #[.slice (some ⟨w.heap.size + 1 + 1, 0, none⟩) l.length l.length] 47)).alloc (.cells #[.int .u32 oid, .int .u32 ver, .string nm, .int .u8 id, .slice a2 cols.length cap2] 112)) (w.heap.size + 1 + 1) (fillK l ([] : List (KX cols))) := by
    rw [fillK_nil]
    refine ⟨cs, hB2, by rw [List.length_replicate]; exact HC.out.1, fun i hi j hj => ?_⟩
    rw [List.length_replicate] at hi
    rw [List.getElem_replicate]
    exact HC.out.2 i hi j hj
  clear hmk
  refine wpIn_rangeFunc_ownG hro h1 (gf := 196) (lb := #[.pointer (some ⟨w.heap.size + 1 + 1 + 1 + 1, 0, none⟩)]) rfl h1F (enters_of Tryz.func196 (by kernel_rfl) rfl)
    (keys_stops F (n - 1) h1F hro (by omega) (w.heap.size + 1 + 1 + 1 + 1) w a2 cap2 cols hlen2 HL2.out _ hE5 (hB4.cell 4) hB4.lt) belowK_t (belowK_b (by simp; omega)) (Below.refl _ _) (fun _ => rfl)
    (fun pre W => (RowAt W (w.heap.size + 1 + 1) (fillK l pre) ∧ W.cell? ⟨w.heap.size + 1 + 1 + 1, 0, none⟩ = some (.slice (some ⟨w.heap.size + 1 + 1, 0, none⟩) l.length l.length) ∧ W.cell? ⟨w.heap.size + 1, 0, none⟩ = some (.slice a l.length cap)) ∧ Below w.heap.size w W)
    (fun _ _ _ => False)
    (OwnFrom.and (Own.from (fun s A B row hs hg hr => ⟨hs.1.kept hg hr, cell_kept hs.2.1 hg hr, cell_kept hs.2.2 hg hr⟩) _) (ownFrom_below (Nat.le_refl _) (by simp; omega)))
    (fun _ _ _ _ _ hs _ _ => hs)
    ⟨⟨hRow, hB3.cell 0, hB1.cell 0⟩, hE5⟩
    (fun x => { tmps := #[.agg #[.int .u32 oid, .int .u32 ver, .string nm, .int .u8 id, .slice a2 cols.length cap2], .slice a l.length cap, .pointer (some ⟨w.heap.size, 0, none⟩), .pointer (some ⟨w.heap.size + 1, 0, none⟩), .slice none 0 0, .pointer (some ⟨w.heap.size + 1 + 1 + 1, 0, none⟩), .int .i64 (x.1.1 : Int), .slice a l.length cap, .int .i64 (l.length : Int), .slice (some ⟨w.heap.size + 1 + 1, 0, none⟩) l.length l.length, .agg #[.int .u32 oid, .int .u32 ver, .string nm, .int .u8 id, .slice a2 cols.length cap2], .func (.func 196) #[] #[.pointer (some ⟨w.heap.size + 1 + 1 + 1 + 1, 0, none⟩)], .int .i64 (x.1.1 : Int), .agg #[.string x.1.2.nm, .int .u8 x.1.2.ty, .bool x.1.2.key], undef, undef, undef, undef, undef, undef, undef, undef, undef, undef, undef, undef], defers := [] }) ?assign ?body ?done ?stop
  case assign =>
    intro l x W K hK
    unfold encK
    rw [fold_two]
    gi_wp2
    exact hK
  case body =>
    rintro lr pre x W ⟨⟨hr, hco, hcw⟩, hB⟩ _
    have HR := Hid.mk' hr
    have HB := Hid.mk' hB
    clear hr hB
    have hx : x.1.1 < cols.length := x.2.1
    have hmx : Tryz.prog.follows .mixedOrders = true := by kernel_rfl
    by_cases hlt : x.1.1 < l.length
    · obtain ⟨b, o, rfl, hb, hc⟩ := HL.out.at_ (i := x.1.1) (by simpa using hlt)
      obtain ⟨f0, f1, f2, f3, f4⟩ := K.pcAt hlt hc hb HB.out
      have hs := HR.out.cells (i := x.1.1) (by rw [fillK_len]; exact hlt)
      obtain ⟨s0, s1, s2, s3, s4⟩ := hs
      have sf := HR.out.frozen
      have HU := Hid.mk' (fillK_set (pre := pre) hlt)
      clear hc
      gi_wp2
      gi_region_with_o (fail)
      all_goals
        gi_wp2
        have HBW := Hid.mk' (((((((Below.refl w.heap.size W).setCell (p := ⟨w.heap.size + 1 + 1, x.1.1 * 5, none⟩) (by show w.heap.size ≤ w.heap.size + 1 + 1; omega) (.int .u8 l[x.1.1].k)).setCell (p := ⟨w.heap.size + 1 + 1, x.1.1 * 5 + 1, none⟩) (by show w.heap.size ≤ w.heap.size + 1 + 1; omega) (.int .u8 l[x.1.1].v.ty)).setCell (p := ⟨w.heap.size + 1 + 1, x.1.1 * 5 + 2, none⟩) (by show w.heap.size ≤ w.heap.size + 1 + 1; omega) (.int .i64 l[x.1.1].v.n)).setCell (p := ⟨w.heap.size + 1 + 1, x.1.1 * 5 + 3, none⟩) (by show w.heap.size ≤ w.heap.size + 1 + 1; omega) (.complex .f64 l[x.1.1].v.x l[x.1.1].v.y)).setCell (p := ⟨w.heap.size + 1 + 1, x.1.1 * 5 + 4, none⟩) (by show w.heap.size ≤ w.heap.size + 1 + 1; omega) (.string l[x.1.1].v.s)).drew)
        refine ⟨((((((KeepsOthers.setCell _ _ _).trans (KeepsOthers.setCell _ _ _)).trans (KeepsOthers.setCell _ _ _)).trans (KeepsOthers.setCell _ _ _)).trans (KeepsOthers.setCell _ _ _)).trans (KeepsOthers.drew _)).from _, HBW.out, ⟨by rw [HU.out]; exact (HR.out.set (by rw [fillK_len]; exact hlt) l[x.1.1]).drew, ?_, ?_⟩, HB.out.trans HBW.out⟩ <;> go_simp
    · have hge : l.length ≤ x.1.1 := by omega
      have HU := Hid.mk' (fillK_skip (pre := pre) hge)
      gi_wp2
      exact ⟨KeepsFrom.refl _ _, Below.refl _ _, ⟨by rw [HU.out]; exact HR.out, hco, hcw⟩, HB.out⟩
  case done =>
    rintro D ys W hD rfl ⟨⟨hr, hco, hcw⟩, hB⟩ hK
    gi_wp2
    refine ⟨by simp, .inl ⟨_, _, rfl, run_takeDeferred hK, ?_⟩⟩
    refine ⟨_, results_tmp rfl _ _ _, w.heap.size + 1 + 1, l.length, rfl, Nat.le_refl _, by omega, ?_, hB.trans (belowK_b (w := w) (Nat.le_refl _) W D _ _ (by simp at hD; omega) hK rfl rfl)⟩
    rw [← fillK_all]
    exact hr.kept (grownBy_putObj' _ D (.deferred none)) (fun r e => by cases e; exact ⟨_, hK, rfl⟩)
  case stop =>
    rintro D c pre W _ _ h _
    exact h.elim

theorem keyOf_any (oid ver : Int) (nm : ByteArray) (id : Int) (cols : List Col) (a2 : Option Addr) (cap2 : Nat) (l : List K) (a : Option Addr) (cap : Nat) (w : World)
    (hl2 : Sl w (.slice a2 cols.length cap2) 3 (cols.map Col.cells)) (hlen2 : cols.length ≤ 1000) (hl : Sl w (.slice a l.length cap) 5 (l.map K.pc)) (hlen : l.length ≤ 1000) :
    Calls Tryz.prog 129 #[.agg #[.int .u32 oid, .int .u32 ver, .string nm, .int .u8 id, .slice a2 cols.length cap2], .slice a l.length cap] w fun e w' => ∃ g cap', e = .returned (.slice (some ⟨g, 0, none⟩) l.length cap') ∧ l.length ≤ cap' ∧ w.heap.size ≤ g ∧ RowAt w' g (keyOf cols l) ∧ Ext w w' :=
  callsIn_wide.1 (keyOf_in Fence.wide 3 trivial trivial trivial rfl (Nat.le_refl _) oid ver nm id cols a2 cap2 l a cap w hl2 hlen2 hl hlen)

end Go.Proofs.YtlobghojjfkchaaGreat
