/-
The walk of CatalogOwn.
-/
import Derived.Test.YthdjinicmnhgpaaP7
import Derived.Test.YthdjinicmnhgpaaCKeeps
namespace Go.Proofs.Ythdjinicmnhgpaa
open Go.RowKit

/-- Columns that may be written to. -/
def Wr (W : World) (a : Option Addr) (n : Nat) : Prop := n = 0 ∨ ∃ g cur, a = some ⟨g, 0, none⟩ ∧ Blk W g cur 40 ∧ n * 3 ≤ cur.size
theorem Wr.of_owned {N : Nat} {W : World} {q : RR} (h : q.owned N W) : Wr W q.a q.r.cols.length := by
  obtain ⟨_, h⟩ := h
  rcases h with ⟨hv, hn⟩ | ⟨g, cap, cur, hv, _, hb, hn, _, hs, _⟩
  · exact .inl hn
  · simp only [Value.slice.injEq] at hv
    exact .inr ⟨g, cur, hv.1, hb, by rw [hs]; exact Nat.mul_le_mul_right 3 hn⟩
theorem Wr.ext {W W' : World} {a : Option Addr} {n : Nat} (h : Wr W a n) (he : Ext W W') : Wr W' a n := by
  rcases h with h | ⟨g, cur, h1, h2, h3⟩
  · exact .inl h
  · exact .inr ⟨g, cur, h1, h2.ext he, h3⟩
theorem Wr.set {W : World} {a : Option Addr} {n : Nat} (h : Wr W a n) (b i : Nat) (v : Value) : Wr (W.setCell ⟨b, i, none⟩ v) a n := by
  rcases h with h | ⟨g, cur, h1, h2, h3⟩
  · exact .inl h
  · by_cases e : g = b
    · subst e
      exact .inr ⟨g, _, h1, h2.set i v, by simpa using h3⟩
    · exact .inr ⟨g, cur, h1, h2.other _ _ e, h3⟩
theorem Wr.at_ {W : World} {a : Option Addr} {n k : Nat} (h : Wr W a n) (hk : k < n) : ∃ g x y, a = some ⟨g, 0, none⟩ ∧ W.cell? ⟨g, k * 3, none⟩ = some x ∧ W.cell? ⟨g, k * 3 + 1, none⟩ = some y ∧ (∀ o, W.frozen? ⟨g, o, none⟩ = false) ∧ g < W.heap.size := by
  rcases h with h | ⟨g, cur, h1, h2, h3⟩
  · omega
  · refine ⟨g, cur[k * 3]'(by omega), cur[k * 3 + 1]'(by omega), h1, ?_, ?_, h2.frozen, h2.lt⟩
    · rw [h2.cell, Array.getElem?_eq_getElem (by omega)]
    · rw [h2.cell, Array.getElem?_eq_getElem (by omega)]
theorem getR_of {l : List Rl} (hl : CatOk l) {x : Rl} (hx : x ∈ l) : getR x.oid x.ver l = some x := by
  obtain ⟨i, hi, rfl⟩ := List.getElem_of_mem hx
  exact hl.srt.get_at hi ⟨rfl, rfl⟩

set_option maxRecDepth 100000 in set_option maxHeartbeats 4000000 in
theorem catown_law (ps : List RR) (a : Option Addr) (cap : Nat) (w : World) (hl : RL w (.slice a ps.length cap) ps) (hb : ∀ p ∈ ps, p.r.wb) (hlen : ps.length ≤ 9223372036854775807) :
    Calls Try.prog 3 #[.slice a ps.length cap] w fun e w' => e = .returned (.bool true) ∧ Ext w w' := by
  have HRO := Hid.mk' (fun W (h : Ext w W) => rof_any ps a cap W (hl.ext h) hb hlen)
  unfold ROfPost at HRO
  have HL := Hid.mk' hl
  have HB := Hid.mk' hb
  clear hl hb
  obtain ⟨E, hE⟩ : ∃ E, E = ofE (ps.map RR.r) := ⟨_, rfl⟩
  rw [← hE] at HRO
  by_cases h60 : 60 < ps.length
  · clear hE
    go_enter Try.func3, Try.ntmps3
    go_wp2_with (go_at_call 12; refine (HRO.out _ (by (repeat (with_reducible (first | exact Ext.refl _ | assumption | exact held_left (by assumption) | apply Ext.drewN | apply Ext.drew | apply Ext.alloc | (refine Ext.setCell ?_ (by first | (simp; done) | (simp; omega) | omega) _) | (refine Ext.trans ?_ (by assumption)) | (refine Ext.trans ?_ (held_left (by assumption)))))))).mono ?_; rintro e w1 ⟨a', c', n, rfl, -, -, hb1⟩)
    go_ret
    exact ⟨rfl, by (repeat (with_reducible (first | exact Ext.refl _ | assumption | exact held_left (by assumption) | apply Ext.drewN | apply Ext.drew | apply Ext.alloc | (refine Ext.setCell ?_ (by first | (simp; done) | (simp; omega) | omega) _) | (refine Ext.trans ?_ (by assumption)) | (refine Ext.trans ?_ (held_left (by assumption))))))⟩
  by_cases h0 : E = 0
  case neg =>
    have h0' : (E != 0) = true := by simpa using h0
    clear hE h0
    go_enter Try.func3, Try.ntmps3
    go_wp2_with (go_at_call 12; refine (HRO.out _ (by (repeat (with_reducible (first | exact Ext.refl _ | assumption | exact held_left (by assumption) | apply Ext.drewN | apply Ext.drew | apply Ext.alloc | (refine Ext.setCell ?_ (by first | (simp; done) | (simp; omega) | omega) _) | (refine Ext.trans ?_ (by assumption)) | (refine Ext.trans ?_ (held_left (by assumption)))))))).mono ?_; rintro e w1 ⟨a', c', n, rfl, -, -, hb1⟩)
    go_ret
    exact ⟨rfl, by (repeat (with_reducible (first | exact Ext.refl _ | assumption | exact held_left (by assumption) | apply Ext.drewN | apply Ext.drew | apply Ext.alloc | (refine Ext.setCell ?_ (by first | (simp; done) | (simp; omega) | omega) _) | (refine Ext.trans ?_ (by assumption)) | (refine Ext.trans ?_ (held_left (by assumption))))))⟩
  subst h0
  have HZ := Hid.mk' hE.symm
  have HAT : Hid (∀ j, j < (ps.map RR.r).length → ofAt (ps.map RR.r) j = 0) := Hid.mk' (firstE_all hE.symm)
  have HOW := Hid.mk' (fun W (h : Ext w W) => own9_any ps a cap W (HL.out.ext h) (by omega) HB.out)
  clear hE
  go_enter Try.func3, Try.ntmps3
  go_wp2_with (first
    | (go_at_call 12; refine (HRO.out _ (by (repeat (with_reducible (first | exact Ext.refl _ | assumption | exact held_left (by assumption) | apply Ext.drewN | apply Ext.drew | apply Ext.alloc | (refine Ext.setCell ?_ (by first | (simp; done) | (simp; omega) | omega) _) | (refine Ext.trans ?_ (by assumption)) | (refine Ext.trans ?_ (held_left (by assumption)))))))).mono ?_; rintro e w1 ⟨aw, cw, n, rfl, h1, -, hb1⟩; obtain ⟨rfl, hrl⟩ := h1 (by first | rfl | trivial); have HW := Hid.mk' hrl; have HE1 := Hid.mk' (show Ext w w1 by (repeat (with_reducible (first | exact Ext.refl _ | assumption | exact held_left (by assumption) | apply Ext.drewN | apply Ext.drew | apply Ext.alloc | (refine Ext.setCell ?_ (by first | (simp; done) | (simp; omega) | omega) _) | (refine Ext.trans ?_ (by assumption)) | (refine Ext.trans ?_ (held_left (by assumption))))))); clear h1 hrl hb1)
    | (go_at_call 13; refine (HOW.out _ HE1.out).mono ?_; rintro e w2 ⟨a2, c2, qs, rfl, ho2, hb2⟩; have HO2 := Hid.mk' ho2; have HB2 := Hid.mk' hb2; have HOF := Hid.mk' (cof_any qs a2 c2 w2 (by rw [ho2.len]; exact ho2.rl) ho2.cap (ho2.wb HB.out) (by rw [ho2.len]; omega)); rw [ho2.rs, ho2.len] at HOF; clear ho2 hb2)
    | (go_at_call 14; refine HOF.out.mono ?_; rintro e w3 ⟨pv, rfl, h1, -, hb3⟩; obtain ⟨rfl, cc, qc, hcc, hqc⟩ := h1 HZ.out; have HCC := Hid.mk' hcc; have HQC := Hid.mk' hqc; have HB3 := Hid.mk' hb3; clear h1 hcc hqc hb3))
  have HX3 := Hid.mk' (HE1.out.trans (HB2.out.trans HB3.out))
  have HX13 := Hid.mk' (HB2.out.trans HB3.out)
  have H16 := Hid.mk' (upP_16k ps)
  have H17 : Hid (∀ p ∈ upP ps ps.length, p.r.cols.length ≤ 9223372036854775807) := Hid.mk' (fun p hp => by have := H16.out.2 p hp; omega)
  have HQU : Hid (qc.map RR.r = (upP ps ps.length).map RR.r) := Hid.mk' (by rw [HQC.out, List.length_map, upP_r])
  have HMEM : Hid (∀ x, x ∈ ps.map RR.r → getR x.oid x.ver (qc.map RR.r) = some x) := Hid.mk' (fun x hx => getR_of HCC.out.ok (by
    rw [HQC.out, ((ofUp_mem HAT.out _ (Nat.le_refl _)).1 x), List.take_length]; exact hx))
  have HQR : Hid (∀ q ∈ qs, q.r ∈ ps.map RR.r) := Hid.mk' (fun q hq => by rw [← HO2.out.rs]; exact List.mem_map_of_mem hq)
  have HQN : Hid (∀ q ∈ qs, q.r.cols.length ≤ 16) := Hid.mk' (fun q hq => Rl.cols_le ((ofAt_fine HAT.out).right _ (HQR.out q hq)))
  have HROW : Hid (Sl w3 (.slice a2 ps.length c2) 5 (qs.map RR.cells)) := Hid.mk' (HO2.out.rl.row.ext HB3.out)
  obtain ⟨S, hS⟩ : ∃ S : Nat → Prop, S = fun x => w1.heap.size ≤ x ∧ x < w2.heap.size ∧ (Value.slice a2 ps.length c2).ownBlock ≠ some x := ⟨_, rfl⟩
  have HS1 : Hid (∀ x, S x → w1.heap.size ≤ x) := Hid.mk' (by rw [hS]; exact fun x h => h.1)
  have HSQ : Hid (∀ q ∈ qs, ∀ g, q.a = some ⟨g, 0, none⟩ → S g) := Hid.mk' (by
    rw [hS]; intro q hq g e
    have h1 := (HO2.out.sl q hq).at_ e
    exact ⟨h1.1, h1.2, HO2.out.ne q hq g 0 e⟩)
  have HSR : Hid (∀ b o, a2 = some ⟨b, o, none⟩ → ¬ S b) := Hid.mk' (by
    rw [hS]; rintro b o rfl h; exact h.2.2 rfl)
  have HSC : Hid (∀ W, Kp S w3 W → Ca W w2.heap.size w2.heap.size cc qc) := Hid.mk' (fun W h => by
    rw [hS] at h
    refine HCC.out.kp h (fun hq => by omega) (fun b hb hq => ?_) (fun p hp h0 b o e hq => ?_)
    · have := (HCC.out.own.lt b hb).1; omega
    · have := (HCC.out.ne p hp h0 b o e).2.2.1; omega)
  have HX1 : Hid (∀ W, Kp S w3 W → Ext w1 W) := Hid.mk' (fun W h => Kp.ext HX13.out (fun x hx _ => HS1.out x hx) h)
  have HWR : Hid (∀ q ∈ qs, Wr w3 q.a q.r.cols.length) := Hid.mk' (fun q hq => (Wr.of_owned (HO2.out.sl q hq)).ext HB3.out)
  have HQL : Hid (qs.length = ps.length) := Hid.mk' HO2.out.len
  obtain ⟨U, hU⟩ : ∃ U, U = upP ps ps.length := ⟨_, rfl⟩
  rw [← hU] at HW H16 H17 HQU ⊢
  obtain ⟨G, hG⟩ : ∃ G, G = w2.heap.size := ⟨_, rfl⟩
  rw [← hG] at HSC ⊢
  have HSG : Hid (∀ x, S x → x < w3.heap.size) := Hid.mk' (by rw [hS]; intro x h; have := HB3.out.size; omega)
  clear HRO HL HB HOW HOF HZ HAT HQC HO2 HCC hS hU hG HB2 HB3
  go_loopw [10] (fun i wr => ∃ (k : Nat), k ≤ ps.length ∧ i = .int .i64 k ∧ Hid (Kp S w3 wr) ∧ Hid (∀ q ∈ qs, Wr wr q.a q.r.cols.length)) (fun i _ => ps.length - (intOf i).toNat)
  case atStart => exact ⟨0, Nat.zero_le _, rfl, Hid.mk' Kp.refl, HWR⟩
  case round =>
    obtain ⟨k, hk, rfl, hKP, hWR⟩ := hrel
    by_cases hlt : k < ps.length
    · have hlq : k < qs.length := by rw [HQL.out]; exact hlt
      obtain ⟨b, o, rfl, hb, hx⟩ := HROW.out.at_ (i := k) (by simpa using hlq)
      have HF := Hid.mk' (fun W (h : Kp S w3 W) => by
        have h2 := Sl.kp HROW.out h (fun _ => HSR.out)
        obtain ⟨b', o', e, hb2, hx2⟩ := h2.at_ (i := k) (by simpa using hlq)
        simp only [Option.some.injEq, Addr.mk.injEq] at e
        obtain ⟨rfl, rfl, -⟩ := e
        exact RR.at_ hlq hx2 hb2 (Ext.refl W))
      obtain ⟨f0, f1, f2, f3, f4⟩ := HF.out _ hKP.out
      have hbw : b < wr.heap.size := Nat.lt_of_lt_of_le hb hKP.out.size
      have HUQ := Hid.mk' (HQR.out _ (List.getElem_mem hlq))
      have HUM := Hid.mk' (List.getElem_mem hlq)
      have HUN := Hid.mk' (HQN.out _ (List.getElem_mem hlq))
      obtain ⟨u, hu⟩ : ∃ u, u = qs[k] := ⟨_, rfl⟩
      rw [← hu] at f0 f1 f2 f3 f4 HF HUQ HUM HUN
      have HBW : Hid (b < w3.heap.size) := Hid.mk' hb
      have HLT : Hid (k < ps.length) := Hid.mk' hlt
      have HGT := Hid.mk' (fun W (h : Kp S w3 W) => cget_is (HSC.out W h) (HMEM.out _ HUQ.out))
      clear hx hu hb hlq
      go_upto_region 12 with (go_at_call 15; refine (HGT.out _ hKP.out).mono ?_; rintro e w7 ⟨⟨r7, a7, c7⟩, rfl, hr7, ho7, hb7⟩; simp only at hr7; subst hr7; have HO7 := Hid.mk' ho7; have HB7 := Hid.mk' hb7; clear ho7 hb7; try simp only)
      obtain ⟨w8, hw8⟩ : ∃ w8, w8 = w7.alloc (.cells #[.int .u32 u.r.oid, .int .u32 u.r.ver, .string u.r.nm, .int .u8 u.r.id, .slice a7 u.r.cols.length c7] 36) := ⟨_, rfl⟩
      obtain ⟨G7, hG7⟩ : ∃ G, G = w7.heap.size := ⟨_, rfl⟩
      have HB8 : Hid (Blk w8 G7 #[.int .u32 u.r.oid, .int .u32 u.r.ver, .string u.r.nm, .int .u8 u.r.id, .slice a7 u.r.cols.length c7] 36) := Hid.mk' (by rw [hw8, hG7]; exact Blk.new _ _ _)
      have HX8 : Hid (Ext wr w8) := Hid.mk' (by rw [hw8]; exact HB7.out.alloc _)
      have HW7 : Hid (Wr w8 a7 u.r.cols.length) := Hid.mk' (by rw [hw8]; exact (Wr.of_owned HO7.out).ext ((Ext.refl w7).alloc _))
      have HG7 : Hid (∀ g, a7 = some ⟨g, 0, none⟩ → w3.heap.size ≤ g ∧ g < G7) := Hid.mk' (fun g e => by
        have h1 := HO7.out.at_ e
        have h2 := hKP.out.size
        rw [hG7]; omega)
      have HBG : Hid (w3.heap.size ≤ G7) := Hid.mk' (by have h1 := hKP.out.size; have h2 := HB7.out.size; rw [hG7]; omega)
      rw [← hw8, ← hG7]
      clear hw8 hG7 HB7 HO7
      have HK8 : Hid (Kp S w3 w8) := Hid.mk' (hKP.out.trans (T := S) (Kp.of_ext HX8.out) (fun x hx _ => hx))
      have HW8 : Hid (∀ q ∈ qs, Wr w8 q.a q.r.cols.length) := Hid.mk' (fun q hq => (hWR.out q hq).ext HX8.out)
      have HS : Hid (∀ w', Ext w8 w' → Ext w8 w' ∧ w'.cell? ⟨G7, 4, none⟩ = some (.slice a7 u.r.cols.length c7) ∧ w'.cell? ⟨b, o + k * 5 + 4, none⟩ = some (.slice u.a u.r.cols.length u.c) ∧ b < w'.heap.size ∧ G7 < w'.heap.size) := Hid.mk' (fun w' h => by
        obtain ⟨q0, q1, q2, q3, q4⟩ := HF.out w' (HK8.out.trans (T := S) (Kp.of_ext h) (fun x hx _ => hx))
        exact ⟨h, (HB8.out.ext h).cell 4, q4, Nat.lt_of_lt_of_le HBW.out (Nat.le_trans HK8.out.size h.size), (HB8.out.ext h).lt⟩)
      clear f0 f1 f2 f3 f4 hbw HGT
      go_region_held3 (fun w' => Ext w8 w' ∧ w'.cell? ⟨G7, 4, none⟩ = some (.slice a7 u.r.cols.length c7) ∧ w'.cell? ⟨b, o + k * 5 + 4, none⟩ = some (.slice u.a u.r.cols.length u.c) ∧ b < w'.heap.size ∧ G7 < w'.heap.size) (exact HS.out _ (by (repeat (with_reducible (first | exact Ext.refl _ | assumption | exact held_left (by assumption) | apply Ext.drewN | apply Ext.drew | apply Ext.alloc | (refine Ext.setCell ?_ (by first | (simp; done) | (simp; omega) | omega) _) | (refine Ext.trans ?_ (by assumption)) | (refine Ext.trans ?_ (held_left (by assumption)))))))) (fail)
      clear hKP hWR HX8
      have HN16 := HUN.out
      go_wp2
      go_loopw [13] (fun j wx => ∃ (m : Nat), m ≤ u.r.cols.length ∧ j = .int .i64 m ∧ Hid (Kp S w3 wx) ∧ Hid (∀ q ∈ qs, Wr wx q.a q.r.cols.length) ∧ Hid (Blk wx G7 #[.int .u32 u.r.oid, .int .u32 u.r.ver, .string u.r.nm, .int .u8 u.r.id, .slice a7 u.r.cols.length c7] 36) ∧ Hid (Wr wx a7 u.r.cols.length)) (fun j _ => u.r.cols.length - (intOf j).toNat)
      case atStart => exact ⟨0, Nat.zero_le _, rfl, Hid.mk' (HK8.out.trans (T := S) (Kp.of_ext (Ext.refl w8).drew) (fun x hx _ => hx)), Hid.mk' (fun q hq => (HW8.out q hq).ext (Ext.refl w8).drew), Hid.mk' (HB8.out.ext (Ext.refl w8).drew), Hid.mk' (HW7.out.ext (Ext.refl w8).drew)⟩
      case round =>
        obtain ⟨m, hm, rfl, hKP, hWR, hBG, hW7⟩ := hrel
        obtain ⟨-, -, -, -, f4⟩ := HF.out _ hKP.out
        have hbw : b < wr.heap.size := Nat.lt_of_lt_of_le HBW.out hKP.out.size
        have g4 : wr.cell? ⟨G7, 4, none⟩ = some (.slice a7 u.r.cols.length c7) := hBG.out.cell 4
        have gz := hBG.out.lt
        by_cases hmn : m < u.r.cols.length
        · obtain ⟨gq, xq, yq, hua, q0, q1, qf, qz⟩ := (hWR.out u HUM.out).at_ hmn
          have hSq := HSQ.out u HUM.out gq hua
          have hq3 := HSG.out gq hSq
          have HSq := Hid.mk' hSq
          have HUA := Hid.mk' hua
          rw [hua] at f4
          obtain ⟨g7, x7, y7, rfl, r0, r1, rf, rz⟩ := hW7.out.at_ hmn
          have h7 := HG7.out g7 rfl
          have hq7 : gq < g7 := by omega
          have hqG : gq < G7 := by omega
          have h7G : g7 < G7 := h7.2
          have hne1 : gq ≠ b := fun e => HSR.out b o rfl (e ▸ hSq)
          have H73 : Hid (w3.heap.size ≤ g7) := Hid.mk' h7.1
          have HMN := Hid.mk' hmn
          clear hua hSq hq3 h7
          go_wp2
          go_roundw
          case rel => exact ⟨m + 1, by have := HMN.out; omega, by go_num, Hid.mk' ((hKP.out.trans (T := S) (Kp.set _ _ HSq.out) (fun x hx _ => hx)).trans (T := fun x => x = g7) (Kp.set _ _ rfl) (fun x hx h => by have := H73.out; omega)), Hid.mk' (fun q hq => ((hWR.out q hq).set _ _ _).set _ _ _), Hid.mk' ((hBG.out.other _ _ (by show G7 ≠ gq; omega)).other _ _ (by show G7 ≠ g7; omega)), Hid.mk' ((hW7.out.set _ _ _).set _ _ _)⟩
          case measure => have := HMN.out; simp [intOf]; omega
        · have HMN : Hid (m = u.r.cols.length) := Hid.mk' (by omega)
          obtain rfl : m = u.r.cols.length := by omega
          go_wp2
          go_roundw
          case rel => exact ⟨k + 1, by have := HLT.out; omega, by go_num, hKP, hWR⟩
          case measure => have := HLT.out; simp [intOf]; omega
    · obtain rfl : k = ps.length := by omega
      have HCW := Hid.mk' (HSC.out _ hKP.out)
      have HXW := Hid.mk' (HX1.out _ hKP.out)
      have HWW := Hid.mk' (HW.out.ext HXW.out)
      have HBK := Hid.mk' (back9_any _ _ cc qc wr HCW.out)
      go_upto_region 20 with (go_at_call 16; refine HBK.out.mono ?_; rintro e w6 ⟨a6, c6, rs, rfl, hbk, hb6⟩; have HBK6 := Hid.mk' hbk; have HB6 := Hid.mk' hb6; clear hbk hb6)
      have HR9 := Hid.mk' (fun W (h : Ext w6 W) => rsame9_any rs U a6 aw c6 cw W (HBK6.out.rl.ext h) (HWW.out.ext (HB6.out.trans h)) (by have := congrArg List.length (HBK6.out.r.trans HQU.out); simp only [List.length_map] at this; have := H16.out.1; omega) (fun p hp => by
        obtain ⟨q, hq, e⟩ := mem_r (HBK6.out.r.trans HQU.out) hp
        rw [← e]; have := H16.out.2 q hq; omega) H17.out)
      rw [HBK6.out.r, HQU.out, rlsB_true.2 rfl] at HR9
      clear HBK
      go_wp2_with (first
        | (go_at_call 17; refine (HR9.out _ (Ext.refl _)).mono ?_; rintro e w9 ⟨rfl, hb9⟩; have HB9 := Hid.mk' hb9; clear hb9)
        | (go_at_call 18; refine (awake9_any _).mono ?_; rintro e w10 ⟨rfl, hb10⟩; have HB10 := Hid.mk' hb10; clear hb10))
      go_ret
      exact ⟨rfl, (HE1.out.trans HXW.out).trans (HB6.out.trans (HB9.out.trans HB10.out))⟩

end Go.Proofs.Ythdjinicmnhgpaa
