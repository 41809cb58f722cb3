/-
The walk of RecordShort.
-/
import Derived.Test.YtlobghojjfkchaaGreatP20
namespace Go.Proofs.YtlobghojjfkchaaGreat
open Go.RowKit

theorem lit_small {e : Ev} (h : e.lit) : e.small := ⟨by have := h.b; omega, by have := h.a; omega, by have := h.r; omega⟩
set_option maxRecDepth 100000 in set_option maxHeartbeats 8000000 in
theorem great15_any (ps : List RR) (a : Option Addr) (cap : Nat) (x : EL) (w : World) (hl : RL w (.slice a ps.length cap) ps) (hb : ∀ p ∈ ps, p.r.wb) (hlen : ps.length ≤ 9223372036854775807) (hx : x.at 6 K.rc w) (hz : x.e.sz) (W1 : World) (hW : W1 = w.alloc (.cells #[.int .u8 x.e.kind, .int .u32 x.e.ao, .int .u32 x.e.av, .int .u8 x.e.old, .slice x.ba x.e.b.length x.bc, .slice x.aa x.e.a.length x.ac, .slice x.ra x.e.rs.length x.rc, .int .u8 x.e.fl] 29)) :
    Calls Tryz.prog 9 #[.slice a ps.length cap, .slice (some ⟨w.heap.size + 1 + 1, 0, none⟩) 1 1] (((W1.alloc (.cells #[.int .u8 x.e.kind, .int .u32 x.e.ao, .int .u32 x.e.av, .int .u8 x.e.old, .slice x.ba x.e.b.length x.bc, .slice x.aa x.e.a.length x.ac, .slice x.ra x.e.rs.length x.rc, .int .u8 x.e.fl] 29)).alloc (.cells #[.int .u32 0, .int .u64 0, .slice (some ⟨w.heap.size + 1, 0, none⟩) 1 1] 34)))
      fun e w' => ∃ g : Bool, e = .returned (.bool g) ∧ (g = false → ps.length ≤ 1000 ∧ x.e.small) ∧ Ext W1 w' := by
  subst hW
  obtain ⟨⟨k1, ao1, av1, old1, b1, a1, r1, fl1⟩, ba1, bc1, aa1, ac1, ra1, rc1⟩ := x
  simp only
  have hE : Ext w (((w.alloc (.cells #[.int .u8 k1, .int .u32 ao1, .int .u32 av1, .int .u8 old1, .slice ba1 b1.length bc1, .slice aa1 a1.length ac1, .slice ra1 r1.length rc1, .int .u8 fl1] 29)).alloc (.cells #[.int .u8 k1, .int .u32 ao1, .int .u32 av1, .int .u8 old1, .slice ba1 b1.length bc1, .slice aa1 a1.length ac1, .slice ra1 r1.length rc1, .int .u8 fl1] 29)).alloc (.cells #[.int .u32 0, .int .u64 0, .slice (some ⟨w.heap.size + 1, 0, none⟩) 1 1] 34)) := by exact eX
  have h1 := Sl.new ((w.alloc (.cells #[.int .u8 k1, .int .u32 ao1, .int .u32 av1, .int .u8 old1, .slice ba1 b1.length bc1, .slice aa1 a1.length ac1, .slice ra1 r1.length rc1, .int .u8 fl1] 29)).alloc (.cells #[.int .u8 k1, .int .u32 ao1, .int .u32 av1, .int .u8 old1, .slice ba1 b1.length bc1, .slice aa1 a1.length ac1, .slice ra1 r1.length rc1, .int .u8 fl1] 29)) #[.int .u32 0, .int .u64 0, .slice (some ⟨w.heap.size + 1, 0, none⟩) 1 1] 34 3 1 1 (([⟨0, 0, [(⟨(⟨k1, ao1, av1, old1, b1, a1, r1, fl1⟩ : Ev), ba1, bc1, aa1, ac1, ra1, rc1⟩ : EL)], some ⟨w.heap.size + 1, 0, none⟩, 1⟩] : List TL).map TL.vals) rfl (by intro xs hxs; simp at hxs; subst hxs; rfl) rfl
  have h2 := Sl.new (w.alloc (.cells #[.int .u8 k1, .int .u32 ao1, .int .u32 av1, .int .u8 old1, .slice ba1 b1.length bc1, .slice aa1 a1.length ac1, .slice ra1 r1.length rc1, .int .u8 fl1] 29)) #[.int .u8 k1, .int .u32 ao1, .int .u32 av1, .int .u8 old1, .slice ba1 b1.length bc1, .slice aa1 a1.length ac1, .slice ra1 r1.length rc1, .int .u8 fl1] 29 8 1 1 (([(⟨(⟨k1, ao1, av1, old1, b1, a1, r1, fl1⟩ : Ev), ba1, bc1, aa1, ac1, ra1, rc1⟩ : EL)] : List EL).map EL.vals) rfl (EL.len _) rfl
  rw [World.size_alloc, World.size_alloc] at h1
  rw [World.size_alloc] at h2
  refine (greatT_any ps [⟨0, 0, [(⟨(⟨k1, ao1, av1, old1, b1, a1, r1, fl1⟩ : Ev), ba1, bc1, aa1, ac1, ra1, rc1⟩ : EL)], some ⟨w.heap.size + 1, 0, none⟩, 1⟩] a (some ⟨w.heap.size + 1 + 1, 0, none⟩) cap 1 (((w.alloc (.cells #[.int .u8 k1, .int .u32 ao1, .int .u32 av1, .int .u8 old1, .slice ba1 b1.length bc1, .slice aa1 a1.length ac1, .slice ra1 r1.length rc1, .int .u8 fl1] 29)).alloc (.cells #[.int .u8 k1, .int .u32 ao1, .int .u32 av1, .int .u8 old1, .slice ba1 b1.length bc1, .slice aa1 a1.length ac1, .slice ra1 r1.length rc1, .int .u8 fl1] 29)).alloc (.cells #[.int .u32 0, .int .u64 0, .slice (some ⟨w.heap.size + 1, 0, none⟩) 1 1] 34)) (hl.ext hE) ⟨h1, fun t ht => ?_⟩ hlen (by simp) hb (fun t ht => ?_)).mono fun e w' h => ?_
  · obtain rfl := List.mem_singleton.1 ht
    refine ⟨h2.ext (by exact eX), fun e he => ?_⟩
    obtain rfl := List.mem_singleton.1 he
    exact hx.ext hE
  · obtain rfl := List.mem_singleton.1 ht
    refine ⟨by simp, fun e he => ?_, Int.le_refl 0⟩
    obtain rfl := List.mem_singleton.1 he
    exact hz
  · obtain ⟨g, rfl, h3, h4⟩ := h
    refine ⟨g, rfl, fun hg => ?_, (((Ext.refl _).alloc _).alloc _).trans h4⟩
    have h5 := h3 hg
    exact ⟨by have := h5.n; omega, lit_small (h5.e _ (List.mem_singleton.2 rfl) (⟨(⟨k1, ao1, av1, old1, b1, a1, r1, fl1⟩ : Ev), ba1, bc1, aa1, ac1, ra1, rc1⟩ : EL) (by simp))⟩

set_option maxRecDepth 100000 in set_option maxHeartbeats 8000000 in
theorem recshort_law (ps : List RR) (a : Option Addr) (cap : Nat) (x : EL) (ver : Int) (w : World) (hl : RL w (.slice a ps.length cap) ps) (hb : ∀ p ∈ ps, p.r.wb) (hlen : ps.length ≤ 9223372036854775807) (hx : x.at 6 K.rc w) (hz : x.e.sz) (ht : x.e.tw) (hv : 0 ≤ ver) :
    Calls Tryz.prog 4 #[.slice a ps.length cap, x.agg, .int .u8 ver] w fun e w' => e = .returned (.bool true) ∧ Ext w w' := by
  have HGR := Hid.mk' (great15_any ps a cap x w hl hb hlen hx hz _ rfl)
  have HRI := Hid.mk' (fun W (h : Ext w W) => right15_any ps a cap W (hl.ext h) hb hlen)
  have HWN := Hid.mk' (fun W (h : Ext w W) (h1 : ps.length ≤ 1000) (h0 : ofE (ps.map RR.r) = 0) => own15_any ps a cap W (hl.ext h) hb h1 h0)
  have HX := Hid.mk' hx
  have HT := Hid.mk' ht
  have HV := Hid.mk' hv
  have HWK : Hid x.e.wk := Hid.mk' ⟨hz.sb, hz.sa, hz.old.1⟩
  obtain ⟨⟨k1, ao1, av1, old1, b1, a1, r1, fl1⟩, ba1, bc1, aa1, ac1, ra1, rc1⟩ := x
  obtain ⟨EA, hEA⟩ : ∃ E, E = ofE (ps.map RR.r) := ⟨_, rfl⟩
  rw [← hEA] at HRI HWN
  clear hEA hl hb hlen hx hz ht hv
  unfold EL.agg
  simp only at HGR HX HT HWK ⊢
  by_cases hA : EA = 0
  case neg =>
    have hA1 : (EA == 0) = false := by simpa using hA
    rw [hA1] at HRI
    clear hA hA1 HWN
    go_enter Tryz.func4, Tryz.ntmps4
    go_wp2_with (first
      | (go_at_call 9; refine HGR.out.mono ?_; rintro e w1 ⟨g, rfl, -, hb1⟩; have HX1 := Hid.mk' hb1; have HB1 := Hid.mk' (((Ext.refl w).alloc _).trans hb1); clear hb1; cases g)
      | (go_at_call 10; refine (HRI.out _ HB1.out).mono ?_; rintro e w2 ⟨rfl, hb2⟩; have HB2 := Hid.mk' (HB1.out.trans hb2); clear hb2))
    all_goals go_ret
    · exact ⟨rfl, HB2.out⟩
    · exact ⟨rfl, HB1.out⟩
  subst hA
  rw [show ((0 : Int) == 0) = true from rfl] at HRI
  go_enter Tryz.func4, Tryz.ntmps4
  go_upto_region 3 with (first
      | (go_at_call 9; refine HGR.out.mono ?_; rintro e w1 ⟨g, rfl, hg, hb1⟩; have HG := Hid.mk' hg; have HX1 := Hid.mk' hb1; have HB1 := Hid.mk' (((Ext.refl w).alloc _).trans hb1); clear hb1 hg; cases g)
      | (go_at_call 10; refine (HRI.out _ HB1.out).mono ?_; rintro e w2 ⟨rfl, hb2⟩; have HB2 := Hid.mk' (HB1.out.trans hb2); have HX2 := Hid.mk' (HX1.out.trans hb2); clear hb2))
  all_goals try (go_ret; exact ⟨rfl, HB1.out⟩)
  have HLT := Hid.mk' (HG.out (by first | exact rfl | exact trivial))
  have HVB := Hid.mk' ((Blk.new w #[.int .u8 k1, .int .u32 ao1, .int .u32 av1, .int .u8 old1, .slice ba1 b1.length bc1, .slice aa1 a1.length ac1, .slice ra1 r1.length rc1, .int .u8 fl1] 29).ext HX2.out)
  clear HG HGR HRI
  go_upto_region 6 with (go_at_call 11; refine (HWN.out _ HB2.out HLT.out.1 (by first | exact rfl | exact trivial)).mono ?_; rintro e w3 ⟨g, N, cc, qc, aw, cw, U, rfl, hq, hb3⟩; have HQ := Hid.mk' hq.ca; have HX3 := Hid.mk' hb3; have HB3 := Hid.mk' (HB2.out.trans hb3); clear hb3 hq)
  have HV3 := Hid.mk' (HVB.out.ext HX3.out)
  have gv := HV3.out.cell
  have zv := HV3.out.lt
  have HS1 := Hid.mk' HLT.out.2
  have HOE := Hid.mk' (fun W (h : Ext w W) => eown_el (⟨(⟨k1, ao1, av1, old1, b1, a1, r1, fl1⟩ : Ev), ba1, bc1, aa1, ac1, ra1, rc1⟩ : EL) W (HX.out.ext h) HS1.out.b HS1.out.a HS1.out.r)
  unfold EL.agg at HOE
  simp only at HOE
  obtain ⟨B, hB⟩ : ∃ B, B = recB (⟨k1, ao1, av1, old1, b1, a1, r1, fl1⟩ : Ev) (qc.map RR.r) ver := ⟨_, rfl⟩
  obtain ⟨T, hT⟩ : ∃ T, T = recT (⟨k1, ao1, av1, old1, b1, a1, r1, fl1⟩ : Ev) (qc.map RR.r) ver := ⟨_, rfl⟩
  obtain ⟨R, hR⟩ : ∃ R, R = recE (⟨k1, ao1, av1, old1, b1, a1, r1, fl1⟩ : Ev) (qc.map RR.r) ver := ⟨_, rfl⟩
  have HRP := Hid.mk' (fun (ba3 aa3 ra3 : Option Addr) (bc3 ac3 rc3 : Nat) W (h : Ext w3 W) (h1 : (⟨(⟨k1, ao1, av1, old1, b1, a1, r1, fl1⟩ : Ev), ba3, bc3, aa3, ac3, ra3, rc3⟩ : EL).at 5 K.pc W) => recput_any (⟨(⟨k1, ao1, av1, old1, b1, a1, r1, fl1⟩ : Ev), ba3, bc3, aa3, ac3, ra3, rc3⟩ : EL) ver N g cc qc W h1 HS1.out HWK.out (HQ.out.ext h) HT.out HV.out)
  unfold RecPutQ EL.agg at HRP
  simp only at HRP
  rw [← hB, ← hT, ← hR] at HRP
  have HRN : Hid (R ≠ 0 → B = [] ∧ T = []) := Hid.mk' (fun h => by rw [hB, hT]; rw [hR] at h; exact recB_none h)
  have HBL : Hid (B.length ≤ 4096) := Hid.mk' (by rw [hB]; exact recB_short HWK.out HT.out)
  have HTL : Hid (T.length ≤ 256) := Hid.mk' (by rw [hT]; exact recT_len HWK.out)
  have HTS : Hid (∀ s ∈ T, 1 ≤ s.size ∧ s.size ≤ 256) := Hid.mk' (fun s h => by rw [hT] at h; exact recT_256 h)
  clear hB hT hR HQ HWN HLT HVB HX2 HX1 HB1
  go_upto_region 7 with (first
    | (go_at_call 13; refine (HOE.out _ HB3.out).mono ?_; rintro e w4 ⟨⟨ye, ba3, bc3, aa3, ac3, ra3, rc3⟩, rfl, hye, hat, -, hb4⟩; simp only at hye; subst hye; have HAT := Hid.mk' hat; have HX4 := Hid.mk' hb4; clear hat hb4 gv zv; (try simp only))
    | (go_at_call 12; refine (HRP.out ba3 aa3 ra3 bc3 ac3 rc3 _ HX4.out HAT.out).mono ?_; rintro e w5 ⟨a5, c5, a6, c6, rfl, -, hsl, hb5⟩; have HSL := Hid.mk' hsl; have HB5 := Hid.mk' (HB3.out.trans (HX4.out.trans hb5)); clear hsl hb5))
  clear HOE HRP HAT HX4 HX3 HB3 HV3 HX
  have HW := Hid.mk' (fun W => awake15_any W)
  by_cases hz : R = 0
  case neg =>
    obtain ⟨hB0, hT0⟩ := HRN.out hz
    have hz1 : (R != 0) = true := by simpa using hz
    subst hB0
    subst hT0
    clear hz HRN HBL HTL HTS HSL
    go_wp2_with (go_at_call 16; refine (HW.out _).mono ?_; rintro e w6 ⟨rfl, hb6⟩; have HE6 := Hid.mk' (HB5.out.trans hb6); clear hb6)
    go_ret
    exact ⟨rfl, HE6.out⟩
  subst hz
  have hbl : (B.length : Int) ≤ 4096 := by have := HBL.out; omega
  have htl : (T.length : Int) ≤ 256 := by have := HTL.out; omega
  have HUS := Hid.mk' (fun W => euses_any (⟨(⟨0, 0, 0, 0, [], [], [], 0⟩ : Ev), none, 0, none, 0, none, 0⟩ : EL) W ⟨Sl.none0 _ _, Sl.none0 _ _, Sl.none0 _ _⟩ ⟨Nat.zero_le _, Nat.zero_le _, Nat.zero_le _⟩)
  unfold EL.agg at HUS
  simp only [show usesE (⟨0, 0, 0, 0, [], [], [], 0⟩ : Ev) = [] from rfl, List.length_nil] at HUS
  have hbl : decide ((B.length : Int) ≤ 4096) = true := decide_eq_true hbl
  have htl : decide ((T.length : Int) ≤ 256) = true := decide_eq_true htl
  clear HRN HBL HTL
  go_wp2
  go_loopg [12] T.length (fun z i wr => ∃ k : Nat, z + k = T.length ∧ i = .int .i64 k ∧ Hid (Ext w5 wr))
  case atStart => exact ⟨0, by omega, rfl, Hid.mk' (Ext.refl _)⟩
  case round =>
    obtain ⟨k, hzk, rfl, hE⟩ := hrel
    by_cases hlt : k < T.length
    · obtain ⟨b1, o1, rfl, hb1, hx1⟩ := HSL.out.at_ (i := k) (by simpa using hlt)
      have f0 := str_at hlt hx1 hb1 hE.out
      have hbw : b1 < wr.heap.size := Nat.lt_of_lt_of_le hb1 hE.out.size
      have HS := Hid.mk' (HTS.out _ (List.getElem_mem hlt))
      obtain ⟨x, hxx⟩ : ∃ x, x = T[k] := ⟨_, rfl⟩
      rw [← hxx] at f0 HS
      have HLT := Hid.mk' hlt
      have hd1 : decide (T.length ≤ k) = false := decide_eq_false (by omega)
      have hd2 : decide ((T.length : Int) ≤ (k : Int)) = false := decide_eq_false (by omega)
      have hd3 : decide ((x.size : Int) < 1) = false := decide_eq_false (by have := HS.out; omega)
      have hd4 : decide ((256 : Int) < (x.size : Int)) = false := decide_eq_false (by have := HS.out; omega)
      clear hxx hx1
      go_wp2
      go_roundg (T.length - (k + 1))
      case measure => have := HLT.out; omega
      case rel => exact ⟨k + 1, Nat.sub_add_cancel HLT.out, by go_num, hE⟩
    · have hk : k = T.length := by omega
      clear hzk hlt
      subst hk
      go_wp2_with (first
        | (go_at_call 17; refine (HUS.out _).mono ?_; rintro e w6 ⟨u1, u2, u3, rfl, rfl, -, hb6⟩; have HE6 := Hid.mk' (show Ext w5 w6 from by have := hE.out; exact eX); clear hb6)
        | (go_at_call 16; refine (HW.out _).mono ?_; rintro e w7 ⟨rfl, hb7⟩; have HE7 := Hid.mk' (HE6.out.trans hb7); clear hb7))
      go_ret
      exact ⟨rfl, HB5.out.trans HE7.out⟩

end Go.Proofs.YtlobghojjfkchaaGreat
