/-
The reference's record of an event of a row.
-/
import Derived.Test.YtlobghojjfkchaaGreatP20
namespace Go.Proofs.YtlobghojjfkchaaGreat
open Go.RowKit

theorem own_new0 {w : World} (e : TypeId) (k : Nat) : (w.alloc (.cells #[] e)).ownsRow w.heap.size e k (.slice (some ⟨w.heap.size, 0, none⟩) 0 0) 0 [] :=
  ⟨by simp, .inr ⟨w.heap.size, 0, #[], rfl, Nat.le_refl _, Blk.new w #[] e, Nat.le_refl _, Nat.zero_le _, by simp, by simp⟩⟩

set_option maxRecDepth 100000 in set_option maxHeartbeats 8000000 in
theorem rrecputr_any (x : EL) (version : Int) (r : Rl) (ps : List RR) (a0 : Option Addr) (cap0 : Nat) (w : World) (hx : x.at 6 K.rc w) (hs : x.e.small) (hwk : x.e.wk) (hl : RL w (.slice a0 ps.length cap0) ps) (hc : RCat ps) (hz : evE x.e (ps.map RR.r) = 0) (hg : getR x.e.ao x.e.av (ps.map RR.r) = some r) (hok : EvOk x.e r)
    (hb : ∀ c ∈ x.e.b, c.tw) (ha : ∀ c ∈ x.e.a, c.tw) (hat : (⟨x.e.ao, x.e.av⟩ : Rf).u32) (hv : version = 1 ∨ version = 2) :
    Calls Tryz.prog 14 #[.slice a0 ps.length cap0, x.agg, .int .u8 version] w (RecPost x.e r.cols version w) := by
  have HRG := Hid.mk' (fun W (h : Ext w W) => reright_any x ps a0 cap0 W (hx.ext h) hs hwk (hl.ext h) hc)
  rw [hz] at HRG
  have hpl : ps.length ≤ 1000 := by have := hc.ok.n64; rw [List.length_map] at this; omega
  have HGI := Hid.mk' (fun W (h : Ext w W) => rget_any ps a0 cap0 x.e.ao x.e.av W (hl.ext h) hpl)
  obtain ⟨p, hp, rfl⟩ : ∃ p, getP x.e.ao x.e.av ps = some p ∧ p.r = r := by
    rw [← getP_map] at hg
    cases hp : getP x.e.ao x.e.av ps with
    | none => rw [hp] at hg; cases hg
    | some p => rw [hp] at hg; exact ⟨p, rfl, by simpa using hg⟩
  rw [hp] at HGI
  simp only [Option.getD_some, Option.isSome_some] at HGI
  have hpm := (getP_some hp).1
  have HQS := Hid.mk' (fun W (h : Ext w W) => (hl.ext h).sl p hpm)
  have hfac : p.r.nm.size ≤ 9223372036854775807 ∧ (∀ c ∈ p.r.cols, c.nm.size ≤ 9223372036854775807) ∧ p.r.cols.length ≤ 1000 := ⟨(hc.wb p hpm).nm, (hc.wb p hpm).cs, by have := hc.n16 hpm; omega⟩
  obtain ⟨hnm, hs2, hlen2⟩ := hfac
  have htx := tx_ok hok
  have hpc := split_len htx.1
  have HEL := Hid.mk' (evHead_len hat)
  have HXB := Hid.mk' hx.b
  have HXA := Hid.mk' hx.a
  obtain ⟨⟨oid, ver, nm, id, cols⟩, qa, qc⟩ := p
  obtain ⟨⟨kind, ao, av, old, b, a, rs, fl⟩, ba, bc, aa, ac, ra, rc⟩ := x
  unfold EL.agg at HRG ⊢
  unfold RR.agg at HGI
  have hnb := hs.b
  have hna := hs.a
  have hkd := hok.kind
  have ho0 := hwk.old
  clear hx hs hwk hc hz hg hl hp hpm hpl
  simp only at HRG HGI HXB HXA hok hb ha hat hnm hs2 hlen2 htx hpc hnb hna hkd ho0 HEL HQS ⊢
  have HEB := Hid.mk' (fun W (h : Ext w W) => rencode_any b ba bc oid ver nm id cols qa qc version W (HXB.out.ext h) (HQS.out W h) hnb hlen2 hb hs2 hnm)
  have HEA := Hid.mk' (fun W (h : Ext w W) => rencode_any a aa ac oid ver nm id cols qa qc version W (HXA.out.ext h) (HQS.out W h) hna hlen2 ha hs2 hnm)
  have HHB := Hid.mk' (fun W (h : Ext w W) => rholes_any b ba bc W (HXB.out.ext h) hnb)
  have HHA := Hid.mk' (fun W (h : Ext w W) => rholes_any a aa ac W (HXA.out.ext h) hna)
  have HFB : Hid (old ≠ 0 → encE b (⟨oid, ver, nm, id, cols⟩ : Rl) version = 0 ∧ imgPay b cols version = rowPut b cols version ∧ (rowPut b cols version).length ≤ 1154) := Hid.mk' (fun h0 => by
    have h1 := hok.b h0
    exact ⟨by unfold encE; rw [if_pos hv]; exact h1, if_neg (fits_ne h1), rowPut_short h1 hv hb⟩)
  have HFA : Hid (kind ≠ 6 → encE a (⟨oid, ver, nm, id, cols⟩ : Rl) version = 0 ∧ imgPay a cols version = rowPut a cols version ∧ (rowPut a cols version).length ≤ 1154) := Hid.mk' (fun h0 => by
    have h1 := hok.a h0
    exact ⟨by unfold encE; rw [if_pos hv]; exact h1, if_neg (fits_ne h1), rowPut_short h1 hv ha⟩)
  have HNB : Hid (old = 0 → imgPay b cols version = []) := Hid.mk' (fun h0 => if_pos (hok.b0 h0))
  have HNA : Hid (kind = 6 → imgPay a cols version = []) := Hid.mk' (fun h0 => if_pos (hok.a6 h0))
  have hold : old = 0 ∨ 0 < old := by omega
  have HQR := Hid.mk' (fun W => rref_any ⟨ao, av⟩ W hat)
  simp only at HQR
  obtain ⟨i0, hi, hz0, hz1, hz2⟩ := info_parts Tryz.infoStrS
  obtain ⟨TT, hTT⟩ : ∃ T, T = txL b ++ txL a := ⟨_, rfl⟩
  have HTT := Hid.mk' hTT
  have HTX := Hid.mk' htx
  have HPC := Hid.mk' hpc
  rw [← hTT] at HTX HPC
  clear hTT
  have h7 : (kind == 7) = false := by simp; omega
  clear hok hb ha hat htx hpc hnm hs2 HQS HXB HXA
  obtain ⟨IB, hIB⟩ : ∃ l, l = imgPay b cols version := ⟨_, rfl⟩
  obtain ⟨IA, hIA⟩ : ∃ l, l = imgPay a cols version := ⟨_, rfl⟩
  rw [← hIB] at HFB HNB
  rw [← hIA] at HFA HNA
  have HPAY : Hid (evPay (⟨kind, ao, av, old, b, a, rs, fl⟩ : Ev) cols version = evHead (⟨kind, ao, av, old, b, a, rs, fl⟩ : Ev) ++ (IB ++ IA)) := Hid.mk' (by rw [hIA, hIB]; rfl)
  clear hIA hIB
  rcases hv with rfl | rfl
  all_goals
    go_enter Tryz.func14, Tryz.ntmps14
    go_upto_region 13 with (go_at_call 50; refine (HRG.out _ (by exact eX)).mono ?_; rintro e w1 ⟨rfl, hb1⟩; have HE1 := Hid.mk' (((Ext.refl w).alloc _).trans hb1); have HV1 := Hid.mk' ((Blk.new w #[.int .u8 kind, .int .u32 ao, .int .u32 av, .int .u8 old, .slice ba b.length bc, .slice aa a.length ac, .slice ra rs.length rc, .int .u8 fl] 29).ext hb1); have gv := HV1.out.cell; have zv := HV1.out.lt; clear hb1)
    go_cut [12] (fun p wx => ∃ X, p = .pointer (some ⟨X, 0, none⟩) ∧ Hid (Blk wx X #[.int .u32 oid, .int .u32 ver, .string nm, .int .u8 id, .slice qa cols.length qc] 101) ∧ Hid (Ext w1 wx))
    case first =>
      go_wp2_with (go_at_call 52; refine (HGI.out _ HE1.out).mono ?_; rintro e w2 ⟨rfl, hb2⟩; have HB2 := Hid.mk' hb2; clear hb2 gv zv; (try simp only))
      go_meet
      case rel => exact ⟨_, rfl, Hid.mk' (Blk.new _ _ _), Hid.mk' (HB2.out.alloc _)⟩
    case rest =>
    obtain ⟨X, rfl, HBX, HEX⟩ := hcut
    have gv := (HV1.out.ext HEX.out).cell
    have zv := (HV1.out.ext HEX.out).lt
    have HEQ := Hid.mk' (HE1.out.trans HEX.out)
    have HV2 := Hid.mk' (HV1.out.ext HEX.out)
    obtain ⟨wq, hwq⟩ : ∃ x, x = wc := ⟨_, rfl⟩
    subst hwq
    clear HE1 HV1 HEX HGI HRG
    go_upto_if 73 with (go_at_call 51; refine (HQR.out _).mono ?_; rintro e w4 ⟨v4, rfl, ho4, hb4⟩; have HO4 := Hid.mk' ho4; have HB4 := Hid.mk' hb4; have HV4 := Hid.mk' (HV2.out.ext hb4); clear ho4 hb4 gv zv; have gv := HV4.out.cell; have zv := HV4.out.lt)
    go_cut [14] (fun v wx => Hid (OB wx wq.heap.size v (evHead (⟨kind, ao, av, old, b, a, rs, fl⟩ : Ev))) ∧ Hid (Ext wq wx))
    case first =>
      by_cases h4 : kind = 4
      · have h4' : ¬ 4 < kind := by omega
        have HH : Hid (OB w4 wq.heap.size v4 (evHead (⟨kind, ao, av, old, b, a, rs, fl⟩ : Ev))) := Hid.mk' (by unfold evHead; rw [if_pos h4, List.append_nil]; exact HO4.out)
        obtain ⟨a4, c4, rfl⟩ := HH.out.shape
        clear h4
        go_wp2
        go_meet
        case rel => exact ⟨HH, HB4⟩
      · have h4' : 4 < kind := by omega
        have HHE : Hid (evHead (⟨kind, ao, av, old, b, a, rs, fl⟩ : Ev) = (sevens ao.toNat ++ sevens av.toNat) ++ [old]) := Hid.mk' (by unfold evHead; rw [if_neg h4])
        have HSN := Hid.mk' (Sl.new w4 #[.int .u8 old] 5 1 1 1 ([old].map bcell) rfl (by intro xs hxs; simp at hxs; subst hxs; rfl) rfl)
        clear h4
        go_wp2_with (at_builtin; refine app_bytes_at rfl _ _ rfl wq.heap.size v4 _ rfl (HO4.out.ext ((Ext.refl w4).alloc _)) _ [old] rfl HSN.out ?c1 ?c2 ?_)
        case c1 => have h1 := HEL.out; rw [HHE.out, List.length_append] at h1; simp only [List.length_cons, List.length_nil] at h1 ⊢; omega
        case c2 => have := HB4.out.size; simp; omega
        intro v5 w5 ho5 hg5 _
        have HH : Hid (OB w5 wq.heap.size v5 (evHead (⟨kind, ao, av, old, b, a, rs, fl⟩ : Ev))) := Hid.mk' (by rw [HHE.out]; first | exact ho5 | (rw [List.append_assoc]; exact ho5))
        have HB5 : Hid (Ext wq w5) := Hid.mk' (OB.grown (HB4.out.alloc _) (HO4.out.ext ((Ext.refl w4).alloc _)) hg5)
        obtain ⟨a5, c5, rfl⟩ := HH.out.shape
        clear ho5 hg5
        go_wp2
        go_meet
        case rel => exact ⟨HH, HB5⟩
    case rest =>
    obtain ⟨HO5, HB5⟩ := hcut
    obtain ⟨H0, hH0⟩ : ∃ h, h = evHead (⟨kind, ao, av, old, b, a, rs, fl⟩ : Ev) := ⟨_, rfl⟩
    rw [← hH0] at HO5 HEL
    obtain ⟨ab, cb, rfl⟩ := HO5.out.shape
    have HH0 := Hid.mk' hH0
    clear hH0 gv zv HO4 HB4 HV4
    have gv := (HV2.out.ext HB5.out).cell
    have zv := (HV2.out.ext HB5.out).lt
    have gx := (HBX.out.ext HB5.out).cell
    have zx := (HBX.out.ext HB5.out).lt
    go_upto_if 81 with (fail)
    go_cut [14] (fun v wx => Hid (OB wx wq.heap.size v (H0 ++ IB)) ∧ Hid (Ext wq wx))
    case first =>
      by_cases h0 : 0 < old
      · have h0' : old ≠ 0 := by omega
        have HF := Hid.mk' (HFB.out h0')
        clear h0'
        go_wp2_with (first
          | (go_at_call 53; refine (HEB.out _ (HEQ.out.trans HB5.out)).mono ?_; rintro e w6 ⟨v6, rfl, ho6, -, hb6⟩; have HO6 := Hid.mk' (ho6 HF.out.1); have HB6 := Hid.mk' hb6; clear ho6 hb6)
          | (at_builtin; refine app_bytes_at rfl _ _ rfl wq.heap.size _ _ rfl (HO5.out.ext HB6.out) _ _ rfl HO6.out.sl ?c1 ?c2 ?_))
        case c1 => have h1 := HEL.out; have h2 := HF.out.2.2; omega
        case c2 => have := HB5.out.size; have := HB6.out.size; omega
        intro v7 w7 ho7 hg7 _
        have HH : Hid (OB w7 wq.heap.size v7 (H0 ++ IB)) := Hid.mk' (by rw [HF.out.2.1]; exact ho7)
        have HB7 : Hid (Ext wq w7) := Hid.mk' (OB.grown (HB5.out.trans HB6.out) (HO5.out.ext HB6.out) hg7)
        obtain ⟨a7, c7, rfl⟩ := HH.out.shape
        clear ho7 hg7
        go_wp2
        go_meet
        case rel => exact ⟨HH, HB7⟩
      · have HH : Hid (OB wc wq.heap.size (.slice ab H0.length cb) (H0 ++ IB)) := Hid.mk' (by rw [HNB.out (by omega), List.append_nil]; exact HO5.out)
        go_wp2
        go_meet
        case rel => exact ⟨HH, HB5⟩
    case rest =>
    obtain ⟨HO6, HB6⟩ := hcut
    have HLB : Hid (IB.length ≤ 1154) := Hid.mk' (by
      by_cases h0 : old = 0
      · rw [HNB.out h0]; simp
      · rw [(HFB.out h0).2.1]; exact (HFB.out h0).2.2)
    obtain ⟨H1, hH1⟩ : ∃ h, h = H0 ++ IB := ⟨_, rfl⟩
    have HLE : Hid (H1.length ≤ 1165) := Hid.mk' (by rw [hH1, List.length_append]; have := HEL.out; have := HLB.out; omega)
    rw [← hH1] at HO6
    obtain ⟨ad, cd, rfl⟩ := HO6.out.shape
    have HH1 := Hid.mk' hH1
    clear hH1 gv zv gx zx HO5 HB5 HLB HFB HNB HEB
    have gv := (HV2.out.ext HB6.out).cell
    have zv := (HV2.out.ext HB6.out).lt
    have gx := (HBX.out.ext HB6.out).cell
    have zx := (HBX.out.ext HB6.out).lt
    go_upto_if 95 with (fail)
    go_cut [14] (fun v wx => Hid (OB wx wq.heap.size v (H1 ++ IA)) ∧ Hid (Ext wq wx))
    case first =>
      by_cases h0 : kind < 6
      · have h0' : kind ≠ 6 := by omega
        have HF := Hid.mk' (HFA.out h0')
        clear h0'
        go_wp2_with (first
          | (go_at_call 53; refine (HEA.out _ (HEQ.out.trans HB6.out)).mono ?_; rintro e w6 ⟨v6, rfl, ho6, -, hb6⟩; have HO8 := Hid.mk' (ho6 HF.out.1); have HB8 := Hid.mk' hb6; clear ho6 hb6)
          | (at_builtin; refine app_bytes_at rfl _ _ rfl wq.heap.size _ _ rfl (HO6.out.ext HB8.out) _ _ rfl HO8.out.sl ?c1 ?c2 ?_))
        case c1 => have h1 := HLE.out; have h2 := HF.out.2.2; omega
        case c2 => have := HB6.out.size; have := HB8.out.size; omega
        intro v7 w7 ho7 hg7 _
        have HH : Hid (OB w7 wq.heap.size v7 (H1 ++ IA)) := Hid.mk' (by rw [HF.out.2.1]; exact ho7)
        have HB7 : Hid (Ext wq w7) := Hid.mk' (OB.grown (HB6.out.trans HB8.out) (HO6.out.ext HB8.out) hg7)
        obtain ⟨a7, c7, rfl⟩ := HH.out.shape
        clear ho7 hg7
        go_wp2
        go_meet
        case rel => exact ⟨HH, HB7⟩
      · have HH : Hid (OB wc wq.heap.size (.slice ad H1.length cd) (H1 ++ IA)) := Hid.mk' (by rw [HNA.out (by omega), List.append_nil]; exact HO6.out)
        go_wp2
        go_meet
        case rel => exact ⟨HH, HB6⟩
    case rest =>
    obtain ⟨HO7, HB7⟩ := hcut
    obtain ⟨H2, hH2⟩ : ∃ h, h = H1 ++ IA := ⟨_, rfl⟩
    rw [← hH2] at HO7
    obtain ⟨ae, ce, rfl⟩ := HO7.out.shape
    have HH2 := Hid.mk' hH2
    clear hH2 gv zv gx zx HO6 HB6 HFA HNA HEA HLE
    have gv := (HV2.out.ext HB7.out).cell
    have zv := (HV2.out.ext HB7.out).lt
    go_upto_region 25 with (first
      | (go_at_call_of 54 (Value.slice ba b.length bc); refine (HHB.out _ (HEQ.out.trans HB7.out)).mono ?_; rintro e w8 ⟨a1, c1, a2, c2, rfl, -, hs8, hb8⟩; have HS8 := Hid.mk' hs8; have HX8 := Hid.mk' hb8; have HB8 := Hid.mk' (HB7.out.trans hb8); have HV8 := Hid.mk' (HV2.out.ext HB8.out); clear hs8 hb8 gv zv; have gv := HV8.out.cell; have zv := HV8.out.lt)
      | (go_at_call 54; refine (HHA.out _ (HEQ.out.trans HB8.out)).mono ?_; rintro e w9 ⟨a3, c3, a4, c4, rfl, -, hs9, hb9⟩; have HS9 := Hid.mk' hs9; have HX9 := Hid.mk' hb9; have HB9 := Hid.mk' (HB8.out.trans hb9); clear hs9 hb9 gv zv))
    have HTL : Hid ((txL b).length + (txL a).length ≤ 32) := Hid.mk' (by have h := HTX.out.2; rw [HTT.out, List.length_append] at h; exact h)
    have HON := Hid.mk' (own_new0 (w := w9) 9 1)
    go_wp2_with (at_builtin; refine wpList_append_sl rfl _ _ 41 rfl w9.heap.size 9 i0 _ 1 16 Tryz.underlying41 hi hz0 hz1 hz2 rfl (by decide) _ 0 [] rfl HON.out _ ((txL b).map strC) rfl (HS8.out.ext (HX9.out.alloc _)) strC_one strC_cells ?c1 ?c2 ?c3 ?_)
    case c1 => have h1 := HTL.out; rw [List.length_map]; unfold maxLen; omega
    case c2 => have h1 := HTL.out; rw [List.length_map]; omega
    case c3 => simp
    intro v10 w10 ho10 hg10 _
    have HO10 : Hid (w10.ownsRow w9.heap.size 9 1 v10 (txL b).length ((txL b).map strC).flatten) := Hid.mk' (by first | exact ho10 | (rw [List.length_map, Nat.zero_add, List.nil_append] at ho10; exact ho10))
    have HX10 : Hid (Ext w9 w10) := Hid.mk' (Ext.grown ((Ext.refl _).alloc _) HON.out hg10)
    obtain ⟨a10, c10, rfl⟩ := owns_shape HO10.out
    clear ho10 hg10 HON
    go_wp2_with (at_builtin; refine wpList_append_sl rfl _ _ 41 rfl w9.heap.size 9 i0 _ 1 16 Tryz.underlying41 hi hz0 hz1 hz2 rfl (by decide) _ (txL b).length _ rfl HO10.out _ ((txL a).map strC) rfl (HS9.out.ext HX10.out) strC_one strC_cells ?d1 ?d2 ?d3 ?_)
    case d1 => have h1 := HTL.out; rw [List.length_map]; unfold maxLen; omega
    case d2 => have h1 := HTL.out; rw [List.length_map]; omega
    case d3 => exact HX10.out.size
    intro v11 w11 ho11 hg11 _
    have HO11 : Hid (w11.ownsRow w9.heap.size 9 1 v11 TT.length (TT.map strC).flatten) := Hid.mk' (by rw [HTT.out, List.length_append, List.map_append, List.flatten_append]; first | exact ho11 | (rw [List.length_map] at ho11; exact ho11))
    have HX11 : Hid (Ext w9 w11) := Hid.mk' (Ext.grown HX10.out HO10.out hg11)
    obtain ⟨a11, c11, rfl⟩ := owns_shape HO11.out
    clear ho11 hg11
    have HSPL := Hid.mk' (rsplit_any TT a11 c11 w11 (Sl.of_owns (base := w9.heap.size) (e := 9) (by rw [List.length_map]; exact HO11.out) strC_one) (by have := HTX.out.2; omega) (fun s hs => by have := HTX.out.1 s hs; omega) (by have := HPC.out; have := HTX.out.2; omega))
    obtain ⟨TS, hTS⟩ : ∃ T, T = splitL TT := ⟨_, rfl⟩
    rw [← hTS] at HSPL
    have HTS := Hid.mk' hTS
    clear hTS
    go_wp2_with (go_at_call 55; refine HSPL.out.mono ?_; rintro e w12 ⟨a12, c12, rfl, hs12, hb12⟩; have HS12 := Hid.mk' hs12; have HB12 := Hid.mk' hb12; clear hs12 hb12)
    go_ret3
    have hT := HTS.out
    have hU := HTT.out
    have hA := HH0.out
    have hB := HH1.out
    have hC := HH2.out
    subst hU
    subst hT
    subst hC
    subst hB
    subst hA
    have HX12 := HX11.out.trans HB12.out
    refine ⟨_, a12, c12, rfl, ?_, HS12.out, HEQ.out.trans (HB9.out.trans HX12)⟩
    have h := ((HO7.out.ext (HX8.out.trans HX9.out)).ext HX12).base HEQ.out.size
    rw [HPAY.out, ← List.append_assoc]
    exact h

end Go.Proofs.YtlobghojjfkchaaGreat
