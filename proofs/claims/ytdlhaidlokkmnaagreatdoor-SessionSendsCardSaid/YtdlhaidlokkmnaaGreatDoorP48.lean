/-
The walk of SessionSends.
-/
import Derived.Test.YtdlhaidlokkmnaaGreatDoorP40
import Derived.Test.YtdlhaidlokkmnaaGreatDoorP46
import Derived.Test.YtdlhaidlokkmnaaGreatDoorP47
set_option maxRecDepth 100000
set_option maxHeartbeats 16000000
namespace Go.Proofs.YtdlhaidlokkmnaaGreatDoor
open Go.RowKit
theorem Lit.n600 {ps : List RR} {ts : List TL} (h : Lit ps ts) : ∀ t ∈ ts, t.es.length ≤ 600 := fun t ht => by
  obtain ⟨i, hi, rfl⟩ := List.getElem_of_mem ht
  have h1 := manyT_succ hi
  have h2 := manyT_le ts (i + 1)
  have h3 := h.es
  omega
theorem Lit.okw {ps : List RR} {ts : List TL} (h : Lit ps ts) (hz : ∀ t ∈ ts, t.sz) (hw : ∀ t ∈ ts, t.tw) : ∀ t ∈ ts, t.okw := fun t ht =>
  ⟨(hw t ht).xid, (hw t ht).st, fun e he => Ev.okw_of ((hz t ht).e e he) ((hw t ht).es e he) (h.e t ht e he), h.n600 t ht, fun e he => (h.e t ht e he).r⟩
theorem TL.okw_t {q t : TL} (h : q.t = t.t) (ht : t.okw) : q.okw := by
  have h1 : q.xid = t.xid := congrArg Tx.xid h
  have h2 : q.st = t.st := congrArg Tx.st h
  have h3 : q.es.map EL.e = t.es.map EL.e := congrArg Tx.es h
  have h4 : ∀ e ∈ q.es, ∃ e2 ∈ t.es, e2.e = e.e := fun e he => by
    have h5 : e.e ∈ t.es.map EL.e := by rw [← h3]; exact List.mem_map_of_mem he
    obtain ⟨e2, h6, h7⟩ := List.mem_map.1 h5
    exact ⟨e2, h6, h7⟩
  refine ⟨h1 ▸ ht.xid, h2 ▸ ht.st, fun e he => ?_, ?_, fun e he => ?_⟩
  · obtain ⟨e2, h6, h7⟩ := h4 e he
    rw [← h7]; exact ht.es e2 h6
  · have h5 := congrArg List.length h3
    rw [List.length_map, List.length_map] at h5
    rw [h5]; exact ht.n
  · obtain ⟨e2, h6, h7⟩ := h4 e he
    rw [← h7]; exact ht.r e2 h6
theorem sends_law (ps : List RR) (a : Option Addr) (cap : Nat) (ts : List TL) (ta : Option Addr) (tc : Nat) (w : World) (hT : Tab w) (hK : Kin w) (hN : Non w) (hS : NonS w) (hl : RL w (.slice a ps.length cap) ps) (hb : ∀ p ∈ ps, p.r.wb) (hB : ∀ p ∈ ps, B32 p.r.oid ∧ B32 p.r.ver) (hlen : ps.length ≤ 9223372036854775807)
    (ht : TS 6 K.rc w (.slice ta ts.length tc) ts) (hnt : ts.length ≤ 9223372036854775807) (hz : ∀ p ∈ ts, p.sz) (hw : ∀ p ∈ ts, p.tw) :
    Calls Tryz.prog 3 #[.slice a ps.length cap, .slice ta ts.length tc] w fun e w' => e = .returned (.bool true) ∧ Ext w w' := by
  have HL := Hm hl
  have HB := Hm hb
  have HB2 := Hm hB
  have HT := Hm ht
  have HZ := Hm hz
  have HW := Hm hw
  have HV := Hm (And.intro hT (And.intro hK (And.intro hN hS)))
  have HGR := Hm (fun W (h : Ext w W) => greatT_any ps ts a ta cap tc W (hl.ext h) (ht.ext h) hlen hnt hb hz)
  have HINN := Hm (fun W (h : Ext w W) => in16_any ps a cap W (hl.ext h) hb hlen)
  have HRA := Hm (fun W (h : Ext w W) => rof_any ps a cap W (hl.ext h) hb hlen)
  unfold ROfPost at HRA
  clear hl hb ht hz hw hlen hnt hT hK hN hS hB
  by_cases hA : ofE (ps.map RR.r) = 0
  case neg =>
    have hd : decide (ofE (ps.map RR.r) = 0) = false := decide_eq_false hA
    rw [hd] at HINN
    clear hA hd HRA
    go_enter Tryz.func3, Tryz.ntmps3
    go_wp2_with (first
      | (go_at_call 4; refine (HGR.out _ (Ext.refl _)).mono ?_; rintro e w1 ⟨g, rfl, -, hb1⟩; have HB1 := Hm hb1; clear hb1; cases g)
      | (go_at_call 5; refine (HINN.out _ HB1.out).mono ?_; rintro e w2 ⟨rfl, hb2⟩; have HB2' := Hm (HB1.out.trans hb2); clear hb2))
    all_goals
      go_ret
      first | exact ⟨rfl, HB2'.out⟩ | exact ⟨rfl, HB1.out⟩
  have hd : decide (ofE (ps.map RR.r) = 0) = true := decide_eq_true hA
  rw [hd] at HINN
  have HA := Hm hA
  clear hA hd
  go_enter Tryz.func3, Tryz.ntmps3
  go_upto_region 3 with (first
    | (go_at_call 4; refine (HGR.out _ (Ext.refl _)).mono ?_; rintro e w1 ⟨g, rfl, hg, hb1⟩; have HB1 := Hm hb1; have HG := Hm hg; clear hb1 hg; cases g)
    | (go_at_call 5; refine (HINN.out _ HB1.out).mono ?_; rintro e w2 ⟨rfl, hb2⟩; have HB2' := Hm (HB1.out.trans hb2); clear hb2))
  all_goals try (go_ret; exact ⟨rfl, HB1.out⟩)
  have HLT := Hm (HG.out (by first | exact rfl | exact trivial))
  have hn70 : ps.length ≤ 1000 := by have := HLT.out.n; omega
  have HOW := Hm (own16_any ps a cap w2 (HL.out.ext HB2'.out) HB.out hn70 HA.out)
  unfold Own16Post at HOW
  clear HG HGR HINN HB1
  go_upto_region 6 with (go_at_call 6; refine HOW.out.mono ?_; rintro e w3 ⟨gc, cc, qc, rfl, -, hcc, hqc, hb3⟩; have HCC := Hm hcc; have HQC := Hm hqc; have HB3 := Hm (HB2'.out.trans hb3); clear hcc hqc hb3)
  go_upto_region 7 with (go_at_call 7; refine (HRA.out _ HB3.out).mono ?_; rintro e w4 ⟨aw, cw, nw, rfl, h1, -, hb4⟩; have HW4 := Hm (h1 HA.out); have HC4 := Hm (HCC.out.ext hb4); have HB4 := Hm (HB3.out.trans hb4); clear h1 hb4)
  obtain ⟨U, hU⟩ : ∃ U, U = upP ps ps.length := ⟨_, rfl⟩
  have hUr : U.map RR.r = qc.map RR.r := by rw [hU, upP_r, HQC.out]
  have hUb : ∀ p ∈ U, p.r.wb := fun p hp => HB.out p (upP_mem (by rw [← hU]; exact hp))
  have hU2 : ∀ p ∈ U, B32 p.r.oid ∧ B32 p.r.ver := fun p hp => HB2.out p (upP_mem (by rw [← hU]; exact hp))
  rw [← hU] at HW4
  obtain ⟨hn, hrl⟩ := HW4.out
  subst hn
  have hC64 : qc.length ≤ 64 := by have h := HC4.out.n64; simpa using h
  have hU64 : U.length ≤ 64 := by have h := congrArg List.length hUr; simp only [List.length_map] at h; omega
  have hkw : ∀ r ∈ U.map RR.r, r.okw := fun r hr => by
    have h3 : r ∈ qc.map RR.r := by rw [← hUr]; exact hr
    obtain ⟨p, hp, rfl⟩ := List.mem_map.1 hr
    exact Rl.okw_of (HC4.out.ok.right _ h3) (hUb p hp) (hU2 p hp)
  have HRL := Hm hrl
  have HUR := Hm hUr
  have HKW := Hm hkw
  have HRC := Hm (show RCat U from ⟨by rw [hUr]; exact HC4.out.ok, hUb⟩)
  have HLA := Hm (HLT.out.ok)
  have HOK := Hm (HLT.out.okw HZ.out HW.out)
  have hlt60 : ts.length ≤ 60 := HLT.out.t
  have HTX := Hm (fun W (h : Ext w W) => txs_any ts ta tc W (HT.out.ext h) HLA.out.1 HLA.out.2.1 HLA.out.2.2.1)
  have HRS := Hm (fun W (h : Ext w W) (h2 : Ext w4 W) => rsend_any ts ta tc U aw cw W (HT.out.ext h) HOK.out hlt60 (HRL.out.ext h2) (by omega) HKW.out HRC.out)
  have HSE := Hm (fun (qs : List TL) a5 c5 W (h : Ext w W) (h2 : Ext w4 W) (hq : TS 5 K.pc W (.slice a5 qs.length c5) qs) (ht : qs.map TL.t = ts.map TL.t) => show Calls Tryz.prog 8 #[.pointer (some ⟨gc, 0, none⟩), .slice a5 qs.length c5] W (SendPost (U.map RR.r) (ts.map TL.t) W) from by
    have hl : qs.length = ts.length := by have h := congrArg List.length ht; simpa using h
    have hk2 : ∀ q ∈ qs, q.okw := fun q hq => by
      have h4 : q.t ∈ ts.map TL.t := by rw [← ht]; exact List.mem_map_of_mem hq
      obtain ⟨t, h5, h6⟩ := List.mem_map.1 h4
      exact TL.okw_t h6.symm (HOK.out t h5)
    have h3 := send_any qs a5 c5 gc gc cc qc W hq hk2 (by omega) (HC4.out.ext h2) (fun r hr => HKW.out r (by rw [HUR.out]; exact hr)) (HV.out.2.1.ext h) (HV.out.1.ext h) (HV.out.2.2.1.ext h) (HV.out.2.2.2.ext h)
    rw [ht, ← HUR.out] at h3
    exact h3)
  have HAW := Hm (fun W (h : Ext w W) => awake21_any W (HV.out.2.1.ext h) (HV.out.1.ext h) (HV.out.2.2.1.ext h) (HV.out.2.2.2.ext h))
  unfold SendPost at HSE
  unfold RSendPost at HRS
  obtain ⟨LC, hLC⟩ : ∃ L, L = U.map RR.r := ⟨_, rfl⟩
  obtain ⟨TT, hTT⟩ : ∃ T, T = ts.map TL.t := ⟨_, rfl⟩
  rw [← hLC, ← hTT] at HSE HRS
  obtain ⟨T, hTT2⟩ : ∃ T, T = ckT TT LC := ⟨_, rfl⟩
  obtain ⟨P, hPP⟩ : ∃ P, P = ckP TT LC := ⟨_, rfl⟩
  obtain ⟨E, hEE⟩ : ∃ E, E = ckE TT LC := ⟨_, rfl⟩
  rw [← hTT2, ← hPP, ← hEE] at HSE HRS
  obtain ⟨SB, hSB⟩ : ∃ S, S = (if E = 0 then sendW LC TT else []) := ⟨_, rfl⟩
  rw [← hSB] at HSE HRS
  rw [hTT] at HSE
  clear hUr hUb hU2 hkw hrl HW4 HRL HUR HKW HRC HLT HB HB2 HL HZ HW HRA HA HOW HCC HQC HC4 HB3 HB2' hU hLC hTT2 hPP hEE hSB hn70 hC64 hU64
  go_upto_region 8 with (first
    | (go_at_call 9; refine (HTX.out _ HB4.out).mono ?_; rintro e w5 ⟨a5, c5, qs, rfl, ho5, hb5⟩; have HO5 := Hm ho5; have HY5 := Hm hb5; have HB5 := Hm (HB4.out.trans hb5); have HQL : Hid (ts.length = qs.length) := Hm (by have h := ho5.len; rw [List.length_map] at h; exact h.symm); clear ho5 hb5)
    | (rw [HQL.out]; go_at_call 8; refine (HSE.out qs a5 c5 _ HB5.out HY5.out (by have h := HO5.out.ts; rw [HQL.out] at h; exact h) HO5.out.t).mono ?_; rintro e w6 ⟨v6, rfl, ho6, hb6⟩; have HV6 := Hm ho6.sl; have HB6 := Hm (HB5.out.trans hb6); have HY6 := Hm (HY5.out.trans hb6); clear ho6 hb6))
  rw [HQL.out] at HRS
  have HF7 := Hm (Blk.new w6 #[.int .i64 T, .int .i64 P, .int .i64 E] 33)
  have HX7 : Hid (Ext w6 (w6.alloc (.cells #[.int .i64 T, .int .i64 P, .int .i64 E] 33))) := Hm ((Ext.refl _).alloc _)
  have HB7 := Hm (HB6.out.trans HX7.out)
  have HY7 := Hm (HY6.out.trans HX7.out)
  have HV7 := Hm (HV6.out.ext HX7.out)
  obtain ⟨X, hX⟩ : ∃ X, X = w6.heap.size := ⟨_, rfl⟩
  obtain ⟨w7, hw7⟩ : ∃ W, W = w6.alloc (.cells #[.int .i64 T, .int .i64 P, .int .i64 E] 33) := ⟨_, rfl⟩
  rw [← hX, ← hw7] at HF7
  rw [← hw7] at HB7 HY7 HV7
  rw [← hX, ← hw7]
  clear hX hw7 HX7 HB6 HY6 HV6 HSE HTX HO5 HB5 HY5 HB4 HT
  go_upto_region 9 with (go_at_call 10; refine (HRS.out _ HB7.out HY7.out).mono ?_; rintro e w8 ⟨v8, L8, rfl, ho8, hs8, hb8⟩; have HV8 := Hm ho8.sl; have HS8 := Hm hs8; have HB8 := Hm (HB7.out.trans hb8); have HF8 := Hm (HF7.out.ext hb8); have HV9 := Hm (HV7.out.ext hb8); clear ho8 hs8 hb8)
  have hca := conv_Sl HV9.out
  have hcb := conv_Sl HV8.out
  rw [HS8.out] at hcb
  obtain ⟨ST, hST⟩ : ∃ S, S = strOfNums SB := ⟨_, rfl⟩
  rw [← hST] at hca hcb
  clear hST HV7 HF7 HB7 HY7 HRS
  have f8 := HF8.out.cell
  have f8z := HF8.out.lt
  go_wp2_with (go_at_call 11; refine (HAW.out _ HB8.out).mono ?_; rintro e w9 ⟨rfl, hb9⟩; have HB9 := Hm (HB8.out.trans hb9); clear hb9)
  go_ret
  exact ⟨rfl, HB9.out⟩
end Go.Proofs.YtdlhaidlokkmnaaGreatDoor
