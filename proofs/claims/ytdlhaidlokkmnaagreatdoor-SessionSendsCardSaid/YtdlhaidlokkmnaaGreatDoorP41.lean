/-
The messages of a story: the reference's answer.
-/
import Derived.Maps.AppendAt
import Derived.Test.YtdlhaidlokkmnaaGreatDoorP40
import Derived.Test.YtdlhaidlokkmnaaGreatDoorP34
import Derived.Test.YtdlhaidlokkmnaaGreatDoorP23
set_option maxRecDepth 100000
set_option maxHeartbeats 16000000
namespace Go.Proofs.YtdlhaidlokkmnaaGreatDoor
open Go.RowKit
theorem cells_newS {w : World} {b : Nat} (h : b = w.heap.size) (cs : Array Value) (T : TypeId) : ∀ j u, cs.toList[j]? = some u → (w.alloc (.cells cs T)).cell? ((⟨b, 0, none⟩ : Addr).add j) = some u := by
  subst h
  exact cells_new w cs T
theorem rmessages_any (ts : List TL) (a : Option Addr) (cap : Nat) (ps : List RR) (a2 : Option Addr) (c2 : Nat) (w : World) (ht : TS 6 K.rc w (.slice a ts.length cap) ts) (hok : ∀ t ∈ ts, t.okw) (hlen : ts.length ≤ 60) (hl : RL w (.slice a2 ps.length c2) ps) (hln : ps.length ≤ 1000) (hB : ∀ r ∈ ps.map RR.r, r.okw) :
    Calls Tryz.prog 21 #[.slice a2 ps.length c2, .slice a ts.length cap] w fun e w' => ∃ v u qs s, e = .returned v ∧ RmI w s v u qs w' ∧ s.1 = storyM (ps.map RR.r) (ts.map TL.t) := by
  obtain ⟨i0, hi, hz0, hz1, hz2⟩ := info_parts Tryz.infoRMsg
  obtain ⟨j0, hj, hy0, hy1, hy2⟩ := info_parts Tryz.infoRRfS
  obtain ⟨LC, hLC⟩ : ∃ LC, LC = ps.map RR.r := ⟨_, rfl⟩
  obtain ⟨TT, hTT⟩ : ∃ TT, TT = ts.map TL.t := ⟨_, rfl⟩
  have HL := Hm hLC
  have HTT := Hm hTT
  have HLIT : Hid ((∀ t ∈ TT, t.lit) ∧ TT.length ≤ 60) := Hm ⟨fun t h => by
    rw [hTT] at h
    obtain ⟨x, hx, rfl⟩ := List.mem_map.1 h
    exact (hok x hx).lit, by rw [hTT, List.length_map]; exact hlen⟩
  have HT := Hm ht
  have HOKT := Hm hok
  have HGET := Hm (fun (o v : Int) W (h : Ext w W) => rget_any ps a2 c2 o v W (hl.ext h) hln)
  have HIN := Hm (fun (o v : Int) => show ((getP o v ps).getD RR.zero).in w ∧ ((getP o v ps).getD RR.zero).r.okw from by
    refine ⟨?_, got_okR hB⟩
    cases hg : getP o v ps with
    | none => exact RR.in_zero w
    | some p => exact hl.sl _ (getP_some hg).1)
  clear hLC hTT ht hok hl hB
  go_enter Tryz.func21, Tryz.ntmps21
  go_wp2
  go_loopg [5, 6, 7] ts.length (fun z v u i wr => ∃ (k : Nat) (qs : List ML), z + k = ts.length ∧ i = .int .i64 k ∧ Hid (RmI w (sAt LC TT k) v u qs wr)) 
  case atStart => exact ⟨0, [], by omega, rfl, Hm (RmI.nil w)⟩
  case round =>
    obtain ⟨k, qs, hzk, rfl, hI⟩ := hrel
    by_cases hlt : k < ts.length
    · obtain ⟨b, o, rfl, hb, hx⟩ := HT.out.row.at_ (i := k) (by simpa using hlt)
      have HF := Hm (fun W (h : Ext w W) => TL.at_ hlt hx hb h)
      obtain ⟨f0, f1, f2⟩ := HF.out _ hI.out.ext
      have hbw : b < wr.heap.size := Nat.lt_of_lt_of_le hb hI.out.ext.size
      have HTA := Hm (HT.out.sl _ (List.getElem_mem hlt))
      have HTO := Hm (HOKT.out _ (List.getElem_mem hlt))
      have HTM : Hid (ts[k].t ∈ TT) := Hm (by rw [HTT.out]; exact List.mem_map_of_mem (List.getElem_mem hlt))
      have HSA := Hm (sAt_at LC ts hlt)
      rw [← HTT.out] at HSA
      have HKT : Hid (k < TT.length) := Hm (by rw [HTT.out, List.length_map]; exact hlt)
      have hq0 : qs.length ≤ 1200000 := by rw [hI.out.len]; exact (sAt_b (c := LC) HLIT.out.1 HLIT.out.2 (Nat.le_of_lt HKT.out)).1
      obtain ⟨t, hte⟩ : ∃ t, t = ts[k] := ⟨_, rfl⟩
      rw [← hte] at HF f0 f1 f2 HTA HTO HTM HSA
      have HLT := Hm hlt
      have HBB := Hm hb
      clear hte hx hb
      obtain ⟨xid, st, es, ta, tc⟩ := t
      unfold TL.t at HSA HTM
      simp only at HF f0 f1 f2 HSA HTM
      have HES : Hid (ES 6 K.rc w (.slice ta es.length tc) es) := HTA
      obtain ⟨T, hT⟩ : ∃ T, T = (⟨xid, st, es.map EL.e⟩ : Tx) := ⟨_, rfl⟩
      rw [← hT] at HSA HTM
      have HTE := Hm hT
      have hle : es.length ≤ 600 := HTO.out.n
      have hwl : IntKind.u32.wrap (es.length : Int) = es.length := by simp [IntKind.wrap, IntKind.signed, IntKind.bits]; omega
      have HOK := Hm HTO.out.es
      have HRB : Hid (ML.rok w (mlB xid st)) := Hm ⟨mlB_at w xid st, (mlB_ok HTO.out.xid HTO.out.st).tookr, (fun c hc => by cases hc), (fun c hc => by cases hc)⟩
      have HRC : Hid (ML.rok w (mlC xid es.length)) := Hm ⟨mlC_at w xid _, (mlC_ok HTO.out.xid (by omega)).tookr, (fun c hc => by cases hc), (fun c hc => by cases hc)⟩
      have hez := hI.out.ext.size
      clear HTA HTO hT
      obtain ⟨wo, hwo⟩ : ∃ x, x = wr := ⟨_, rfl⟩
      subst hwo
      go_wp2
      refine wp_region_head 13 (fun w' => Ext (wo) w' ∧ (∀ b o, b < (wo).heap.size → w'.cell? ⟨b, o, none⟩ = (wo).cell? ⟨b, o, none⟩) ∧ (∀ b o, b < (wo).heap.size → w'.frozen? ⟨b, o, none⟩ = (wo).frozen? ⟨b, o, none⟩)) (by kernel_rfl) (by decide) ?_
      have hA0 : Hid ((fun w' => Ext (wo) w' ∧ (∀ b o, b < (wo).heap.size → w'.cell? ⟨b, o, none⟩ = (wo).cell? ⟨b, o, none⟩) ∧ (∀ b o, b < (wo).heap.size → w'.frozen? ⟨b, o, none⟩ = (wo).frozen? ⟨b, o, none⟩)) wo.drew) := held_of (by exact eX)
      refine HG.on 0 20 hA0.out ?_
      try simp only [Act.put, List.setIfInBounds_toArray, List.set_cons_zero, List.set_cons_succ]
      refine HG.on 1 21 hA0.out ?_
      try simp only [Act.put, List.setIfInBounds_toArray, List.set_cons_zero, List.set_cons_succ]
      refine HG.on 2 22 hA0.out ?_
      try simp only [Act.put, List.setIfInBounds_toArray, List.set_cons_zero, List.set_cons_succ]
      refine HG.on 3 23 hA0.out ?_
      try simp only [Act.put, List.setIfInBounds_toArray, List.set_cons_zero, List.set_cons_succ]
      refine HG.on 4 24 hA0.out ?_
      try simp only [Act.put, List.setIfInBounds_toArray, List.set_cons_zero, List.set_cons_succ]
      refine HG.on 5 25 hA0.out ?_
      try simp only [Act.put, List.setIfInBounds_toArray, List.set_cons_zero, List.set_cons_succ]
      refine HG.on 6 26 hA0.out ?_
      try simp only [Act.put, List.setIfInBounds_toArray, List.set_cons_zero, List.set_cons_succ]
      refine HG.on 7 27 hA0.out ?_
      try simp only [Act.put, List.setIfInBounds_toArray, List.set_cons_zero, List.set_cons_succ]
      refine HG.on 8 28 hA0.out ?_
      try simp only [Act.put, List.setIfInBounds_toArray, List.set_cons_zero, List.set_cons_succ]
      refine HG.on 9 29 hA0.out ?_
      try simp only [Act.put, List.setIfInBounds_toArray, List.set_cons_zero, List.set_cons_succ]
      refine HG.on 10 30 hA0.out ?_
      try simp only [Act.put, List.setIfInBounds_toArray, List.set_cons_zero, List.set_cons_succ]
      refine HG.on 11 31 hA0.out ?_
      try simp only [Act.put, List.setIfInBounds_toArray, List.set_cons_zero, List.set_cons_succ]
      refine wpHd_one (i := 12) rfl rfl (by kernel_rfl) (fun KK hK => ?_)
      go_simp
      refine hK.out _ _ (held_of (by exact eX)) (fun hA => ?_)
      clear hK KK hA hA0 f0 f1 f2
      refine wpHd_tail (by kernel_rfl) ?_
      simp only [List.drop_succ_cons, List.drop_zero]
      go_wp2_with (at_builtin; refine wpList_append_own _ rfl _ _ 85 rfl w.heap.size 90 i0 _ 17 176 Tryz.underlying85 hi hz0 hz1 hz2 rfl (by decide) _ _ _ rfl (owns_ext hI.out.own (by exact eX)) ⟨_, 0, none⟩ 1 1 (ML.cells (mlB xid st)) rfl rfl (cells_new _ #[.int .u8 66, .int .u32 xid, .int .u64 st, .int .u32 0, .int .u32 0, .int .u32 0, .string ⟨#[]⟩, .int .u8 0, .slice none 0 0, .int .u8 0, .int .u32 0, .int .u32 0, .int .u8 0, .slice none 0 0, .slice none 0 0, .slice none 0 0, .int .u8 0] _) (ML.one _) (by unfold maxLen; omega) (by omega) (by simp; omega) ?_)
      intro v1 w1 hown1 hgrow1 _
      have HI1 := Hm ((hI.out.go (W' := wo.drew.alloc (.cells #[.int .u8 66, .int .u32 xid, .int .u64 st, .int .u32 0, .int .u32 0, .int .u32 0, .string ⟨#[]⟩, .int .u8 0, .slice none 0 0, .int .u8 0, .int .u32 0, .int .u32 0, .int .u8 0, .slice none 0 0, .slice none 0 0, .slice none 0 0, .int .u8 0] 90)) (by exact eX)).said HRB.out hgrow1 hown1)
      rw [show ((sAt LC TT k).1 ++ [(mlB xid st).m], (sAt LC TT k).2) = sEv LC TT k T 0 by rw [HTE.out]; rfl] at HI1
      clear hown1 hgrow1
      go_wp2
      go_loopg [5, 6, 8] es.length (fun z2 v u i wq => ∃ (n : Nat) (qs2 : List ML), z2 + n = es.length ∧ i = .int .i64 n ∧ Hid (RmI w (sEv LC TT k T n) v u qs2 wq))
      case atStart => exact ⟨0, _, by omega, rfl, HI1⟩
      case round =>
        obtain ⟨n, qs2, hzn, rfl, hI2⟩ := hrel
        obtain ⟨f0, f1, f2⟩ := HF.out _ hI2.out.ext
        have hbw : b < wr.heap.size := Nat.lt_of_lt_of_le HBB.out hI2.out.ext.size
        have hez2 := hI2.out.ext.size
        have hlk := HLT.out
        by_cases hlt2 : n < es.length
        · obtain ⟨b2, o2, rfl, hb2, hx2⟩ := HES.out.row.at_ (i := n) (by simpa using hlt2)
          obtain ⟨e0, e1, e2, e3, e4, e5, e6, e7⟩ := EL.at_ hlt2 hx2 hb2 hI2.out.ext
          have hbw2 : b2 < wr.heap.size := Nat.lt_of_lt_of_le hb2 hI2.out.ext.size
          have HEA := Hm (HES.out.sl _ (List.getElem_mem hlt2))
          have HEO := Hm (HOK.out _ (List.getElem_mem hlt2))
          have HSV := Hm (sEv_at LC TT k ⟨xid, st, es, some ⟨b2, o2, none⟩, tc⟩ hlt2)
          unfold TL.t at HSV
          simp only at HSV
          rw [← HTE.out] at HSV
          have HVM : Hid (es[n].e ∈ T.es) := Hm (by rw [HTE.out]; exact List.mem_map_of_mem (List.getElem_mem hlt2))
          have HKE : Hid (n < T.es.length) := Hm (by rw [HTE.out]; show n < (es.map EL.e).length; rw [List.length_map]; exact hlt2)
          obtain ⟨x, hxx⟩ : ∃ x, x = es[n] := ⟨_, rfl⟩
          rw [← hxx] at e0 e1 e2 e3 e4 e5 e6 e7 HEA HEO HSV HVM
          have HLT2 := Hm hlt2
          clear hxx hx2 hb2
          have HROF := Hm (fun W => rof20_any x W HEO.out.k.1 HEO.out.k.2)
          have HRM : Hid (ML.rok w (mlOf x)) := Hm ⟨mlOf_at HEA.out, okr_msgOf (mlOf_m x) HEO.out, by rw [show (mlOf x).e.e = (msgOf x.e).e from congrArg Msg.e (mlOf_m x)]; exact (msgOf_tw HEO.out).1, by rw [show (mlOf x).e.e = (msgOf x.e).e from congrArg Msg.e (mlOf_m x)]; exact (msgOf_tw HEO.out).2⟩
          have HMM := Hm (mlOf_m x)
          obtain ⟨y, hy⟩ : ∃ y, y = mlOf x := ⟨_, rfl⟩
          rw [← hy] at HROF HRM HMM
          clear hy
          have HUS := Hm (fun W (h : Ext w W) => reuses_at x W (HEA.out.ext h))
          have HRL := Hm HEA.out.r
          obtain ⟨⟨kd, ao, av, old, lb, la, rs, fl⟩, ba, bcp, aa, ac, ra, rc⟩ := x
          simp only at e0 e1 e2 e3 e4 e5 e6 e7 HRL
          unfold EL.agg at HROF HUS
          obtain ⟨V, hV⟩ : ∃ V, V = (⟨kd, ao, av, old, lb, la, rs, fl⟩ : Ev) := ⟨_, rfl⟩
          have HEV : Hid V.okw := Hm (by rw [hV]; exact HEO.out)
          dsimp only at HSV HVM HUS HROF HMM
          rw [← hV] at HSV HVM HUS HMM
          have HUB := Hm (usesE_b32 HEV.out)
          have HN2 := Hm (fun j => sUs_n (c := LC) (j := j) HLIT.out.1 HLIT.out.2 HTM.out HKT.out HVM.out HKE.out)
          obtain ⟨U, hU⟩ : ∃ U, U = usesE V := ⟨_, rfl⟩
          rw [← hU] at HSV HUS HUB
          have HUV := Hm hU
          have hUl : U.length ≤ 1000000 := by
            rw [hU]; have := HEV.out.sm.r; unfold usesE; split
            · simp
            · split <;> simp <;> omega
          clear HEO hV hU HEA
          obtain ⟨wv, hwv⟩ : ∃ x, x = wr := ⟨_, rfl⟩
          subst hwv
          go_wp2_with (go_at_call 44; refine (HUS.out _ (by have := hI2.out.ext; exact eX)).mono ?_; rintro e w3 ⟨a3, n3, c3, rfl, rfl, ho3, hat3, hb3⟩; have HX3 := Hm (show Ext wv w3 by exact eX); have HO3 := Hm ho3; have HAT := Hm hat3; have HB3 := Hm ((Blk.new wv #[.int .u8 kd, .int .u32 ao, .int .u32 av, .int .u8 old, .slice ba lb.length bcp, .slice aa la.length ac, .slice ra rs.length rc, .int .u8 fl] 51).ext hb3); clear ho3 hb3 hat3)
          have HNB := Hm (hI2.out.apart (a3 := a3) (U := U) (fun b o e h0 => by
            rcases HAT.out b o e with h2 | h2
            · exact .inl (by simp at h2; omega)
            · obtain ⟨h2, h4⟩ := h2
              have h5 : rs ≠ [] := fun h6 => by
                rw [h6] at h4
                exact h0 (List.length_eq_zero_iff.1 h4)
              have h7 : ra = some ⟨b, o, none⟩ := h2.symm.trans e
              exact .inr (Sl.lt (xss := rs.map Rf.cells) (h7 ▸ HRL.out) (fun q => h5 (by simpa using q)))))
          have HI3 := Hm (hI2.out.go HX3.out)
          clear hI2 HX3 e0 e1 e2 e3 e4 e5 e6 e7 hbw2 f0 f1 f2 hbw
          go_loopg [5, 6, 11] U.length (fun z3 v u i wq => ∃ (j : Nat) (qs3 : List ML), z3 + j = U.length ∧ i = .int .i64 j ∧ Hid (RmI w (sUs LC TT k T n V j) v u qs3 wq) ∧ Hid (Blk wq wv.heap.size #[.int .u8 kd, .int .u32 ao, .int .u32 av, .int .u8 old, .slice ba lb.length bcp, .slice aa la.length ac, .slice ra rs.length rc, .int .u8 fl] 51) ∧ Hid (Sl wq (.slice a3 U.length c3) 2 (U.map Rf.cells)) ∧ Hid (U ≠ [] → ∀ b, (u.ownBlock = some b ∨ v.ownBlock = some b) → ∀ o, a3 ≠ some ⟨b, o, none⟩))
          case atStart => exact ⟨0, _, by omega, rfl, HI3, HB3, HO3, HNB⟩
          case round =>
            obtain ⟨j, qs3, hzj, rfl, hI5, hB5, hO5, hN5⟩ := hrel
            have hlk2 := HLT2.out
            by_cases hlt3 : j < U.length
            · obtain ⟨b5, o5, he5, hb5, hx5⟩ := hO5.out.at_ (i := j) (by simpa using hlt3)
              obtain ⟨r0, r1⟩ := Rf.at_ hlt3 hx5 hb5 (Ext.refl wr)
              have HFR := Hm (fun W (h : Ext wr W) => Rf.at_ hlt3 hx5 hb5 h)
              have HSU : Hid (sUs LC TT k T n V (j + 1) = stU LC (sUs LC TT k T n V j) U[j]) := Hm (by
                have hq := HUV.out
                subst hq
                exact sUs_succ LC TT k T n V hlt3)
              have hq3 : qs3.length ≤ 1200000 := by rw [hI5.out.len]; exact (HN2.out _).1
              have hs3 := (HN2.out j).2
              obtain ⟨r, hu⟩ : ∃ r, r = U[j] := ⟨_, rfl⟩
              rw [← hu] at r0 r1 HSU HFR
              have HLT3 := Hm hlt3
              clear hu hx5
              obtain ⟨o', v'⟩ := r
              simp only at r0 r1 HFR
              obtain ⟨S, hS⟩ : ∃ S, S = sUs LC TT k T n V j := ⟨_, rfl⟩
              rw [← hS] at hI5 HSU hs3
              clear hS
              subst he5
              have hez5 := hI5.out.ext.size
              obtain ⟨ua, uc, rfl⟩ := owns_shape hI5.out.told
              have HHAS := Hm (fun W (h : Ext wr W) => has21_any S.2 ⟨o', v'⟩ ua uc W (Sl.of_owns (base := w.heap.size) (e := 47) (xss := S.2.map Rf.cells) (by rw [List.length_map]; exact owns_ext hI5.out.told h) (rf_lenS S.2)) (by omega))
              obtain ⟨hh, hhe⟩ : ∃ hh, hh = hasRf S.2 ⟨o', v'⟩ := ⟨_, rfl⟩
              have HH := Hm hhe
              rw [← hhe] at HHAS
              clear hhe
              obtain ⟨wx, hwx⟩ : ∃ x, x = wr := ⟨_, rfl⟩
              subst hwx
              cases hh with
              | true =>
                have HST2 : Hid (stU LC S ⟨o', v'⟩ = S) := Hm (by unfold stU; rw [if_pos HH.out.symm])
                go_wp2_with (go_at_call 45; refine (HHAS.out _ (by exact eX)).mono ?_; rintro e w6 ⟨rfl, hb6⟩; have HX6 := Hm (show Ext wx w6 by exact eX); clear hb6)
                go_roundg (U.length - (j + 1))
                case measure => have := HLT3.out; omega
                case rel => exact ⟨j + 1, _, Nat.sub_add_cancel HLT3.out, by go_num, by rw [HSU.out, HST2.out]; exact Hm (hI5.out.go HX6.out), Hm (hB5.out.ext HX6.out), Hm (hO5.out.ext HX6.out), hN5⟩
              | false =>
                have HST2 : Hid (stU LC S ⟨o', v'⟩ = (S.1 ++ [relM LC ⟨o', v'⟩], S.2 ++ [⟨o', v'⟩])) := Hm (by unfold stU; rw [if_neg (by rw [← HH.out]; simp)])
                have HG1 := Hm (HIN.out o' v')
                have HG2 := Hm (fun W (h : Ext w W) => HGET.out o' v' W h)
                have HG3 : Hid (((getP o' v' ps).getD RR.zero).r = (getR o' v' LC).getD Rl0) := Hm (by rw [HL.out]; exact got_r rfl)
                obtain ⟨q, hq⟩ : ∃ q, q = (getP o' v' ps).getD RR.zero := ⟨_, rfl⟩
                rw [← hq] at HG1 HG2 HG3
                clear hq
                have HRR : Hid (ML.rok w (mlR q)) := Hm ⟨mlR_at HG1.out.1, ML.okr_mk HG1.out.2 Ev0_okw (show (0 : Int) ≤ 82 ∧ (82 : Int) < 256 by decide) b32_zero z64 b32_zero, (fun c hc => by cases hc), (fun c hc => by cases hc)⟩
                have HRM2 := Hm (mlR_m (q := q) (r := ⟨o', v'⟩) HG3.out)
                obtain ⟨⟨oid, ver, nm, id, cols⟩, ca, cc⟩ := q
                unfold RR.agg at HG2
                dsimp only at HG2
                go_wp2_with (first
                  | (go_at_call 45; refine (HHAS.out _ (by exact eX)).mono ?_; rintro e w6 ⟨rfl, hb6⟩; have HX6 := Hm (show Ext wx w6 by exact eX); have hz6 := hb6.size; obtain ⟨s0, s1⟩ := HFR.out _ HX6.out; have hbw6 : b5 < w6.heap.size := Nat.lt_of_lt_of_le hb5 hb6.size; clear hb6)
                  | (at_builtin; refine wpList_append_own_at _ rfl _ _ 49 rfl w.heap.size 47 j0 _ 2 8 Tryz.underlying49 hj hy0 hy1 hy2 rfl (by decide) _ _ _ rfl (owns_ext hI5.out.told (by have := HX6.out; exact eX)) ⟨_, 0, none⟩ 1 1 (Rf.cells ⟨o', v'⟩) rfl rfl (cells_new _ #[.int .u32 o', .int .u32 v'] _) (Rf.one _) (by unfold maxLen; omega) (by omega) (by simp; omega) ?_; intro v7 w7 hown7 hgrow7 _ hat7; have HI7 := Hm ((hI5.out.go (W' := w6.alloc (.cells #[.int .u32 o', .int .u32 v'] 47)) (by have := HX6.out; exact eX)).tell (r := ⟨o', v'⟩) hgrow7 hown7); have HKP := Hm (Kp.of_grown hgrow7); have HN7 := Hm (fun (h0 : U ≠ []) b (hb : v7.ownBlock = some b) o (e : (some ⟨b5, o5, none⟩ : Option Addr) = some ⟨b, o, none⟩) => (hat7.elim (fun q => hN5.out h0 b (.inl (q ▸ hb)) o e) (fun q => by rw [q] at hb; simp at hb e; omega) : False)); have HO7 : Hid (Sl w7 (.slice (some ⟨b5, o5, none⟩) U.length c3) 2 (U.map Rf.cells)) := Hm (Sl.kp (hO5.out.ext (show Ext wx (w6.alloc (.cells #[.int .u32 o', .int .u32 v'] 47)) by have := HX6.out; exact eX)) HKP.out (fun h0 b o e hs => hN5.out (map_ne h0) b (.inl hs) o e)); have HB7 : Hid (Blk w7 wv.heap.size #[.int .u8 kd, .int .u32 ao, .int .u32 av, .int .u8 old, .slice ba lb.length bcp, .slice aa la.length ac, .slice ra rs.length rc, .int .u8 fl] 51) := Hm ((hB5.out.ext (show Ext wx (w6.alloc (.cells #[.int .u32 o', .int .u32 v'] 47)) by have := HX6.out; exact eX)).kp HKP.out (fun hs => ((hI5.out.go (show Ext wx (w6.alloc (.cells #[.int .u32 o', .int .u32 v'] 47)) by have := HX6.out; exact eX)).not (hB5.out.ext (show Ext wx (w6.alloc (.cells #[.int .u32 o', .int .u32 v'] 47)) by have := HX6.out; exact eX)) (by decide)) hs)); have hz7 := HKP.out.size; have HF7 : w7.cell? ⟨b5, o5 + j * 2, none⟩ = some (.int .u32 o') ∧ w7.cell? ⟨b5, o5 + j * 2 + 1, none⟩ = some (.int .u32 v') := (have hx := HFR.out (w6.alloc (.cells #[.int .u32 o', .int .u32 v'] 47)) (by have := HX6.out; exact eX); have hlt7 : b5 < (w6.alloc (.cells #[.int .u32 o', .int .u32 v'] 47)).heap.size := (by simp; omega); have hns := (fun hs => hN5.out (fun q => by have := HLT3.out; rw [q] at this; simp at this) b5 (.inl hs) o5 rfl); ⟨(HKP.out.cell hlt7 hns _).trans hx.1, (HKP.out.cell hlt7 hns _).trans hx.2⟩); obtain ⟨t0, t1⟩ := HF7; have hbw7 : b5 < w7.heap.size := (by have := HKP.out.size; simp at this; omega); have hz7 : w6.heap.size < w7.heap.size := (by have := HKP.out.size; simp at this; omega); clear hown7 hgrow7 hat7 s0 s1)
                  | (go_at_call 28; refine (HG2.out _ HI7.out.ext).mono ?_; rintro e w8 ⟨rfl, hb8⟩; have HX8 := Hm hb8; have hz8 := hb8.size; clear hb8)
                  | (at_builtin; refine wpList_append_own_at _ rfl _ _ 85 rfl w.heap.size 90 i0 _ 17 176 Tryz.underlying85 hi hz0 hz1 hz2 rfl (by decide) _ _ _ rfl (owns_ext HI7.out.own (by have := HX8.out; exact eX)) ⟨_, 0, none⟩ 1 1 (ML.cells (mlR ⟨⟨oid, ver, nm, id, cols⟩, ca, cc⟩)) rfl rfl (cells_newS (by simp) #[.int .u8 82, .int .u32 0, .int .u64 0, .int .u32 0, .int .u32 oid, .int .u32 ver, .string nm, .int .u8 id, .slice ca cols.length cc, .int .u8 0, .int .u32 0, .int .u32 0, .int .u8 0, .slice none 0 0, .slice none 0 0, .slice none 0 0, .int .u8 0] _) (ML.one _) (by unfold maxLen; omega) (by omega) (by simp; omega) ?_; intro v9 w9 hown9 hgrow9 _ hat9; have HX9 := Hm (show Ext w7 ((w8.alloc (.cells #[.int .u32 oid, .int .u32 ver, .string nm, .int .u8 id, .slice ca cols.length cc] 55)).alloc (.cells #[.int .u8 82, .int .u32 0, .int .u64 0, .int .u32 0, .int .u32 oid, .int .u32 ver, .string nm, .int .u8 id, .slice ca cols.length cc, .int .u8 0, .int .u32 0, .int .u32 0, .int .u8 0, .slice none 0 0, .slice none 0 0, .slice none 0 0, .int .u8 0] 90)) by have := HX8.out; exact eX); have HI9 := Hm ((HI7.out.go HX9.out).said HRR.out hgrow9 hown9); have HK9 := Hm (Kp.of_grown hgrow9); have HO9 := Hm (Sl.kp (HO7.out.ext HX9.out) HK9.out (fun h0 b o e hs => hN5.out (map_ne h0) b (.inr hs) o e)); have HB9 := Hm ((HB7.out.ext HX9.out).kp HK9.out (fun hs => (HI7.out.go HX9.out).notv (HB7.out.ext HX9.out) (by decide) hs)); have HN9 := Hm (fun (h0 : U ≠ []) b (hb : v9.ownBlock = some b) o (e : (some ⟨b5, o5, none⟩ : Option Addr) = some ⟨b, o, none⟩) => (hat9.elim (fun q => hN5.out h0 b (.inr (q ▸ hb)) o e) (fun q => by rw [q] at hb; simp at hb e; omega) : False)); clear hown9 hgrow9 hat9))
                go_roundg (U.length - (j + 1))
                case measure => have := HLT3.out; omega
                case rel => exact ⟨j + 1, _, Nat.sub_add_cancel HLT3.out, by go_num, by rw [HSU.out, HST2.out, ← HRM2.out]; exact HI9, HB9, HO9, Hm (fun h0 b hb o e => hb.elim (fun q => HN7.out h0 b q o e) (fun q => HN9.out h0 b q o e))⟩
            · obtain rfl : j = U.length := by omega
              have hq3 : qs3.length ≤ 1200000 := by rw [hI5.out.len]; exact (HN2.out _).1
              have hez5 := hI5.out.ext.size
              have gx := hB5.out.cell
              have zx := hB5.out.lt
              obtain ⟨ky, xy, sty, ny, ⟨⟨oy, vy, nmy, idy, colsy⟩, cay, ccy⟩, ⟨⟨kdy, aoy, avy, oldy, lby, lay, rsy, fly⟩, bay, bcy, aay, acy, ray, rcy⟩⟩ := y
              unfold ML.agg ML.arr at HROF
              dsimp only at HROF
              go_wp2_with (first
                | (go_at_call 46; refine (HROF.out _).mono ?_; rintro e w6 ⟨rfl, hb6⟩; have HX6 := Hm hb6; have hz6 := hb6.size; clear hb6)
                | (at_builtin; refine wpList_append_own _ rfl _ _ 85 rfl w.heap.size 90 i0 _ 17 176 Tryz.underlying85 hi hz0 hz1 hz2 rfl (by decide) _ _ _ rfl (owns_ext hI5.out.own (by have := HX6.out; exact eX)) ⟨_, 0, none⟩ 1 1 (ML.cells ⟨ky, xy, sty, ny, ⟨⟨oy, vy, nmy, idy, colsy⟩, cay, ccy⟩, ⟨⟨kdy, aoy, avy, oldy, lby, lay, rsy, fly⟩, bay, bcy, aay, acy, ray, rcy⟩⟩) rfl rfl (cells_new _ #[.int .u8 ky, .int .u32 xy, .int .u64 sty, .int .u32 ny, .int .u32 oy, .int .u32 vy, .string nmy, .int .u8 idy, .slice cay colsy.length ccy, .int .u8 kdy, .int .u32 aoy, .int .u32 avy, .int .u8 oldy, .slice bay lby.length bcy, .slice aay lay.length acy, .slice ray rsy.length rcy, .int .u8 fly] _) (ML.one _) (by unfold maxLen; omega) (by omega) (by simp; omega) ?_; intro v7 w7 hown7 hgrow7 _; have HI7 := Hm ((hI5.out.go (W' := w6.alloc (.cells #[.int .u8 ky, .int .u32 xy, .int .u64 sty, .int .u32 ny, .int .u32 oy, .int .u32 vy, .string nmy, .int .u8 idy, .slice cay colsy.length ccy, .int .u8 kdy, .int .u32 aoy, .int .u32 avy, .int .u8 oldy, .slice bay lby.length bcy, .slice aay lay.length acy, .slice ray rsy.length rcy, .int .u8 fly] 90)) (by have := HX6.out; exact eX)).said HRM.out hgrow7 hown7); clear hown7 hgrow7))
              go_roundg (es.length - (n + 1))
              case measure => have := HLT2.out; omega
              case rel => exact ⟨n + 1, _, Nat.sub_add_cancel HLT2.out, by go_num, by rw [HSV.out, ← HMM.out]; exact HI7⟩
        · obtain rfl : n = es.length := by omega
          have hq2 : qs2.length ≤ 1200000 := by rw [hI2.out.len]; exact (sEv_b (c := LC) HLIT.out.1 HLIT.out.2 HTM.out HKT.out (by rw [HTE.out]; show _ ≤ (es.map EL.e).length; rw [List.length_map]; exact Nat.le_refl _)).1
          obtain ⟨wp, hwp⟩ : ∃ x, x = wr := ⟨_, rfl⟩
          subst hwp
          go_wp2
          refine wp_region_head 15 (fun w' => Ext (wp) w' ∧ (∀ b o, b < (wp).heap.size → w'.cell? ⟨b, o, none⟩ = (wp).cell? ⟨b, o, none⟩) ∧ (∀ b o, b < (wp).heap.size → w'.frozen? ⟨b, o, none⟩ = (wp).frozen? ⟨b, o, none⟩)) (by kernel_rfl) (by decide) ?_
          have hA0 : Hid ((fun w' => Ext (wp) w' ∧ (∀ b o, b < (wp).heap.size → w'.cell? ⟨b, o, none⟩ = (wp).cell? ⟨b, o, none⟩) ∧ (∀ b o, b < (wp).heap.size → w'.frozen? ⟨b, o, none⟩ = (wp).frozen? ⟨b, o, none⟩)) wp.drew) := held_of (by exact eX)
          refine HG.on 0 93 hA0.out ?_
          try simp only [Act.put, List.setIfInBounds_toArray, List.set_cons_zero, List.set_cons_succ]
          refine HG.on 1 94 hA0.out ?_
          try simp only [Act.put, List.setIfInBounds_toArray, List.set_cons_zero, List.set_cons_succ]
          refine HG.on 2 95 hA0.out ?_
          try simp only [Act.put, List.setIfInBounds_toArray, List.set_cons_zero, List.set_cons_succ]
          refine HG.on 3 96 hA0.out ?_
          try simp only [Act.put, List.setIfInBounds_toArray, List.set_cons_zero, List.set_cons_succ]
          refine HG.on 4 97 hA0.out ?_
          try simp only [Act.put, List.setIfInBounds_toArray, List.set_cons_zero, List.set_cons_succ]
          refine HG.on 5 98 hA0.out ?_
          try simp only [Act.put, List.setIfInBounds_toArray, List.set_cons_zero, List.set_cons_succ]
          refine HG.on 6 99 hA0.out ?_
          try simp only [Act.put, List.setIfInBounds_toArray, List.set_cons_zero, List.set_cons_succ]
          refine HG.on 7 100 hA0.out ?_
          try simp only [Act.put, List.setIfInBounds_toArray, List.set_cons_zero, List.set_cons_succ]
          refine HG.on 8 101 hA0.out ?_
          try simp only [Act.put, List.setIfInBounds_toArray, List.set_cons_zero, List.set_cons_succ]
          refine HG.on 9 102 hA0.out ?_
          try simp only [Act.put, List.setIfInBounds_toArray, List.set_cons_zero, List.set_cons_succ]
          refine HG.on 10 103 hA0.out ?_
          try simp only [Act.put, List.setIfInBounds_toArray, List.set_cons_zero, List.set_cons_succ]
          refine HG.on 11 104 hA0.out ?_
          try simp only [Act.put, List.setIfInBounds_toArray, List.set_cons_zero, List.set_cons_succ]
          refine HG.on 12 105 hA0.out ?_
          try simp only [Act.put, List.setIfInBounds_toArray, List.set_cons_zero, List.set_cons_succ]
          refine HG.on 13 106 hA0.out ?_
          try simp only [Act.put, List.setIfInBounds_toArray, List.set_cons_zero, List.set_cons_succ]
          refine wpHd_one (i := 14) rfl rfl (by kernel_rfl) (fun KK hK => ?_)
          go_simp
          refine hK.out _ _ (held_of (by exact eX)) (fun hA => ?_)
          clear hK KK hA hA0 f0 f1 f2
          refine wpHd_tail (by kernel_rfl) ?_
          simp only [List.drop_succ_cons, List.drop_zero]
          go_wp2_with (at_builtin; refine wpList_append_own _ rfl _ _ 85 rfl w.heap.size 90 i0 _ 17 176 Tryz.underlying85 hi hz0 hz1 hz2 rfl (by decide) _ _ _ rfl (owns_ext hI2.out.own (by exact eX)) ⟨_, 0, none⟩ 1 1 (ML.cells (mlC xid es.length)) rfl rfl (cells_new _ #[.int .u8 67, .int .u32 xid, .int .u64 0, .int .u32 es.length, .int .u32 0, .int .u32 0, .string ⟨#[]⟩, .int .u8 0, .slice none 0 0, .int .u8 0, .int .u32 0, .int .u32 0, .int .u8 0, .slice none 0 0, .slice none 0 0, .slice none 0 0, .int .u8 0] _) (ML.one _) (by unfold maxLen; omega) (by omega) (by simp; omega) ?_)
          intro v3 w3 hown3 hgrow3 _
          have HI3 := Hm ((hI2.out.go (W' := wp.drew.alloc (.cells #[.int .u8 67, .int .u32 xid, .int .u64 0, .int .u32 es.length, .int .u32 0, .int .u32 0, .string ⟨#[]⟩, .int .u8 0, .slice none 0 0, .int .u8 0, .int .u32 0, .int .u32 0, .int .u8 0, .slice none 0 0, .slice none 0 0, .slice none 0 0, .int .u8 0] 90)) (by exact eX)).said HRC.out hgrow3 hown3)
          rw [← HSA.out] at HI3
          clear hown3 hgrow3
          go_wp2
          go_roundg (ts.length - (k + 1))
          case measure => have := HLT.out; omega
          case rel => exact ⟨k + 1, _, Nat.sub_add_cancel HLT.out, by go_num, HI3⟩
    · obtain rfl : k = ts.length := by omega
      have hz : (sAt LC TT ts.length).1 = storyM LC TT := by
        rw [show ts.length = TT.length by rw [HTT.out, List.length_map]]; exact sAt_end _ _
      have HZ := Hm hz
      clear hz
      go_wp2
      go_ret
      exact ⟨_, _, qs, _, rfl, hI.out, by rw [← HL.out, ← HTT.out]; exact HZ.out⟩
end Go.Proofs.YtdlhaidlokkmnaaGreatDoor
