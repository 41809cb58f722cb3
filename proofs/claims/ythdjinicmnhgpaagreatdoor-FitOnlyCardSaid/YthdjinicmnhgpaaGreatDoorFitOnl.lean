/-
The walk of FitOnly.
-/
import Derived.Test.YthdjinicmnhgpaaGreatDoorFitP2
import Derived.Test.YthdjinicmnhgpaaGreatDoorP18
namespace Go.Proofs.YthdjinicmnhgpaaGreatDoor
open Go.RowKit

set_option maxRecDepth 100000 in set_option maxHeartbeats 8000000 in
theorem fitonly_law (ps : List RR) (a : Option Addr) (cap : Nat) (ts : List TL) (ta : Option Addr) (tc : Nat) (n2 : Int) (w : World) (hT : Tab w) (hN : Non w) (hl : RL w (.slice a ps.length cap) ps) (hb : ∀ p ∈ ps, p.r.wb) (hlen : ps.length ≤ 9223372036854775807) (ht : TS 6 K.rc w (.slice ta ts.length tc) ts) (hnt : ts.length ≤ 9223372036854775807) (hz : ∀ p ∈ ts, p.sz) (hn2 : 0 ≤ n2 ∧ n2 < 256) :
    Calls Tryz.prog 4 #[.slice a ps.length cap, .slice ta ts.length tc, .int .u8 n2] w fun e w' => e = .returned (.bool true) ∧ Ext w w' := by
  have HB := Hid.mk' hb
  have HL := Hid.mk' hl
  have HT := Hid.mk' ht
  have HZ := Hid.mk' hz
  have HTB := Hid.mk' hT
  have HNN := Hid.mk' hN
  have HAW := Hid.mk' (fun W (h : Ext w W) => awake14_any W (hT.ext h) (hN.ext h))
  have HGR := Hid.mk' (greatT_any ps ts a ta cap tc w hl ht hlen hnt hb hz)
  obtain ⟨EA, hEA⟩ : ∃ E, E = ofE (ps.map RR.r) := ⟨_, rfl⟩
  obtain ⟨NA, hNA⟩ : ∃ E, E = ofPl (ps.map RR.r) := ⟨_, rfl⟩
  have HEA := Hid.mk' hEA
  have HNA := Hid.mk' hNA
  clear hl hb ht hz hEA hNA hlen hnt hT hN
  go_enter Tryz.func4, Tryz.ntmps4
  go_upto_region 3 with (go_at_call 6; refine HGR.out.mono ?_; rintro e w2 ⟨g, rfl, hg, hb2⟩; have HG := Hid.mk' hg; have HB2 := Hid.mk' hb2; clear hb2 hg; cases g)
  all_goals try (go_ret; exact ⟨rfl, HB2.out⟩)
  have HLT := Hid.mk' (HG.out (by first | exact rfl | exact trivial))
  have HLA := Hid.mk' (HLT.out.ok)
  have hn70 : ps.length ≤ 1000 := by have := HLT.out.n; omega
  have HOA := Hid.mk' (fun W (h : Ext w W) => own9_any ps a cap W (HL.out.ext h) hn70 HB.out)
  clear HG HGR
  by_cases hA : EA = 0
  case neg =>
    have HNE := Hid.mk' hA
    clear hA
    go_wp2_with (first
      | (go_at_call 8; refine (HOA.out _ HB2.out).mono ?_; rintro e w3 ⟨a2', c2', qs2, rfl, ho2, hb2⟩; have HB3 := Hid.mk' (HB2.out.trans hb2); have HOF := Hid.mk' (cof_any qs2 a2' c2' w3 (by rw [ho2.len]; exact ho2.rl) ho2.cap (ho2.wb HB.out) (by rw [ho2.len]; exact hn70)); rw [ho2.rs, ho2.len] at HOF; unfold COfPost at HOF; rw [← HEA.out, ← HNA.out] at HOF; clear ho2 hb2)
      | (go_at_call 7; refine HOF.out.mono ?_; rintro e w4 ⟨pv, rfl, -, h1, hb3⟩; obtain rfl := h1 HNE.out; have HB4 := Hid.mk' (HB3.out.trans hb3); clear h1 hb3)
      | (go_at_call 19; refine (HAW.out _ HB4.out).mono ?_; rintro e wk ⟨rfl, hbk⟩))
    go_ret
    exact ⟨rfl, HB4.out.trans hbk⟩
  subst hA
  go_upto_region 6 with (first
    | (go_at_call 8; refine (HOA.out _ HB2.out).mono ?_; rintro e w3 ⟨a2', c2', qs2, rfl, ho2, hb2⟩; have HB3 := Hid.mk' (HB2.out.trans hb2); have HOF := Hid.mk' (cof_any qs2 a2' c2' w3 (by rw [ho2.len]; exact ho2.rl) ho2.cap (ho2.wb HB.out) (by rw [ho2.len]; exact hn70)); rw [ho2.rs, ho2.len] at HOF; unfold COfPost at HOF; rw [← HEA.out, ← HNA.out] at HOF; clear ho2 hb2)
    | (go_at_call 7; refine HOF.out.mono ?_; rintro e w4 ⟨pv, rfl, h1, -, hb3⟩; obtain ⟨rfl, cc, qc, hcc, hqc⟩ := h1 (by first | exact rfl | exact trivial); have HCC := Hid.mk' hcc; have HB4 := Hid.mk' (HB3.out.trans hb3); clear h1 hcc hqc hb3))
  have HTX := Hid.mk' (fun W (h : Ext w W) => txs_any ts ta tc W (HT.out.ext h) HLA.out.1 HLA.out.2.1 HLA.out.2.2.1)
  clear HOF HOA HB2
  go_upto_region 7 with (go_at_call 9; refine (HTX.out _ HB4.out).mono ?_; rintro e w5 ⟨a5, c5, qs, rfl, ho5, hb5⟩; have HO5 := Hid.mk' ho5; have HY5 := Hid.mk' hb5; have HB5 := Hid.mk' (HB4.out.trans hb5); clear ho5 hb5)
  have HWK : Hid (∀ t ∈ ts, ∀ e ∈ t.es, e.e.wk) := Hid.mk' (fun t ht e he => by have h := (HZ.out t ht).e e he; exact ⟨h.sb, h.sa, h.old.1⟩)
  have HSM5 := Hid.mk' (HO5.out.sm HLA.out.2.1 HLA.out.2.2.1)
  have HWK5 := Hid.mk' (HO5.out.wk14 HWK.out)
  have hql : qs.length = ts.length := by have h := HO5.out.len; rwa [List.length_map] at h
  have HQS : Hid (TS 5 K.pc w5 (.slice a5 ts.length c5) qs) := Hid.mk' HO5.out.ts
  have HCP : Hid (ts.length ≤ c5) := Hid.mk' (owns_cap HO5.out.own)
  have HQT := Hid.mk' HO5.out.t
  have hlt60 : ts.length ≤ 60 := HLT.out.t
  have HXL : Hid ((usedL (ts.map TL.t)).length ≤ 1000000000) := Hid.mk' (usedL_le HLA.out.1 HLA.out.2.1 HLA.out.2.2.2)
  have HXM : Hid (∀ m, (usedL ((ts.map TL.t).take m)).length ≤ 1000000000) := Hid.mk' (fun m => by
    rw [← List.map_take]
    exact usedL_le (by rw [List.length_take]; have := HLA.out.1; omega) (fun t ht => HLA.out.2.1 t (List.mem_of_mem_take ht)) (fun t ht => HLA.out.2.2.2 t (List.mem_of_mem_take ht)))
  have HCC5 := Hid.mk' (HCC.out.ext HY5.out)
  have HFI := Hid.mk' (fun m (hm : m ≤ ts.length) N g c (q : List RR) W (h : Ext w5 W) (hc : Ca W N g c q) => fitsT_any (qs.take m) a5 c5 N g c q W ⟨by have h2 := Sl.take (HQS.out.row.ext h) (i := m) (by rw [List.length_map]; omega); rw [← List.map_take] at h2; rw [List.length_take, Nat.min_eq_left (by omega)]; exact h2, fun x hx => (HQS.out.sl x (List.mem_of_mem_take hx)).ext h⟩ (by rw [List.length_take]; omega) (fun t ht => HSM5.out.1 t (List.mem_of_mem_take ht)) (fun t ht => HSM5.out.2 t (List.mem_of_mem_take ht)) (fun t ht => HWK5.out t (List.mem_of_mem_take ht)) hc ((HNN.out.ext HB5.out).ext h))
  have HFO := Hid.mk' (fun m (hm : m ≤ ts.length) N g c (q : List RR) W (h : Ext w5 W) (hc : Ca W N g c q) => fonly_any (qs.take m) a5 c5 N g c q W hc ⟨by have h2 := Sl.take (HQS.out.row.ext h) (i := m) (by rw [List.length_map]; omega); rw [← List.map_take] at h2; rw [List.length_take, Nat.min_eq_left (by omega)]; exact h2, fun x hx => (HQS.out.sl x (List.mem_of_mem_take hx)).ext h⟩ (by rw [List.length_take]; omega) (fun t ht => HSM5.out.1 t (List.mem_of_mem_take ht)) (fun t ht => HSM5.out.2 t (List.mem_of_mem_take ht)) (by rw [List.map_take, HQT.out]; exact HXM.out m))
  have HFI2 : Hid (∀ m, m ≤ ts.length → ∀ N g c (q : List RR) W, Ext w5 W → Ca W N g c q → Calls Tryz.prog 14 #[.pointer (some ⟨g, 0, none⟩), .slice a5 m c5] W fun e w' => e = .returned (.bool (decide (ckE ((ts.map TL.t).take m) (q.map RR.r) = 0))) ∧ Ext W w') := Hid.mk' (fun m hm N g c q W h hc => by
    have h1 := HFI.out m hm N g c q W h hc
    rw [List.length_take, Nat.min_eq_left (by omega), List.map_take, HQT.out] at h1
    exact h1)
  have HFO2 : Hid (∀ m, m ≤ ts.length → ∀ N g c (q : List RR) W, Ext w5 W → Ca W N g c q → Calls Tryz.prog 13 #[.pointer (some ⟨g, 0, none⟩), .slice a5 m c5] W fun e w' => e = .returned (.pointer (some ⟨W.heap.size, 0, none⟩)) ∧ (∃ c' qs', Ca w' W.heap.size W.heap.size c' qs' ∧ qs'.map RR.r = (q.map RR.r).filter (ofRefs (usedL ((ts.map TL.t).take m)))) ∧ Ext W w') := Hid.mk' (fun m hm N g c q W h hc => by
    have h1 := HFO.out m hm N g c q W h hc
    rw [List.length_take, Nat.min_eq_left (by omega), List.map_take, HQT.out] at h1
    exact h1)
  obtain ⟨LC, hLC⟩ : ∃ LC, LC = qc.map RR.r := ⟨_, rfl⟩
  have HLC := Hid.mk' hLC
  obtain ⟨X2, hX2⟩ : ∃ X2, X2 = w3.heap.size := ⟨_, rfl⟩
  rw [← hX2] at HCC5 ⊢
  obtain ⟨xs, hxs⟩ : ∃ xs, xs = ts.map TL.t := ⟨_, rfl⟩
  have HXS : Hid (xs.take ts.length = xs) := Hid.mk' (by rw [hxs, ← List.length_map (f := TL.t), List.take_length])
  rw [← hxs] at HFI2 HFO2
  have HF0 := Hid.mk' (fun N g c (q : List RR) W (h : Ext w5 W) (hc : Ca W N g c q) => HFI2.out ts.length (Nat.le_refl _) N g c q W h hc)
  rw [HXS.out] at HF0
  have HO0 := Hid.mk' (fun N g c (q : List RR) W (h : Ext w5 W) (hc : Ca W N g c q) => HFO2.out ts.length (Nat.le_refl _) N g c q W h hc)
  rw [HXS.out] at HO0
  clear hLC hX2 hxs HFI HFO HCC HY5 HB3 HB4 HTX HO5 HQS HQT HXL HXM HSM5 HWK5 HWK HLA HLT HZ HT HL HB HEA HNA hql hn70
  by_cases hck : ckE xs LC = 0
  case neg =>
    have HFN := Hid.mk' (HF0.out _ _ cc qc w5 (Ext.refl _) HCC5.out)
    rw [← HLC.out, decide_eq_false hck] at HFN
    clear hck
    go_wp2_with (first
      | (go_at_call 14; refine HFN.out.mono ?_; rintro e w6 ⟨rfl, hb6⟩; have HB6 := Hid.mk' (HB5.out.trans hb6); clear hb6)
      | (go_at_call 19; refine (HAW.out _ HB6.out).mono ?_; rintro e wk ⟨rfl, hbk⟩))
    go_ret
    exact ⟨rfl, HB6.out.trans hbk⟩
  have HCK := Hid.mk' hck
  clear hck
  have HFN := Hid.mk' (HF0.out _ _ cc qc w5 (Ext.refl _) HCC5.out)
  rw [← HLC.out, decide_eq_true HCK.out] at HFN
  go_upto_region 9 with (go_at_call 14; refine HFN.out.mono ?_; rintro e w6 ⟨rfl, hb6⟩; have HX6 := Hid.mk' hb6; clear hb6)
  have HON := Hid.mk' (HO0.out _ _ cc qc w6 HX6.out (HCC5.out.ext HX6.out))
  rw [← HLC.out] at HON
  go_upto_region 10 with (go_at_call 13; refine HON.out.mono ?_; rintro e w7 ⟨rfl, ⟨c7, q7, hc7, hq7⟩, hb7⟩; have HC7 := Hid.mk' hc7; have HQ7 := Hid.mk' hq7; have HX7 := Hid.mk' (HX6.out.trans hb7); clear hc7 hq7 hb7)
  clear HFN HON
  obtain ⟨Y2, hY2⟩ : ∃ Y2, Y2 = w6.heap.size := ⟨_, rfl⟩
  rw [← hY2] at HC7 ⊢
  clear hY2
  obtain ⟨k, rfl⟩ := Int.eq_ofNat_of_zero_le hn2.1
  have hk256 : k < 256 := by have := hn2.2; omega
  clear hn2
  go_upto_region 11 with (fail)
  have hm : (k : Int) % ((ts.length : Int) + 1) = ((k % (ts.length + 1) : Nat) : Int) := by rw [Int.natCast_emod]; rfl
  have hml : k % (ts.length + 1) ≤ ts.length := Nat.lt_succ_iff.1 (Nat.mod_lt _ (Nat.succ_pos _))
  rw [hm]
  obtain ⟨m, hmm⟩ : ∃ m, m = k % (ts.length + 1) := ⟨_, rfl⟩
  rw [← hmm] at hml ⊢
  clear hm hmm
  have hmc : m ≤ c5 := Nat.le_trans hml HCP.out
  have i1 : (m : Int) ≤ (c5 : Int) := by omega
  have i2 : (0 : Int) ≤ (m : Int) := by omega
  have HFF : Hid (q7.map RR.r = LC.filter (ofRefs (usedL xs))) := Hid.mk' HQ7.out
  have HT1 : Hid (∀ W, Ext w7 W → Calls Tryz.prog 14 #[.pointer (some ⟨Y2, 0, none⟩), .slice a5 ts.length c5] W fun e w' => e = .returned (.bool true) ∧ Ext W w') := Hid.mk' (fun W h => by
    have h1 := HF0.out _ _ c7 q7 W (HX7.out.trans h) (HC7.out.ext h)
    rw [HFF.out, ck_only uses_used, decide_eq_true HCK.out] at h1
    exact h1)
  have HT2 : Hid (∀ W, Ext w7 W → Calls Tryz.prog 14 #[.pointer (some ⟨X2, 0, none⟩), .slice a5 m c5] W fun e w' => e = .returned (.bool true) ∧ Ext W w') := Hid.mk' (fun W h => by
    have h1 := HFI2.out m hml _ _ cc qc W (HX7.out.trans h) (HCC5.out.ext (HX7.out.trans h))
    rw [← HLC.out, decide_eq_true (ck_take m HCK.out)] at h1
    exact h1)
  have HT3 : Hid (∀ W, Ext w7 W → Calls Tryz.prog 14 #[.pointer (some ⟨Y2, 0, none⟩), .slice a5 m c5] W fun e w' => e = .returned (.bool true) ∧ Ext W w') := Hid.mk' (fun W h => by
    have h1 := HFI2.out m hml _ _ c7 q7 W (HX7.out.trans h) (HC7.out.ext h)
    rw [HFF.out, ck_only (fun x hx => uses_used x (uses_take m x hx)), decide_eq_true (ck_take m HCK.out)] at h1
    exact h1)
  go_upto_region 13 with (first
    | (go_at_call_of 14 (Value.pointer (some ⟨X2, 0, none⟩)); refine (HT2.out _ HE8.out).mono ?_; rintro e w9 ⟨rfl, hb9⟩; have HE9 := Hid.mk' (HE8.out.trans hb9); clear hb9)
    | (go_at_call_of 14 (Value.slice a5 ts.length c5); refine (HT1.out _ (Ext.refl _)).mono ?_; rintro e w8 ⟨rfl, hb8⟩; have HE8 := Hid.mk' hb8; clear hb8)
    | (go_at_call 14; refine (HT3.out _ HE9.out).mono ?_; rintro e w10 ⟨rfl, hb10⟩; have HE10 := Hid.mk' (HE9.out.trans hb10); clear hb10))
  clear HT1 HT2 HT3
  have HP1 := Hid.mk' (fun W (h : Ext w10 W) => HO0.out _ _ c7 q7 W (HX7.out.trans (HE10.out.trans h)) (HC7.out.ext (HE10.out.trans h)))
  have HP2 := Hid.mk' (fun W (h : Ext w10 W) => HFO2.out m hml _ _ c7 q7 W (HX7.out.trans (HE10.out.trans h)) (HC7.out.ext (HE10.out.trans h)))
  go_region_held3 (fun w' => Ext (w10) w' ∧ (∀ b o, b < (w10).heap.size → w'.cell? ⟨b, o, none⟩ = (w10).cell? ⟨b, o, none⟩) ∧ (∀ b o, b < (w10).heap.size → w'.frozen? ⟨b, o, none⟩ = (w10).frozen? ⟨b, o, none⟩)) ((exact held_of (by (repeat (with_reducible (first | exact Ext.refl _ | assumption | exact held_left (by assumption) | apply Ext.drewN | apply Ext.drew | apply Ext.alloc | (refine Ext.setCell ?_ (by first | (simp; done) | (simp; omega) | omega) _) | (refine Ext.trans ?_ (by assumption)) | (refine Ext.trans ?_ (held_left (by assumption))))))))) (first
    | (go_at_call_of 13 (Value.slice a5 ts.length c5); refine (HP1.out _ (by (repeat (with_reducible (first | exact Ext.refl _ | assumption | exact held_left (by assumption) | apply Ext.drewN | apply Ext.drew | apply Ext.alloc | (refine Ext.setCell ?_ (by first | (simp; done) | (simp; omega) | omega) _) | (refine Ext.trans ?_ (by assumption)) | (refine Ext.trans ?_ (held_left (by assumption)))))))).mono ?_; rintro e w11 ⟨rfl, ⟨c11, q11, hc11, hq11⟩, hb11⟩; have HC11 := Hid.mk' hc11; have HQ11 := Hid.mk' hq11; clear hc11 hq11)
    | (go_at_call 13; refine (HP2.out _ (by (repeat (with_reducible (first | exact Ext.refl _ | assumption | exact held_left (by assumption) | apply Ext.drewN | apply Ext.drew | apply Ext.alloc | (refine Ext.setCell ?_ (by first | (simp; done) | (simp; omega) | omega) _) | (refine Ext.trans ?_ (by assumption)) | (refine Ext.trans ?_ (held_left (by assumption)))))))).mono ?_; rintro e w12 ⟨rfl, ⟨c12, q12, hc12, hq12⟩, hb12⟩; have HC12 := Hid.mk' hc12; have HQ12 := Hid.mk' hq12; have HE12 := Hid.mk' (show Ext w11 w12 from by (repeat (with_reducible (first | exact Ext.refl _ | assumption | exact held_left (by assumption) | apply Ext.drewN | apply Ext.drew | apply Ext.alloc | (refine Ext.setCell ?_ (by first | (simp; done) | (simp; omega) | omega) _) | (refine Ext.trans ?_ (by assumption)) | (refine Ext.trans ?_ (held_left (by assumption))))))); have HEZ := Hid.mk' (show Ext w10 w12 from by (repeat (with_reducible (first | exact Ext.refl _ | assumption | exact held_left (by assumption) | apply Ext.drewN | apply Ext.drew | apply Ext.alloc | (refine Ext.setCell ?_ (by first | (simp; done) | (simp; omega) | omega) _) | (refine Ext.trans ?_ (by assumption)) | (refine Ext.trans ?_ (held_left (by assumption))))))); clear hc12 hq12))
  have HSM := Hid.mk' (csame_any _ _ _ _ c11 c7 q11 q7 w12 (HC11.out.ext HE12.out) (HC7.out.ext (HE10.out.trans HEZ.out)))
  rw [HQ11.out, HFF.out, only_only, rlsB_true.2 rfl] at HSM
  have HL1 := Hid.mk' (fun W (h : Ext w12 W) => len_any _ _ c12 q12 W (HC12.out.ext h))
  have HL2 := Hid.mk' (fun W (h : Ext w12 W) => len_any _ _ c7 q7 W (HC7.out.ext (HE10.out.trans (HEZ.out.trans h))))
  have hle : q12.length ≤ q7.length := by
    have h1 := congrArg List.length HQ12.out
    rw [List.length_map] at h1
    have h2 := List.length_filter_le (ofRefs (usedL (xs.take m))) (q7.map RR.r)
    rw [List.length_map] at h2
    omega
  have hle2 : (q12.length : Int) ≤ (q7.length : Int) := by omega
  have HZ := Hid.mk' (show Ext w w12 from HB5.out.trans (HX7.out.trans (HE10.out.trans HEZ.out)))
  clear hb11 hb12 HP1 HP2 HO0 HFO2 HF0 HFI2
  go_wp2_with (first
    | (go_at_call 20; refine HSM.out.mono ?_; rintro e w13 ⟨rfl, hb13⟩; have HE13 := Hid.mk' hb13; clear hb13)
    | (go_at_call_of 21 (Value.pointer (some ⟨Y2, 0, none⟩)); refine (HL2.out _ HE14.out).mono ?_; rintro e w15 ⟨rfl, hb15⟩; have HE15 := Hid.mk' (HE14.out.trans hb15); clear hb15)
    | (go_at_call 21; refine (HL1.out _ HE13.out).mono ?_; rintro e w14 ⟨rfl, hb14⟩; have HE14 := Hid.mk' (HE13.out.trans hb14); clear hb14)
    | (go_at_call 19; refine (HAW.out _ (HZ.out.trans HE15.out)).mono ?_; rintro e wk ⟨rfl, hbk⟩))
  go_ret
  exact ⟨rfl, HZ.out.trans (HE15.out.trans hbk)⟩

end Go.Proofs.YthdjinicmnhgpaaGreatDoor
