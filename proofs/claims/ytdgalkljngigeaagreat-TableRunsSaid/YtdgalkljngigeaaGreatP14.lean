/-
A head whose condition grows behind a call; an operation with a guard that is on; two that may come up.
-/
import Derived.Test.YtdgalkljngigeaaGreatP13
namespace Go.Proofs.YtdgalkljngigeaaGreat
open Go.RowKit

section
variable {P : Program} {ops : Array Oper} {Q : Exit → Act → World → Prop} {md : Region.Mode} {S S' : World → Prop}

/-- What is shown under a condition that says more is shown under one that says less. -/
theorem wpHd_str {n : Nat} (hS : ∀ w, S' w → S w) : ∀ (f : Nat) (listed : Array Bool) (a : Act) (w : World), wpHd P md ops Q S' n f listed a w → wpHd P md ops Q S n f listed a w
  | 0, _, _, _, h => h
  | f + 1, _, _, _, ⟨h0, h⟩ => ⟨h0, fun i hi => ⟨(h i hi).1, wpOp_mono (fun _ _ h' => ⟨hS _ h'.1, wpHd_str hS f _ _ _ h'.2⟩) (h i hi).2⟩⟩

/-- Number 'i' alone may come up, its guard is on. -/
theorem wpHd_oneG {n i : Nat} {o : Oper} {f : Nat} {listed : Array Bool} {a : Act} {w : World} (hi : ops[i]? = some o) (hg : Region.wanted o (yielded ops a.tmps) = true)
    (hr : (decide (Region.ready md ops listed = [i]) && decide (i < n)) = true)
    (h : ∀ K : Act → World → Prop, Hid (∀ a' w', S w' → (S w' → wpHd P md ops Q S n f (listed.setIfInBounds i true) a' w') → K a' w') → o.wp P a w K Q) : wpHd P md ops Q S n (f + 1) listed a w := by
  simp only [Bool.and_eq_true, decide_eq_true_eq] at hr
  refine ⟨by rw [hr.1]; simp, fun j hj => ?_⟩
  rw [hr.1] at hj
  have hji : j = i := by simpa using hj
  subst hji
  refine ⟨hr.2, ?_⟩
  unfold wpOp
  simp only [hi]
  rw [if_pos hg]
  exact .inl (h _ (fun a' w' hs hk => ⟨hs, hk hs⟩))

/-- Numbers 'i' and 'j' may come up. -/
theorem wpHd_two {n i j : Nat} {o o2 : Oper} {f : Nat} {listed : Array Bool} {a : Act} {w : World} (hi : ops[i]? = some o) (hg : o.guard = none) (hj : ops[j]? = some o2) (hg2 : o2.guard = none)
    (hr : (decide (Region.ready md ops listed = [i, j]) && (decide (i < n) && decide (j < n))) = true)
    (h : ∀ K : Act → World → Prop, Hid (∀ a' w', S w' → (S w' → wpHd P md ops Q S n f (listed.setIfInBounds i true) a' w') → K a' w') → o.wp P a w K Q)
    (h2 : ∀ K : Act → World → Prop, Hid (∀ a' w', S w' → (S w' → wpHd P md ops Q S n f (listed.setIfInBounds j true) a' w') → K a' w') → o2.wp P a w K Q) : wpHd P md ops Q S n (f + 1) listed a w := by
  simp only [Bool.and_eq_true, decide_eq_true_eq] at hr
  refine ⟨by rw [hr.1]; simp, fun k hk => ?_⟩
  rw [hr.1] at hk
  simp only [List.mem_cons, List.not_mem_nil, or_false] at hk
  rcases hk with rfl | rfl
  · refine ⟨hr.2.1, ?_⟩
    unfold wpOp
    simp only [hi]
    rw [if_pos (by simp [Region.wanted, hg])]
    exact .inl (h _ (fun a' w' hs hk => ⟨hs, hk hs⟩))
  · refine ⟨hr.2.2, ?_⟩
    unfold wpOp
    simp only [hj]
    rw [if_pos (by simp [Region.wanted, hg2])]
    exact .inl (h2 _ (fun a' w' hs hk => ⟨hs, hk hs⟩))
end

theorem HG.wpHd_takeD {P : Program} {ops : Array Oper} {Q : Exit → Act → World → Prop} {md : Region.Mode} {S : World → Prop} {n i : Nat} {oi : Oper} {d : Option Tmp} {v : Value} {f : Nat} {listed : Array Bool} {a : Act} {w : World} (hi : ops[i]? = some oi) (hd : oi.dst = d)
    (hB : headB md ops n listed = true) (hf : Region.free md ops listed i = true) (hr : ((Region.ready md ops listed).contains i && decide (i < n)) = true)
    (hQ : ∀ c a w, Q (.panic c) (a.put d v) w → Q (.panic c) a w) (hy : YieldsIf P ops S oi v a) (hS : S w)
    (h : wpHd P md ops Q S n f (listed.setIfInBounds i true) (a.put d v) w) : wpHd P md ops Q S n (f + 1) listed a w := by
  subst hd
  exact wpHd_take hi hB hf hr hQ hy hS h

end Go.Proofs.YtdgalkljngigeaaGreat

/-
A transaction's events are done: the program's Apply.
-/
namespace Go.Proofs.YtdgalkljngigeaaGreat
open Go.RowKit Go.Maps

theorem Blk.fiveT {W : World} {b : Nat} {u0 u1 u2 u3 u4 v0 v1 v2 v3 v4 : Value} {T : TypeId} (h : Blk W b #[u0, u1, u2, u3, u4] T) :
    Blk (((((W.setCell ⟨b, 0, none⟩ v0).setCell ⟨b, 1, none⟩ v1).setCell ⟨b, 2, none⟩ v2).setCell ⟨b, 3, none⟩ v3).setCell ⟨b, 4, none⟩ v4) b #[v0, v1, v2, v3, v4] T := ((((h.set 0 _).set 1 _).set 2 _).set 3 _).set 4 _
def ApPost (N g : Nat) (ps : List RR) (T : Tb) (t : Tx) (w : World) (e : Ending) (w' : World) : Prop :=
  e = .returned (.tuple #[.int .i64 (apP (ps.map RR.r) T t), .int .i64 (apE (ps.map RR.r) T t)]) ∧ Bs w' N g ps (apT (ps.map RR.r) T t) ∧ Kp (fun x => x = g) w w'
theorem ApPost.same {N g : Nat} {ps : List RR} {T : Tb} {t : Tx} {w w' : World} {P E : Int} (h : apE (ps.map RR.r) T t = E ∧ apP (ps.map RR.r) T t = P ∧ apT (ps.map RR.r) T t = T) (hb : Bs w N g ps T) (he : Ext w w') : ApPost N g ps T t w (.returned (.tuple #[.int .i64 P, .int .i64 E])) w' := by
  obtain ⟨h1, h2, h3⟩ := h
  exact ⟨by rw [h1, h2], by rw [h3]; exact hb.ext he, Kp.of_ext he⟩
theorem hasR_b32 {ps : List RR} (hB : ∀ p ∈ ps, B32 p.r.oid ∧ B32 p.r.ver) {o v : Int} (h : hasR o v (ps.map RR.r) = true) : B32 o ∧ B32 v := by
  unfold hasR at h
  obtain ⟨x, hx, h1⟩ := List.any_eq_true.1 h
  obtain ⟨p, hp, rfl⟩ := List.mem_map.1 hx
  have h2 : p.r.oid = o ∧ p.r.ver = v := of_decide_eq_true h1
  have h3 := hB p hp
  rw [h2.1, h2.2] at h3
  exact h3
theorem rt_zero {t : Tx} {l : List Rl} (h : rtE t l = 0) : t.es.length ≤ 512 ∧ ∀ j (hj : j < t.es.length), evE t.es[j] l = 0 := by
  unfold rtE at h
  split at h
  · cases h
  · split at h
    · cases h
    · refine ⟨by omega, fun j hj => ?_⟩
      have h2 := firstE_all h j hj
      unfold evAt at h2
      rwa [dif_pos hj] at h2
theorem ev_kind {e : Ev} {l : List Rl} (h : evE e l = 0) : 4 ≤ e.kind ∧ e.kind ≤ 7 := by
  unfold evE at h
  split at h
  · cases h
  · omega
theorem ev_refs {e : Ev} {l : List Rl} (h : evE e l = 0) (h7 : e.kind = 7) : ∀ x ∈ e.rs, hasR x.o x.v l = true := by
  unfold evE at h
  split at h
  · cases h
  · split at h
    · cases h
    · unfold truncE at h
      split at h
      · cases h
      · split at h
        · cases h
        · split at h
          · cases h
          · rename_i h3
            have h4 : hasAll e.rs l = true := by simpa using h3
            unfold hasAll at h4
            exact fun x hx => List.all_eq_true.1 h4 x hx
theorem ev_rel {e : Ev} {l : List Rl} (h : evE e l = 0) (h7 : e.kind ≠ 7) : ∃ r, getR e.ao e.av l = some r := by
  unfold evE at h
  split at h
  · cases h
  · split at h
    · cases h
    · split at h
      · cases h
      · rename_i r hr; exact ⟨r, hr⟩
theorem clrT_zero (T : Tb) : clrT T [] = T := by funext a b; rfl
theorem clrT_succ (T : Tb) (rs : List Rf) {j : Nat} (h : j < rs.length) : clrT T (rs.take (j + 1)) = (clrT T (rs.take j)).put rs[j].o rs[j].v [] := by
  funext a b
  unfold clrT Tb.put rfIn
  rw [List.take_succ_eq_append_getElem h, List.any_append]
  simp only [List.any_cons, List.any_nil, Bool.or_false]
  by_cases e : a = rs[j].o ∧ b = rs[j].v
  · rw [if_pos e]
    obtain ⟨rfl, rfl⟩ := e
    simp
  · rw [if_neg e]
    have : decide (rs[j].o = a ∧ rs[j].v = b) = false := decide_eq_false (fun q => e ⟨q.1.symm, q.2.symm⟩)
    rw [this, Bool.or_false]

set_option maxRecDepth 100000 in set_option maxHeartbeats 8000000 in
theorem apply_any (t : TL) (N g n : Nat) (ps : List RR) (T : Tb) (w : World) (hb : Bs w N g ps T) (hB : ∀ p ∈ ps, B32 p.r.oid ∧ B32 p.r.ver) (hT : TbOk T n) (ht : t.at 5 K.pc w) (hn : n + t.es.length ≤ 1000) (hs : ∀ e ∈ t.es, e.e.small) (hwk : ∀ e ∈ t.es, e.e.wk) :
    Calls Tryz.prog 12 #[.pointer (some ⟨g, 0, none⟩), t.agg] w (ApPost N g ps T t.t w) := by
  have HBS := Hid.mk' hb
  have HB := Hid.mk' hB
  obtain ⟨cat, cv, m, hat, hca, hmp⟩ := hb
  have HAT := Hid.mk' hat
  have HTR := Hid.mk' (fun W (he : Ext w W) => txright_any t N cat cv ps W (ht.ext he) (by omega) hs hwk (hca.ext he))
  have HCM := Hid.mk' (fun W (he : Ext w W) => tclone_any m (ps.map RR.r) T W (hmp.ext he))
  have HGET := Hid.mk' (fun o v r (hg : getR o v (ps.map RR.r) = some r) W (he : Ext w W) => cget_is (hca.ext he) hg)
  have HC16 := Hid.mk' (fun o v r (hg : getR o v (ps.map RR.r) = some r) => show r.cols.length ≤ 1000 by
    obtain ⟨p, hp, rfl⟩ := List.mem_map.1 (getR_some hg).1
    have := hca.n16 hp; omega)
  have HES := Hid.mk' ht
  have HSM := Hid.mk' hs
  have HTB := Hid.mk' (fun k (hk : k ≤ t.es.length) => (hT.st (ps.map RR.r) (es := t.es.map EL.e) (fun e he => by
    obtain ⟨x, hx, rfl⟩ := List.mem_map.1 he
    exact (hs x hx).a) k).mono (show n + k ≤ 1000 by omega))
  have HWR := Hid.mk' (fun h => ap_wrong (ps := ps.map RR.r) (T := T) (t := t.t) h)
  have HBD := Hid.mk' (fun k h0 hz hk hne => ap_bad (ps := ps.map RR.r) (T := T) (t := t.t) (k := k) h0 hz hk hne)
  have HGD := Hid.mk' (fun h0 hz => ap_good (ps := ps.map RR.r) (T := T) (t := t.t) h0 hz)
  have HRZ : Hid (rtE t.t (ps.map RR.r) = 0 → ∀ j (hj : j < t.es.length), evE t.es[j].e (ps.map RR.r) = 0) := Hid.mk' (fun h j hj => by
    have h1 := (rt_zero h).2 j (by unfold TL.t; simpa using hj)
    simpa [TL.t] using h1)
  clear hB hat hca hmp hT ht hs hwk
  obtain ⟨xid, st, es, ta, tc⟩ := t
  unfold TL.agg at HTR ⊢
  unfold TL.at at HES
  unfold TL.t at HTR HWR HBD HGD HRZ ⊢
  simp only at HTR HES HSM HTB HWR HBD HGD HRZ hn ⊢
  rw [List.length_map] at HBD HGD
  have c0 := HAT.out.cell0
  have c1 := HAT.out.cell1
  have cz : g < w.heap.size := HBS.out.lt
  generalize rtE ⟨xid, st, es.map EL.e⟩ (ps.map RR.r) = E at HTR HWR HBD HGD HRZ
  generalize rtP ⟨xid, st, es.map EL.e⟩ (ps.map RR.r) = P at HTR HWR
  by_cases hE : E = 0
  case neg =>
    have hE1 : (E != 0) = true := by simpa using hE
    have HW2 := Hid.mk' (HWR.out hE)
    clear HWR HBD HGD HRZ hE HGET HC16 HCM HES HSM HTB
    go_enter Tryz.func12, Tryz.ntmps12
    go_wp2
    go_region_held3 (fun w' => Ext (w.alloc (.cells #[.int .u32 xid, .int .u64 st, .slice ta es.length tc] 34)) w' ∧ (∀ b o, b < (w.alloc (.cells #[.int .u32 xid, .int .u64 st, .slice ta es.length tc] 34)).heap.size → w'.cell? ⟨b, o, none⟩ = (w.alloc (.cells #[.int .u32 xid, .int .u64 st, .slice ta es.length tc] 34)).cell? ⟨b, o, none⟩) ∧ (∀ b o, b < (w.alloc (.cells #[.int .u32 xid, .int .u64 st, .slice ta es.length tc] 34)).heap.size → w'.frozen? ⟨b, o, none⟩ = (w.alloc (.cells #[.int .u32 xid, .int .u64 st, .slice ta es.length tc] 34)).frozen? ⟨b, o, none⟩)) ((exact held_of (by exact eX))) (first | (go_at_call 38; refine (HTR.out _ (by exact eX)).mono ?_; rintro e w2 ⟨rfl, hb2⟩; have hE_w2 : Ext (w.alloc (.cells #[.int .u32 xid, .int .u64 st, .slice ta es.length tc] 34)) w2 := (by exact eX); obtain ⟨hc_w2, hf_w2⟩ := hE_w2.cells; have hz_w2 := hE_w2.size))
    go_wp2
    go_ret2
    exact ApPost.same HW2.out HBS.out (by exact eX)
  subst hE
  have HRZ2 := Hid.mk' (HRZ.out rfl)
  have HBD2 := Hid.mk' (fun k hz hk hne => HBD.out k rfl hz hk hne)
  have HGD2 := Hid.mk' (HGD.out rfl)
  clear HWR HBD HGD HRZ
  go_enter Tryz.func12, Tryz.ntmps12
  go_wp2
  go_region_held3 (fun w' => Ext (w.alloc (.cells #[.int .u32 xid, .int .u64 st, .slice ta es.length tc] 34)) w' ∧ (∀ b o, b < (w.alloc (.cells #[.int .u32 xid, .int .u64 st, .slice ta es.length tc] 34)).heap.size → w'.cell? ⟨b, o, none⟩ = (w.alloc (.cells #[.int .u32 xid, .int .u64 st, .slice ta es.length tc] 34)).cell? ⟨b, o, none⟩) ∧ (∀ b o, b < (w.alloc (.cells #[.int .u32 xid, .int .u64 st, .slice ta es.length tc] 34)).heap.size → w'.frozen? ⟨b, o, none⟩ = (w.alloc (.cells #[.int .u32 xid, .int .u64 st, .slice ta es.length tc] 34)).frozen? ⟨b, o, none⟩)) ((exact held_of (by exact eX))) (first | (go_at_call 38; refine (HTR.out _ (by exact eX)).mono ?_; rintro e w2 ⟨rfl, hb2⟩; have hE_w2 : Ext (w.alloc (.cells #[.int .u32 xid, .int .u64 st, .slice ta es.length tc] 34)) w2 := (by exact eX); obtain ⟨hc_w2, hf_w2⟩ := hE_w2.cells; have hz_w2 := hE_w2.size))
  have HE2 := Hid.mk' (show Ext w w2 by exact eX)
  have HX2 := Hid.mk' ((Blk.new w #[.int .u32 xid, .int .u64 st, .slice ta es.length tc] 34).ext hE_w2)
  go_wp2_with (go_at_call 39; refine (HCM.out _ HE2.out).mono ?_; rintro e w3 ⟨rfl, hm3, hb3⟩; have HM3 := Hid.mk' hm3; have HE3 := Hid.mk' (HE2.out.trans hb3); have gx := (HX2.out.ext hb3).cell; have zx := (HX2.out.ext hb3).lt; clear hm3 hb3)
  have hMw : w.heap.size < w2.heap.size := HX2.out.lt
  obtain ⟨M, hM⟩ : ∃ M, M = w2.heap.size := ⟨_, rfl⟩
  rw [← hM] at HM3 hMw ⊢
  have HMW := Hid.mk' hMw
  obtain ⟨rs, hrs⟩ : ∃ rs, rs = ps.map RR.r := ⟨_, rfl⟩
  have HRS := Hid.mk' hrs
  rw [← hrs] at HM3 HGET HC16 HTB HRZ2 HBD2 HGD2
  have HHB := Hid.mk' (fun o v (h : hasR o v rs = true) => hasR_b32 HB.out (o := o) (v := v) (by rw [← hrs]; exact h))
  clear hM hrs HCM HTR HX2 gx zx HE2 hE_w2 hc_w2 hf_w2 hz_w2 hb2 hMw HB
  go_loopg [38] es.length (fun z i wr => ∃ k : Nat, z + k = es.length ∧ i = .int .i64 k ∧ Hid (MapT wr M rs (stT rs T (es.map EL.e) k)) ∧ Hid (∀ j, j < k → evXat rs T (es.map EL.e) j = 0) ∧ Hid (Ext w wr))
  case atStart => exact ⟨0, by omega, rfl, HM3, Hid.mk' (fun j h => by omega), HE3⟩
  case round =>
    obtain ⟨k, hzk, rfl, hmp, hz, hE⟩ := hrel
    by_cases hlt : k < es.length
    · obtain ⟨b, o, rfl, hb, hx⟩ := HES.out.row.at_ (i := k) (by simpa using hlt)
      obtain ⟨f0, f1, f2, f3, f4, f5, f6, f7⟩ := EL.at_ hlt hx hb hE.out
      have hbw : b < wr.heap.size := Nat.lt_of_lt_of_le hb hE.out.size
      have hlm : k < (es.map EL.e).length := by simpa using hlt
      have HST := Hid.mk' (stT_succ (ps := rs) (T := T) hlm)
      have HXT := Hid.mk' (evXat_at (ps := rs) (T := T) hlm)
      rw [List.getElem_map] at HST HXT
      have HR0 := Hid.mk' (HRZ2.out k hlt)
      have HXL := Hid.mk' (fun W (h : Ext w W) => (HES.out.sl _ (List.getElem_mem hlt)).ext h)
      have HXS := Hid.mk' (HSM.out _ (List.getElem_mem hlt))
      have HTK := Hid.mk' (HTB.out k (by omega))
      generalize stT rs T (es.map EL.e) k = Tk at hmp HST HXT HTK
      obtain ⟨x, hxe⟩ : ∃ x, x = es[k] := ⟨_, rfl⟩
      rw [← hxe] at f0 f1 f2 f3 f4 f5 f6 f7 HST HXT HR0 HXL HXS
      have HLT := Hid.mk' hlt
      obtain ⟨⟨k1, ao1, av1, old1, b1, a1, r1, fl1⟩, ba1, bc1, aa1, ac1, ra1, rc1⟩ := x
      simp only at f0 f1 f2 f3 f4 f5 f6 f7 HST HXT HR0
      clear hxe hx hb hlm
      by_cases h7 : k1 = 7
      · subst h7
        have HRF := Hid.mk' (fun x hx => ev_refs HR0.out rfl x hx)
        have HST2 := Hid.mk' (HST.out.trans (show evT rs Tk _ = clrT Tk r1 from if_pos rfl))
        have HXT2 := Hid.mk' (HXT.out.trans (show evX rs Tk _ = 0 from if_pos rfl))
        have HSR := Hid.mk' (fun W (h : Ext w W) => (HXL.out W h).r)
        have HRN := Hid.mk' HXS.out.r
        simp only at HRF HSR HRN
        clear HST HXT HR0 HXL HXS HTK HGET HC16
        go_wp2
        go_loopg [49] r1.length (fun z i wq => ∃ j : Nat, z + j = r1.length ∧ i = .int .i64 j ∧ Hid (MapT wq M rs (clrT Tk (r1.take j))) ∧ Hid (Ext w wq))
        case atStart => exact ⟨0, by omega, rfl, Hid.mk' (by rw [List.take_zero, clrT_zero]; exact hmp.out.ext ((Ext.refl wr).alloc _)), Hid.mk' (hE.out.alloc _)⟩
        case round =>
          obtain ⟨j, hzj, rfl, hmq, hEq⟩ := hrel
          by_cases hj : j < r1.length
          · obtain ⟨b2, o2, rfl, hb2, hx2⟩ := (HSR.out wr hEq.out).at_ (i := j) (by simpa using hj)
            obtain ⟨g0, g1⟩ := Rf.at_ hj hx2 hb2 (Ext.refl wr)
            have HCS := Hid.mk' (clrT_succ Tk r1 hj)
            have HIN := Hid.mk' (HRF.out _ (List.getElem_mem hj))
            obtain ⟨q, hq⟩ : ∃ q, q = r1[j] := ⟨_, rfl⟩
            have HJ := Hid.mk' hj
            rw [← hq] at g0 g1 HCS HIN
            obtain ⟨ho, hv⟩ := HHB.out _ _ HIN.out
            obtain ⟨D, hown, hle, hput⟩ := (hmq.out.ext ((Ext.refl wr).alloc (.cells #[.int .u32 q.o, .int .u32 q.v] 68))).stored
            have HPUT := Hid.mk' (fun W' h1 h2 => hput W' q.o q.v (.slice none 0 0) [] ho hv HIN.out h1 h2 (RwA.nil _))
            clear hq hx2 hput
            go_wp2_with (at_mapUpdate; refine wpList_mapUpdate_own _ rfl _ _ _ 91 rfl 68 66 Tryz.lawRef Tryz.underlying91 RV M (Maps.size D) D rfl hown (by unfold maxLen; omega) _ _ _ rfl rfl (keyRef ho hv) _ [] rfl ?_)
            intro w4 hown4 hgrow4
            have HM4 := Hid.mk' (HPUT.out w4 hown4 hgrow4)
            have HE4 := Hid.mk' (Ext.map (hEq.out.alloc _) hgrow4 (Nat.le_of_lt HMW.out))
            clear hown4 hgrow4 hown hle HPUT
            have hjr : j < r1.length := HJ.out
            have hrn : r1.length ≤ 1000 := HRN.out
            go_wp2
            go_roundg (r1.length - (j + 1))
            case measure => have := HJ.out; omega
            case rel => exact ⟨j + 1, by have := HJ.out; omega, by go_num, Hid.mk' (by rw [HCS.out]; exact HM4.out), HE4⟩
          · obtain rfl : j = r1.length := by omega
            rw [List.take_length] at hmq
            go_wp2
            go_roundg (es.length - (k + 1))
            case measure => have := HLT.out; omega
            case rel => exact ⟨k + 1, by have := HLT.out; omega, by go_num, Hid.mk' (by rw [HST2.out]; exact hmq.out), Hid.mk' (fun j hj => by
              by_cases e : j = k
              · subst e; exact HXT2.out
              · exact hz.out j (by omega)), hEq⟩
      · have h7' : (k1 == 7) = false := by simpa using h7
        obtain ⟨r, hr⟩ := ev_rel HR0.out h7
        have hin : hasR ao1 av1 rs = true := by
          cases hh : hasR ao1 av1 rs with
          | true => rfl
          | false => rw [getR_none.2 hh] at hr; cases hr
        have HIN := Hid.mk' hin
        obtain ⟨ho, hv⟩ := HHB.out _ _ hin
        have HST2 := Hid.mk' (HST.out.trans (show evT rs Tk _ = Tk.put ao1 av1 (rowsL r.cols (Tk ao1 av1) ⟨k1, ao1, av1, old1, b1, a1, r1, fl1⟩) from by unfold evT; rw [if_neg h7]; simp only [hr]))
        have HXT2 := Hid.mk' (HXT.out.trans (show evX rs Tk _ = rowsE r.cols (Tk ao1 av1) ⟨k1, ao1, av1, old1, b1, a1, r1, fl1⟩ from by unfold evX; rw [if_neg h7]; simp only [hr]))
        have HGT := Hid.mk' (fun W h => HGET.out _ _ r hr W h)
        have HC := Hid.mk' (HC16.out _ _ r hr)
        have HBN := Hid.mk' (fun hne => HBD2.out k hz.out hlt hne)
        clear HST HXT hr hin h7 HGET HC16 HHB HRZ2 HBD2
        obtain ⟨oid, ver, nm, id, cols⟩ := r
        simp only at HGT HC HST2 HXT2
        have l0 := (HAT.out.ext hE.out).cell0
        have l1 := (HAT.out.ext hE.out).cell1
        have lz : g < wr.heap.size := Nat.lt_of_lt_of_le cz hE.out.size
        go_upto_region 14 with (fail)
        obtain ⟨we, hwe⟩ : ∃ we, we = wr.alloc (.cells #[.int .u8 k1, .int .u32 ao1, .int .u32 av1, .int .u8 old1, .slice ba1 b1.length bc1, .slice aa1 a1.length ac1, .slice ra1 r1.length rc1, .int .u8 fl1] 103) := ⟨_, rfl⟩
        have HWE := Hid.mk' (show Ext wr we by rw [hwe]; exact (Ext.refl wr).alloc _)
        have HXE := Hid.mk' (show Blk we wr.heap.size #[.int .u8 k1, .int .u32 ao1, .int .u32 av1, .int .u8 old1, .slice ba1 b1.length bc1, .slice aa1 a1.length ac1, .slice ra1 r1.length rc1, .int .u8 fl1] 103 by rw [hwe]; exact Blk.new _ _ _)
        rw [← hwe]
        clear hwe f0 f1 f2 f3 f4 f5 f6 f7 hbw
        have gx := HXE.out.cell
        have zx := HXE.out.lt
        have l0 := (HAT.out.ext (hE.out.trans HWE.out)).cell0
        have l1 := (HAT.out.ext (hE.out.trans HWE.out)).cell1
        have lz : g < we.heap.size := Nat.lt_of_lt_of_le cz (hE.out.trans HWE.out).size
        go_cut [13, 14] (fun p i wx => ∃ X a2 c2, p = .pointer (some ⟨X, 0, none⟩) ∧ i = .bool true ∧ Hid (Blk wx X #[.int .u32 oid, .int .u32 ver, .string nm, .int .u8 id, .slice a2 cols.length c2] 99) ∧ Hid (Sl wx (.slice a2 cols.length c2) 3 (cols.map Col.cells)) ∧ Hid (Ext we wx))
        case first =>
          have hA0 : Hid ((fun w' => Ext (we) w' ∧ (∀ b o, b < (we).heap.size → w'.cell? ⟨b, o, none⟩ = (we).cell? ⟨b, o, none⟩) ∧ (∀ b o, b < (we).heap.size → w'.frozen? ⟨b, o, none⟩ = (we).frozen? ⟨b, o, none⟩)) we.drew) := held_of (by exact eX)
          refine wp_region_head 12 (fun w' => Ext (we) w' ∧ (∀ b o, b < (we).heap.size → w'.cell? ⟨b, o, none⟩ = (we).cell? ⟨b, o, none⟩) ∧ (∀ b o, b < (we).heap.size → w'.frozen? ⟨b, o, none⟩ = (we).frozen? ⟨b, o, none⟩)) (by kernel_rfl) (by decide) ?_
          refine HG.on 0 57 hA0.out ?_
          try simp only [Act.put, List.setIfInBounds_toArray, List.set_cons_zero, List.set_cons_succ]
          refine HG.on 1 58 hA0.out ?_
          try simp only [Act.put, List.setIfInBounds_toArray, List.set_cons_zero, List.set_cons_succ]
          refine HG.on 2 59 hA0.out ?_
          try simp only [Act.put, List.setIfInBounds_toArray, List.set_cons_zero, List.set_cons_succ]
          refine HG.on 3 60 hA0.out ?_
          try simp only [Act.put, List.setIfInBounds_toArray, List.set_cons_zero, List.set_cons_succ]
          refine HG.on 4 61 hA0.out ?_
          try simp only [Act.put, List.setIfInBounds_toArray, List.set_cons_zero, List.set_cons_succ]
          refine HG.on 5 62 hA0.out ?_
          try simp only [Act.put, List.setIfInBounds_toArray, List.set_cons_zero, List.set_cons_succ]
          refine wpHd_two (i := 6) (j := 10) rfl rfl rfl rfl (by kernel_rfl) (fun KK hK => ?_) (fun KK hK => ?_)
          · go_simp
            refine (HGT.out _ ((hE.out.trans HWE.out).trans (by exact eX))).mono ?_
            rintro e w6 ⟨⟨qr, qa, qc⟩, rfl, hqr, hqo, hb6⟩
            simp only at hqr; subst hqr
            have HQO := Hid.mk' hqo
            have HB6 := Hid.mk' (show Ext we w6 by exact eX)
            refine hK.out _ _ (held_of HB6.out) (fun hA => ?_)
            clear hK KK hA hqo hb6 hA0
            have hA0 : Hid ((fun w' => Ext (we) w' ∧ (∀ b o, b < (we).heap.size → w'.cell? ⟨b, o, none⟩ = (we).cell? ⟨b, o, none⟩) ∧ (∀ b o, b < (we).heap.size → w'.frozen? ⟨b, o, none⟩ = (we).frozen? ⟨b, o, none⟩)) w6) := held_of HB6.out
            refine HG.on 7 56 hA0.out ?_
            try simp only [Act.put, List.setIfInBounds_toArray, List.set_cons_zero, List.set_cons_succ]
            refine HG.on 8 64 hA0.out ?_
            try simp only [Act.put, List.setIfInBounds_toArray, List.set_cons_zero, List.set_cons_succ]
            refine HG.on 9 65 hA0.out ?_
            try simp only [Act.put, List.setIfInBounds_toArray, List.set_cons_zero, List.set_cons_succ]
            refine wpHd_one (i := 10) rfl rfl (by kernel_rfl) (fun KK hK => ?_)
            go_simp
            refine hK.out _ _ (held_of (by have := HB6.out; exact eX)) (fun hA => ?_)
            clear hK KK hA
            refine wpHd_one (i := 11) rfl rfl (by kernel_rfl) (fun KK hK => ?_)
            go_simp
            refine hK.out _ _ (held_of (by have := HB6.out; exact eX)) (fun hA => ?_)
            clear hK KK hA hA0
            refine wpHd_tail (by kernel_rfl) ?_
            simp only [List.drop_succ_cons, List.drop_zero]
            go_wp2
            go_meet
            case rel => exact ⟨_, qa, qc, rfl, rfl, Hid.mk' (Blk.new _ _ _), Hid.mk' ((RR.owned.in HQO.out).ext (by exact eX)), Hid.mk' (by have := HB6.out; exact eX)⟩
          · go_simp
            refine hK.out _ _ (held_of (by exact eX)) (fun hA => ?_)
            clear hK KK hA
            refine wpHd_one (i := 6) rfl rfl (by kernel_rfl) (fun KK hK => ?_)
            go_simp
            refine (HGT.out _ ((hE.out.trans HWE.out).trans (by exact eX))).mono ?_
            rintro e w6 ⟨⟨qr, qa, qc⟩, rfl, hqr, hqo, hb6⟩
            simp only at hqr; subst hqr
            have HQO := Hid.mk' (RR.owned.mono hqo (show we.heap.size + 1 ≤ _ by simp))
            have HB6 := Hid.mk' (show Ext we w6 by exact eX)
            have HX6 := Hid.mk' (show Blk w6 we.heap.size #[.int .u32 0, .int .u32 0, .string ⟨#[]⟩, .int .u8 0, .slice none 0 0] 99 from (Blk.drew (Blk.new we _ _)).ext hb6)
            have gX6 := HX6.out.cell
            have gX6f := HX6.out.frozen
            have zX6 := HX6.out.lt
            refine hK.out _ _ (held_of HB6.out) (fun hA => ?_)
            clear hK KK hA hqo hb6 hA0
            have hA0 : Hid ((fun w' => Ext (we) w' ∧ (∀ b o, b < (we).heap.size → w'.cell? ⟨b, o, none⟩ = (we).cell? ⟨b, o, none⟩) ∧ (∀ b o, b < (we).heap.size → w'.frozen? ⟨b, o, none⟩ = (we).frozen? ⟨b, o, none⟩)) w6) := held_of HB6.out
            refine HG.on 7 56 hA0.out ?_
            try simp only [Act.put, List.setIfInBounds_toArray, List.set_cons_zero, List.set_cons_succ]
            refine HG.on 8 64 hA0.out ?_
            try simp only [Act.put, List.setIfInBounds_toArray, List.set_cons_zero, List.set_cons_succ]
            refine HG.on 9 65 hA0.out ?_
            try simp only [Act.put, List.setIfInBounds_toArray, List.set_cons_zero, List.set_cons_succ]
            refine wpHd_one (i := 11) rfl rfl (by kernel_rfl) (fun KK hK => ?_)
            go_simp
            refine hK.out _ _ (held_of (by have := HB6.out; exact eX)) (fun hA => ?_)
            clear hK KK hA hA0
            refine wpHd_tail (by kernel_rfl) ?_
            simp only [List.drop_succ_cons, List.drop_zero]
            go_wp2
            go_meet
            case rel =>
              refine ⟨_, qa, qc, rfl, rfl, Hid.mk' (Blk.fiveT HX6.out), Hid.mk' ?_, Hid.mk' (by have := HB6.out; exact eX)⟩
              refine RR.owned.in (N := we.heap.size + 1) (q := ⟨⟨oid, ver, nm, id, cols⟩, qa, qc⟩) ?_
              unfold RR.owned
              repeat (with_reducible refine owns_set ?_ (by dsimp only; omega) _)
              exact HQO.out
        case rest =>
          obtain ⟨X, a2, c2, rfl, rfl, HBX, HSX, HEX⟩ := hcut
          have HEC := Hid.mk' (hE.out.trans (HWE.out.trans HEX.out))
          have HME := Hid.mk' (hmp.out.ext (HWE.out.trans HEX.out))
          have HXC := Hid.mk' (HXE.out.ext HEX.out)
          obtain ⟨xv, hrv, hlk⟩ := HME.out.look ho hv
          obtain ⟨a5, c5, qs, rfl, hrs5, hqs5⟩ := hrv
          have HRQ := Hid.mk' (fun W (h : Ext wc W) (h0 : Ext w W) => trows_any oid ver nm id cols a2 c2 ⟨⟨k1, ao1, av1, old1, b1, a1, r1, fl1⟩, ba1, bc1, aa1, ac1, ra1, rc1⟩ a5 c5 qs W (HSX.out.ext h) HC.out (HXL.out W h0) HXS.out (hrs5.ext h) (by
            have h1 := HTK.out.n ao1 av1
            rw [← hqs5, List.length_map] at h1
            exact h1) (fun q hq => HTK.out.r ao1 av1 _ (by rw [← hqs5]; exact List.mem_map_of_mem hq)))
          rw [hqs5] at HRQ
          unfold TRowsPost EL.agg at HRQ
          simp only at HRQ
          generalize rowsE cols (Tk ao1 av1) ⟨k1, ao1, av1, old1, b1, a1, r1, fl1⟩ = E7 at HRQ HXT2
          generalize rowsL cols (Tk ao1 av1) ⟨k1, ao1, av1, old1, b1, a1, r1, fl1⟩ = L7 at HRQ HST2
          clear gx zx l0 l1 lz hrs5 hqs5 HXE HSX
          have gx := HXC.out.cell
          have zx := HXC.out.lt
          have gX := HBX.out.cell
          have zX := HBX.out.lt
          go_wp2
          go_region_held3 (fun w' => Ext (wc) w' ∧ (∀ b o, b < (wc).heap.size → w'.cell? ⟨b, o, none⟩ = (wc).cell? ⟨b, o, none⟩) ∧ (∀ b o, b < (wc).heap.size → w'.frozen? ⟨b, o, none⟩ = (wc).frozen? ⟨b, o, none⟩)) ((exact held_of (by exact eX)))
            (first | (go_at_call 41; refine (HRQ.out _ (by exact eX) (HEC.out.trans (by exact eX))).mono ?_; rintro e w7 ⟨v7, rfl, hr7, hb7⟩; have HR7 := Hid.mk' hr7; have hE_w7 : Ext (wc) w7 := (by exact eX); obtain ⟨hc_w7, hf_w7⟩ := hE_w7.cells; have hz_w7 := hE_w7.size; clear hr7))
          by_cases h70 : E7 = 0
          case neg =>
            have hE71 : (E7 != 0) = true := by simpa using h70
            have HAB := Hid.mk' (HBN.out (by rw [HXT2.out]; exact h70))
            rw [HXT2.out, HRS.out] at HAB
            clear HBN HXT2 HST2 h70
            go_wp2
            go_ret2
            exact ApPost.same HAB.out HBS.out (HEC.out.trans (by exact eX))
          subst h70
          obtain ⟨D, hown, hle, hput⟩ := (HME.out.ext hE_w7).stored
          have HPUT := Hid.mk' (fun W' h1 h2 => hput W' ao1 av1 v7 L7 ho hv HIN.out h1 h2 HR7.out)
          have HE7 := Hid.mk' (HEC.out.trans hE_w7)
          have gx7 := (HXC.out.ext hE_w7).cell
          have zx7 := (HXC.out.ext hE_w7).lt
          clear gx zx gX zX hput hlk HBN HRQ hc_w7 hf_w7 hz_w7 hE_w7 hb7
          go_wp2_with (at_mapUpdate; refine wpList_mapUpdate_own _ rfl _ _ _ 91 rfl 68 66 Tryz.lawRef Tryz.underlying91 RV M (Maps.size D) D rfl hown (by unfold maxLen; omega) _ _ _ rfl rfl (keyRef ho hv) _ [] rfl ?_)
          intro w8 hown8 hgrow8
          have HM8 := Hid.mk' (HPUT.out w8 hown8 hgrow8)
          have HE8 := Hid.mk' (Ext.map HE7.out hgrow8 (Nat.le_of_lt HMW.out))
          clear hown8 hgrow8 hown hle HPUT gx7 zx7
          have hlt2 : k < es.length := HLT.out
          go_wp2
          go_roundg (es.length - (k + 1))
          case measure => omega
          case rel => exact ⟨k + 1, by omega, by go_num, Hid.mk' (by rw [HST2.out]; exact HM8.out), Hid.mk' (fun j hj => by
              by_cases e : j = k
              · subst e; exact HXT2.out
              · exact hz.out j (by omega)), HE8⟩
    · obtain rfl : k = es.length := by omega
      have HG := Hid.mk' (HGD2.out (fun i hi => hz.out i hi))
      rw [HRS.out] at HG hmp
      have HAW := Hid.mk' (HAT.out.ext hE.out)
      obtain ⟨cat2, cv2, m2, hat2, hca2, -⟩ := HBS.out
      obtain ⟨rfl, rfl⟩ : cat2 = cat ∧ m2 = m := by
        have h1 := hat2.cell0
        have h2 := hat2.cell1
        rw [HAT.out.cell0] at h1
        rw [HAT.out.cell1] at h2
        simp at h1 h2
        exact ⟨h1.symm, h2.symm⟩
      have HCA := Hid.mk' (hca2.ext hE.out)
      have l0 := HAW.out.cell0
      have l1 := HAW.out.cell1
      have lf := Blk.frozen HAW.out
      have lz : g < wr.heap.size := Blk.lt HAW.out
      clear hca2 hat2 HBD2 HRZ2 HHB
      go_wp2
      go_ret2
      have hk : Kp (fun x => x = g) wr (wr.setCell ⟨g, 1, none⟩ (.map (some M))) := Kp.set (S := fun x => x = g) ⟨g, 1, none⟩ _ rfl
      refine ⟨by rw [HG.out.1, HG.out.2.1]; rfl, ⟨cat2, cv2, M, Blk.set HAW.out 1 _, HCA.out.base HAW.out hk, ?_⟩, (Kp.of_ext hE.out).trans hk (fun x hx _ => hx)⟩
      rw [HG.out.2.2]
      exact hmp.out.base HAW.out hk

end Go.Proofs.YtdgalkljngigeaaGreat

/-
What stands of tables while a block of events or of one transaction is written.
-/
namespace Go.Proofs.YtdgalkljngigeaaGreat
open Go.RowKit Go.Maps

def noStr (u : Value) : Prop := ∀ s, u ≠ .string s
/-- All cells of a block. -/
def AllIn (W : World) (b : Nat) (p : Value → Prop) : Prop := ∀ cs t, W.heap[b]? = some (.cells cs t (0, 0)) → ∀ u ∈ cs.toList, p u
/-- A block of events or of a transaction: no string in it. -/
structure Quiet (W : World) (b : Nat) : Prop where
  t : ∃ cs t, Blk W b cs t ∧ (t = 34 ∨ t = 103)
  s : AllIn W b noStr
theorem Quiet.no {W : World} {b o : Nat} {s : ByteArray} (h : Quiet W b) : W.cell? ⟨b, o, none⟩ ≠ some (.string s) := by
  obtain ⟨⟨cs, t, h1, -⟩, h2⟩ := h
  intro e
  rw [h1.cell] at e
  have h3 : cs[o]? = some (.string s) := by simpa using e
  have h4 : (Value.string s) ∈ cs.toList := by
    rw [Array.mem_toList_iff]
    exact Array.mem_of_getElem? h3
  exact h2 cs t h1 _ h4 s rfl
theorem Quiet.not {W : World} {b : Nat} {cs : Array Value} {t : TypeId} (h : Quiet W b) (hb : Blk W b cs t) (h1 : t ≠ 34) (h2 : t ≠ 103) : False := by
  obtain ⟨⟨cs', t', h3, h4⟩, -⟩ := h
  unfold Blk at h3 hb
  rw [h3] at hb
  simp only [Option.some.injEq, Obj.cells.injEq] at hb
  obtain ⟨-, rfl, -⟩ := hb
  rcases h4 with h4 | h4
  · exact h1 h4
  · exact h2 h4
section
variable {W W' : World} {row : Option Nat}
theorem Sl.quiet {a : Option Addr} {n c k : Nat} {xss : List (List Value)} (h : Sl W (.slice a n c) k xss) (hg : W.grownBy W' row) (hq : ∀ b, row = some b → Quiet W b) (j : Nat) (hj : j < k) (hs : ∀ xs ∈ xss, ∃ s, xs[j]? = some (.string s)) : Sl W' (.slice a n c) k xss :=
  h.grown1 hg (fun h0 b o e e2 => by
    obtain ⟨a', c', hv, h1⟩ := h
    simp only [Value.slice.injEq] at hv
    obtain ⟨rfl, rfl, rfl⟩ := hv
    rcases h1 with h1 | ⟨b', o', e', hb', hc⟩
    · exact h0 h1
    · rw [e] at e'; cases e'
      have h2 := hc 0 (List.length_pos_iff.2 h0) j hj
      cases xss with
      | nil => exact h0 rfl
      | cons x r =>
        obtain ⟨s, hs⟩ := hs x (List.mem_cons_self ..)
        rw [show ((x :: r).getD 0 [])[j]? = some (Value.string s) from hs] at h2
        exact (hq b e2).no h2)
theorem RwA.quiet {v : Value} {ls : List (List K)} (h : RwA 5 K.pc W v ls) (hg : W.grownBy W' row) (hq : ∀ b, row = some b → Quiet W b) : RwA 5 K.pc W' v ls := by
  obtain ⟨a, c, qs, rfl, h1, h2⟩ := h
  refine ⟨a, c, qs, rfl, ⟨h1.row.grown1 hg (fun h0 b o e e2 => ?_), fun q hq2 => (h1.sl q hq2).quiet hg hq 4 (by omega) (fun xs hx => ?_), h1.tag.kp (fun b cs hb => (hg.block b hb.lt (fun e => ?_)).trans hb)⟩, h2⟩
  · obtain ⟨cs, hb⟩ := h1.tag b o _ c (by rw [e]) (List.length_pos_iff.2 (fun h => h0 (by rw [h]; rfl)))
    exact (hq b e2).not hb (by decide) (by decide)
  · obtain ⟨k, -, rfl⟩ := List.mem_map.1 hx
    exact ⟨_, rfl⟩
  · first
      | exact (hq b e).not hb (by decide) (by decide)
      | exact (hq b e.symm).not hb (by decide) (by decide)
theorem MapT.quiet {m : Nat} {rs : List Rl} {T : Tb} (h : MapT W m rs T) (hg : W.grownBy W' row) (hq : ∀ b, row = some b → Quiet W b) : MapT W' m rs T := by
  have hne : some m ≠ row := fun e => by
    obtain ⟨D, ⟨es, cl, hm, -⟩, -⟩ := h
    obtain ⟨⟨cs, t, hb, -⟩, -⟩ := hq m e.symm
    unfold Blk at hb
    rw [hm] at hb
    cases hb
  exact h.kept hg hne (fun _ _ h => h.quiet hg hq)
theorem Ca.quiet {N c2 : Nat} {cv : Value} {ps : List RR} (h : Ca W N c2 cv ps) (hg : W.grownBy W' row) (hq : ∀ b, row = some b → Quiet W b) : Ca W' N c2 cv ps := by
  refine h.kp (Kp.of_grown hg) (fun e => (hq _ e).not h.ptr (by decide) (by decide)) (fun b e e2 => ?_) (fun p hp h0 b o e e2 => ?_)
  · rcases h.own.2 with ⟨h1, -⟩ | ⟨g2, cap, cur, h1, -, h2, -⟩
    · rw [h1] at e; cases e
    · rw [h1] at e
      have e3 : g2 = b := by simpa [Value.ownBlock] using e
      subst e3
      exact (hq _ e2).not (cs := cur) h2 (by decide) (by decide)
  · have h1 := h.sl p hp
    obtain ⟨b', o', e', hb', hc⟩ := Sl.at_ h1 (i := 0) (by rw [List.length_map]; exact List.length_pos_iff.2 h0)
    rw [e] at e'; cases e'
    have h2 := hc 0 (by omega)
    cases hcs : p.r.cols with
    | nil => exact h0 hcs
    | cons d ds =>
      rw [hcs] at h2
      exact (hq b e2).no (s := d.nm) h2
theorem Bs.quiet {N g : Nat} {ps : List RR} {T : Tb} (h : Bs W N g ps T) (hg : W.grownBy W' row) (hq : ∀ b, row = some b → Quiet W b) : Bs W' N g ps T := by
  obtain ⟨cat, cv, m, h1, h2, h3⟩ := h
  exact ⟨cat, cv, m, Blk.kp h1 (Kp.of_grown hg) (fun e => (hq _ e).not h1 (by decide) (by decide)), h2.quiet hg hq, h3.quiet hg hq⟩
/-- Another base stands while one is turned. -/
theorem Bs.base {N g N2 g2 : Nat} {ps ps2 : List RR} {T T2 : Tb} (h : Bs W N2 g2 ps2 T2) (hb : Bs W N g ps T) (hne : g2 ≠ g) (hk : Kp (fun x => x = g) W W') : Bs W' N2 g2 ps2 T2 := by
  obtain ⟨cat, cv, m, h1, h2, h3⟩ := h
  obtain ⟨cat', cv', m', hb, -, -⟩ := hb
  exact ⟨cat, cv, m, Blk.kp h1 hk hne, h2.base hb hk, h3.base hb hk⟩
theorem grown_of_kp {g : Nat} (hk : Kp (fun x => x = g) W W') : W.grownBy W' (some g) := ⟨hk.os, hk.tape, hk.output, hk.size, fun k h1 h2 => hk.block k h1 (fun e => h2 (by rw [e]))⟩
theorem Quiet.kp {S : Nat → Prop} {b : Nat} (h : Quiet W b) (hk : Kp S W W') (hs : ¬ S b) : Quiet W' b := by
  obtain ⟨⟨cs, t, h1, h2⟩, h3⟩ := h
  have h4 := h1.kp hk hs
  refine ⟨⟨cs, t, h4, h2⟩, fun cs' t' h5 => h3 cs' t' ?_⟩
  rw [← hk.block b h1.lt hs]; exact h5
theorem Quiet.ext {b : Nat} (h : Quiet W b) (he : Ext W W') : Quiet W' b := h.kp (S := fun _ => False) (Kp.of_ext he) (fun h => h)
end

/-- What append makes has no other cells than those there were, what is appended, and zeros. -/
theorem append_all {P : Program} {w w' : World} {v v' : Value} {p : Value → Prop} (base : Nat) (t ty e : TypeId) (i : TypeInfo) (z : Value) (size bytes : Nat) (ht : P.underlying t = some (.slice e)) (hi : P.info? e = some i) (hz : i.zero = some z)
    (hsize : i.size = size) (hby : i.bytes = bytes) (hzs : z.cells.size = size) (hsz : 0 < size)
    (n : Nat) (xs : List Value) (hown : w.ownsRow base e size v n xs)
    (a : Addr) (m c : Nat) (news : List Value) (hl : news.length = m * size) (hnews : ∀ j u, news[j]? = some u → w.cell? (a.add j) = some u) (h1 : ∀ u ∈ news, u.oneCell' = true)
    (h63 : n + m ≤ maxLen) (hbytes : (n + m) * bytes ≤ 140737488355328)
    (hr : (Builtin.append_ #[t, t] ty #[v, .slice (some a) m c]).run P w = .ok v' w') (hpz : ∀ u ∈ z.cells.toList, p u) (hpn : ∀ u ∈ news, p u) (hp : ∀ b, v.ownBlock = some b → AllIn w b p) :
    ∀ b, v'.ownBlock = some b → AllIn w' b p := by
  subst hsize
  subst hby
  have hsmall : n + m ≤ 9223372036854775807 := by simp only [maxLen] at h63; omega
  have hzero : ∀ q, ∀ u ∈ (Builtin.zeroCells z.cells q).toList, p u := by
    intro q u hu
    unfold Builtin.zeroCells at hu
    rw [Array.toList_map] at hu
    obtain ⟨k, hk, rfl⟩ := List.mem_map.1 hu
    have h2 : k % z.cells.size < z.cells.size := Nat.mod_lt _ (by omega)
    rw [getElem!_pos z.cells _ h2]
    exact hpz _ (by rw [Array.mem_toList_iff]; exact Array.getElem_mem h2)
  rcases hown.2 with ⟨rfl, rfl⟩ | ⟨g, cap, cur, rfl, hbg, hg, hnc, hcm, hcs, htake⟩
  · by_cases hm : m = 0
    · subst hm
      have hn : news = [] := List.eq_nil_of_length_eq_zero (by simpa using hl)
      subst hn
      have h2 : (Builtin.append_ #[t, t] ty #[.slice none 0 0, .slice (some a) 0 c]).run P w = .ok (.slice none 0 0) w := by
        simp [Builtin.append_, run_underlying ht, sizeOf, typeInfo, hi, Builtin.lenOf, Builtin.firstCells, loadCells, loadCellsFrom]
      rw [h2] at hr
      cases hr
      intro b hb; cases hb
    · have h2 := run_append_nil (P := P) w t ty e i z ht hi hz a m c news hl hnews (by omega) (by omega) (by have hb := hbytes; simp only [Nat.zero_add] at hb; omega)
      rw [h2] at hr
      cases hr
      intro b hb
      have hb : w.heap.size = b := by simpa [Value.ownBlock] using hb
      subst hb
      intro cs t' h3 u hu
      have h4 := heap_alloc_new w.drew (.cells (news.toArray ++ Builtin.zeroCells z.cells (grownCap w m 0 e - m)) e)
      rw [show w.drew.heap.size = w.heap.size from rfl] at h4
      rw [h4] at h3
      cases h3
      rw [Array.toList_append, List.mem_append] at hu
      rcases hu with hu | hu
      · exact hpn u hu
      · exact hzero _ u hu
  · have hx : ∀ u ∈ cur.toList, p u := hp g rfl cur e hg
    by_cases hroom : n + m ≤ cap
    · have hfit : n * i.size + news.length ≤ cur.size := by rw [hl, hcs, ← Nat.add_mul]; exact Nat.mul_le_mul_right _ hroom
      have h2 := run_append_room (P := P) w t ty e i ht hi g n cap cur hg a m c news hl hnews h1 hroom hfit
      rw [h2] at hr
      cases hr
      intro b hb
      have hb : g = b := by simpa [Value.ownBlock] using hb
      subst hb
      intro cs t' h3 u hu
      rw [setRow_heap w g cur _ e _ hg] at h3
      cases h3
      simp only [List.mem_append] at hu
      rcases hu with (hu | hu) | hu
      · exact hx u (List.mem_of_mem_take hu)
      · exact hpn u hu
      · exact hx u (List.mem_of_mem_drop hu)
    · have holds : ∀ j u, xs[j]? = some u → w.cell? ((⟨g, 0, none⟩ : Addr).add j) = some u := hown.cells (g := g) rfl
      have h2 := run_append_grow (P := P) w t ty e i z ht hi hz ⟨g, 0, none⟩ n cap xs hown.1 holds a m c news hl hnews (by omega) (by omega) (growslice_fits (by omega) hbytes)
      rw [h2] at hr
      cases hr
      intro b hb
      have hb : w.heap.size = b := by simpa [Value.ownBlock] using hb
      subst hb
      intro cs t' h3 u hu
      have h4 := heap_alloc_new w.drew (.cells (xs.toArray ++ news.toArray ++ Builtin.zeroCells z.cells (grownCap w (n + m) cap e - (n + m))) e)
      rw [show w.drew.heap.size = w.heap.size from rfl] at h4
      rw [h4] at h3
      cases h3
      simp only [Array.toList_append, List.mem_append] at hu
      rcases hu with (hu | hu) | hu
      · exact hx u (List.mem_of_mem_take (by rw [htake]; exact hu))
      · exact hpn u hu
      · exact hzero _ u hu

theorem wp_append_all {P : Program} {w : World} {o : Oper} {a : Act} {K : Act → World → Prop} {Q : Exit → Act → World → Prop} (p : Value → Prop) (s x : Operand) (t : TypeId)
    (ho : o.op = .call { callee := .builtin .append, args := #[s, x], argTypes := #[t, t] })
    (base : Nat) (e : TypeId) (i : TypeInfo) (z : Value) (size bytes : Nat) (ht : P.underlying t = some (.slice e)) (hi : P.info? e = some i) (hz : i.zero = some z)
    (hsize : i.size = size) (hby : i.bytes = bytes) (hzs : z.cells.size = size) (hsz : 0 < size)
    (v : Value) (n : Nat) (xs : List Value) (hs : a.eval s = v) (hown : w.ownsRow base e size v n xs) (u : Value) (xss : List (List Value)) (hx : a.eval x = u) (hu : Sl w u size xss)
    (hk : ∀ ys ∈ xss, ys.length = size) (h1 : ∀ y ∈ xss.flatten, y.oneCell' = true) (h63 : n + xss.length ≤ maxLen) (hbytes : (n + xss.length) * bytes ≤ 140737488355328) (hbase : base ≤ w.heap.size)
    (hpz : ∀ u ∈ z.cells.toList, p u) (hpn : ∀ u ∈ xss.flatten, p u) (hp : ∀ b, v.ownBlock = some b → AllIn w b p)
    (h : ∀ v' w', w'.ownsRow base e size v' (n + xss.length) (xs ++ xss.flatten) → w.grownBy w' v.ownBlock → (v'.ownBlock = v.ownBlock ∨ v'.ownBlock = some w.heap.size) → (∀ b, v'.ownBlock = some b → AllIn w' b p) → K (a.put o.dst v') w') : o.wp P a w K Q := by
  obtain ⟨A, cap, rfl, hcs⟩ := hu
  have key : ∃ v' w', (Builtin.append_ #[t, t] o.type #[v, .slice A xss.length cap]).run P w = .ok v' w' ∧ w'.ownsRow base e size v' (n + xss.length) (xs ++ xss.flatten) ∧ w.grownBy w' v.ownBlock ∧ (v'.ownBlock = v.ownBlock ∨ v'.ownBlock = some w.heap.size) ∧ (∀ b, v'.ownBlock = some b → AllIn w' b p) := by
    rcases A with _ | ad
    · have h0 : xss = [] := by
        rcases hcs with h | ⟨b, o, e, _⟩
        · exact h
        · cases e
      subst h0
      exact ⟨v, w, run_app_nil base t o.type e i size ht hi v n xs hown cap, by simpa using hown, ⟨rfl, rfl, rfl, Nat.le_refl _, fun _ _ _ => rfl⟩, .inl rfl, hp⟩
    · have hn : ∀ j u, xss.flatten[j]? = some u → w.cell? (ad.add j) = some u := by
        rcases hcs with h | ⟨b, o', e', _, hc⟩
        · subst h; intro j u hj; simp at hj
        · cases e'
          exact news_sl hsz hk hc
      obtain ⟨v', w', hr, h2, h3, _, h5⟩ := run_append_own_at (P := P) w base t o.type e i z size bytes ht hi hz hsize hby hzs hsz v n xs hown ad xss.length cap xss.flatten (flat_length size xss hk) hn h1 h63 hbytes hbase
      exact ⟨v', w', hr, h2, h3, h5, append_all base t o.type e i z size bytes ht hi hz hsize hby hzs hsz n xs hown ad xss.length cap xss.flatten (flat_length size xss hk) hn h1 h63 hbytes hr hpz hpn hp⟩
  obtain ⟨v', w', hrun, h2, h3, h4, h5⟩ := key
  unfold Oper.wp execOp
  simp only [ho, resolve, invoke, builtin, Sem.run_bind, Sem.run_pure, Result.andThen_ok, List.map_toArray, List.map_cons, List.map_nil, hs, hx, hrun]
  exact h v' w' h2 h3 h4 h5

end Go.Proofs.YtdgalkljngigeaaGreat

/-
A transaction's events are done: the reference's Apply.
-/
namespace Go.Proofs.YtdgalkljngigeaaGreat
open Go.RowKit

def RApPost (a : Option Addr) (c : Nat) (ps : List RR) (T : Tb) (t : Tx) (w : World) (e : Ending) (w' : World) : Prop :=
  ∃ ta' tc', e = .returned (.tuple #[.agg #[.slice a ps.length c, .slice ta' ps.length tc'], .int .i64 (apP (ps.map RR.r) T t), .int .i64 (apE (ps.map RR.r) T t)]) ∧ RT w' (.slice ta' ps.length tc') ps (apT (ps.map RR.r) T t) ∧ Ext w w'
theorem RApPost.same {a : Option Addr} {c : Nat} {ps : List RR} {T : Tb} {t : Tx} {w w' : World} {P E : Int} {ta : Option Addr} {tc : Nat} (h : apE (ps.map RR.r) T t = E ∧ apP (ps.map RR.r) T t = P ∧ apT (ps.map RR.r) T t = T) (hb : RT w (.slice ta ps.length tc) ps T) (he : Ext w w') : RApPost a c ps T t w (.returned (.tuple #[.agg #[.slice a ps.length c, .slice ta ps.length tc], .int .i64 P, .int .i64 E])) w' := by
  obtain ⟨h1, h2, h3⟩ := h
  exact ⟨ta, tc, by rw [h1, h2], by rw [h3]; exact hb.ext he, he⟩
theorem Blk.twoB {W : World} {b : Nat} {u0 u1 v0 v1 : Value} {T : TypeId} (h : Blk W b #[u0, u1] T) : Blk ((W.setCell ⟨b, 0, none⟩ v0).setCell ⟨b, 1, none⟩ v1) b #[v0, v1] T := (h.set 0 v0).set 1 v1
theorem Ext.twoB {W0 W : World} {b : Nat} {v0 v1 : Value} (h : Ext W0 W) (hb : W0.heap.size ≤ b) : Ext W0 ((W.setCell ⟨b, 0, none⟩ v0).setCell ⟨b, 1, none⟩ v1) := Ext.setCell (Ext.setCell h hb _) hb _
theorem Kp.twoB {W : World} {b : Nat} {v0 v1 : Value} : Kp (fun x => x = b) W ((W.setCell ⟨b, 0, none⟩ v0).setCell ⟨b, 1, none⟩ v1) :=
  (Kp.set (S := fun x => x = b) ⟨b, 0, none⟩ v0 rfl).trans (Kp.set (S := fun x => x = b) ⟨b, 1, none⟩ v1 rfl) (fun _ hx _ => hx)
theorem Blk.ne {W : World} {b b' : Nat} {cs cs' : Array Value} {t t' : TypeId} (h : Blk W b cs t) (h' : Blk W b' cs' t') (hn : t ≠ t') : b ≠ b' := fun e => by
  subst e
  unfold Blk at h h'
  rw [h] at h'
  simp only [Option.some.injEq, Obj.cells.injEq] at h'
  exact hn h'.2.1
set_option maxRecDepth 20000 in
theorem res_base {W : World} {b : Nat} {v0 v1 E F : Value} {tm : Array Value} (h : Blk W b #[v0, v1] 56) (ht : tm.getD 4 undef = .pointer (some ⟨b, 0, none⟩)) (hm : tm.getD 5 undef = E) (hn : tm.getD 6 undef = F) :
    (results Tryz.f18 tm).run Tryz.prog W = .ok (.tuple #[.agg #[v0, v1], E, F]) W := by
  have c := h.cell
  have c0 := c 0
  have c1 := c 1
  clear c h
  simp at c0 c1
  rw [Array.getD_eq_getD_getElem?] at ht hm hn
  simp [results, Tryz.results18, go_sem, ht, hm, hn, c0, c1]

set_option maxRecDepth 100000 in set_option maxHeartbeats 8000000 in
theorem rapply_any (ps : List RR) (a : Option Addr) (c : Nat) (ta : Option Addr) (tc : Nat) (t : TL) (n : Nat) (T : Tb) (w : World) (hl : RL w (.slice a ps.length c) ps) (hc : RCat ps) (ht : RT w (.slice ta ps.length tc) ps T) (hT : TbOk T n) (hx : t.at 6 K.rc w) (hn : n + t.es.length ≤ 1000) (hs : ∀ e ∈ t.es, e.e.small) (hwk : ∀ e ∈ t.es, e.e.wk) :
    Calls Tryz.prog 18 #[.agg #[.slice a ps.length c, .slice ta ps.length tc], t.agg] w (RApPost a c ps T t.t w) := by
  obtain ⟨i0, hi, hz0, hz1, hz2⟩ := info_parts Tryz.infoRowsR
  have hpl : ps.length ≤ 64 := by have := hc.ok.n64; rw [List.length_map] at this; exact this
  have HL := Hid.mk' hl
  have HRT := Hid.mk' ht
  have HCOL := Hid.mk' (fun p (hp : p ∈ ps) => hc.n16 hp)
  have HSRT := Hid.mk' hc.ok.srt
  have HTR := Hid.mk' (fun W (he : Ext w W) => rrighttx_any t ps a c W (hx.ext he) (by omega) hs hwk (hl.ext he) hc)
  have HPL := Hid.mk' (fun o v W (he : Ext w W) => rplace_any ps a c ta ps.length tc o v W (hl.ext he) (by omega))
  have HES := Hid.mk' hx
  have HSM := Hid.mk' hs
  have HTB := Hid.mk' (fun k (hk : k ≤ t.es.length) => (hT.st (ps.map RR.r) (es := t.es.map EL.e) (fun e he => by
    obtain ⟨x, hx, rfl⟩ := List.mem_map.1 he
    exact (hs x hx).a) k).mono (show n + k ≤ 1000 by omega))
  have HWR := Hid.mk' (fun h => ap_wrong (ps := ps.map RR.r) (T := T) (t := t.t) h)
  have HBD := Hid.mk' (fun k h0 hz hk hne => ap_bad (ps := ps.map RR.r) (T := T) (t := t.t) (k := k) h0 hz hk hne)
  have HGD := Hid.mk' (fun h0 hz => ap_good (ps := ps.map RR.r) (T := T) (t := t.t) h0 hz)
  have HRZ : Hid (rtE t.t (ps.map RR.r) = 0 → ∀ j (hj : j < t.es.length), evE t.es[j].e (ps.map RR.r) = 0) := Hid.mk' (fun h j hj => by
    have h1 := (rt_zero h).2 j (by unfold TL.t; simpa using hj)
    simpa [TL.t] using h1)
  clear hl hc ht hT hx hs hwk
  obtain ⟨xid, st, es, xa, xc⟩ := t
  unfold TL.agg at HTR ⊢
  unfold TL.at at HES
  unfold TL.t at HTR HWR HBD HGD HRZ ⊢
  simp only at HTR HES HSM HTB HWR HBD HGD HRZ hn ⊢
  rw [List.length_map] at HBD HGD
  generalize rtE ⟨xid, st, es.map EL.e⟩ (ps.map RR.r) = E at HTR HWR HBD HGD HRZ
  generalize rtP ⟨xid, st, es.map EL.e⟩ (ps.map RR.r) = P at HTR HWR
  have HX1 : Hid (Blk (((w.alloc (.cells #[.slice a ps.length c, .slice ta ps.length tc] 56)).alloc (.cells #[.int .u32 xid, .int .u64 st, .slice xa es.length xc] 62)).alloc (.cells #[.slice none 0 0, .slice none 0 0] 56)) w.heap.size #[.slice a ps.length c, .slice ta ps.length tc] 56 ∧ Blk (((w.alloc (.cells #[.slice a ps.length c, .slice ta ps.length tc] 56)).alloc (.cells #[.int .u32 xid, .int .u64 st, .slice xa es.length xc] 62)).alloc (.cells #[.slice none 0 0, .slice none 0 0] 56)) (w.heap.size + 1) #[.int .u32 xid, .int .u64 st, .slice xa es.length xc] 62 ∧ Blk (((w.alloc (.cells #[.slice a ps.length c, .slice ta ps.length tc] 56)).alloc (.cells #[.int .u32 xid, .int .u64 st, .slice xa es.length xc] 62)).alloc (.cells #[.slice none 0 0, .slice none 0 0] 56)) (w.heap.size + 1 + 1) #[.slice none 0 0, .slice none 0 0] 56) := Hid.mk' ⟨((Blk.new w _ _).alloc _).alloc _, (Blk.new' _ _ (by simp)).alloc _, Blk.new' _ _ (by simp)⟩
  by_cases hE : E = 0
  case neg =>
    have hE1 : (E != 0) = true := by simpa using hE
    have HW2 := Hid.mk' (HWR.out hE)
    clear HWR HBD HGD HRZ hE HES HSM HTB HPL HL HCOL HSRT
    go_enter Tryz.func18, Tryz.ntmps18
    go_upto_region 2 with (go_at_call 46; refine (HTR.out _ (by exact eX)).mono ?_; rintro e w2 ⟨rfl, hb2⟩; have HB2 := Hid.mk' hb2; have HX2 := Hid.mk' (show Blk w2 w.heap.size #[.slice a ps.length c, .slice ta ps.length tc] 56 ∧ Blk w2 (w.heap.size + 1) #[.int .u32 xid, .int .u64 st, .slice xa es.length xc] 62 ∧ Blk w2 (w.heap.size + 1 + 1) #[.slice none 0 0, .slice none 0 0] 56 from ⟨HX1.out.1.ext hb2, HX1.out.2.1.ext hb2, HX1.out.2.2.ext hb2⟩); clear hb2)
    have HE2 := Hid.mk' (show Ext w w2 by have := HB2.out; exact eX)
    have gX := HX2.out.1.cell
    have zX := HX2.out.1.lt
    have gZ := HX2.out.2.2.cell
    have zZ := HX2.out.2.2.lt
    have gZf := HX2.out.2.2.frozen
    go_wp2
    refine bodyPost_ret (res_base (Blk.twoB HX2.out.2.2) rfl rfl rfl) rfl ?_
    exact RApPost.same HW2.out HRT.out (Ext.twoB HE2.out (by omega))
  subst hE
  have HRZ2 := Hid.mk' (HRZ.out rfl)
  have HBD2 := Hid.mk' (fun k hz hk hne => HBD.out k rfl hz hk hne)
  have HGD2 := Hid.mk' (HGD.out rfl)
  clear HWR HBD HGD HRZ
  go_enter Tryz.func18, Tryz.ntmps18
  go_upto_region 4 with (go_at_call 46; refine (HTR.out _ (by exact eX)).mono ?_; rintro e w2 ⟨rfl, hb2⟩; have HB2 := Hid.mk' hb2; have HX2 := Hid.mk' (show Blk w2 w.heap.size #[.slice a ps.length c, .slice ta ps.length tc] 56 ∧ Blk w2 (w.heap.size + 1) #[.int .u32 xid, .int .u64 st, .slice xa es.length xc] 62 ∧ Blk w2 (w.heap.size + 1 + 1) #[.slice none 0 0, .slice none 0 0] 56 from ⟨HX1.out.1.ext hb2, HX1.out.2.1.ext hb2, HX1.out.2.2.ext hb2⟩); clear hb2)
  have HE2 := Hid.mk' (show Ext w w2 by have := HB2.out; exact eX)
  clear HTR HX1 HB2
  have gX := HX2.out.1.cell
  have zX := HX2.out.1.lt
  obtain ⟨a9, c9', xs, hv9, hrow9, hxl9, hxr9, -⟩ := HRT.out
  simp only [Value.slice.injEq] at hv9
  obtain ⟨rfl, -, rfl⟩ := hv9
  have HROW := Hid.mk' hrow9
  have HXL := Hid.mk' hxl9
  have HXR := Hid.mk' hxr9
  clear hrow9 hxl9 hxr9
  have HK1 := Hid.mk' (show ∀ ys ∈ xs.map sv, ys.length = 1 from fun ys h => by obtain ⟨x, -, rfl⟩ := List.mem_map.1 h; rfl)
  have HO1 := Hid.mk' (show ∀ y ∈ (xs.map sv).flatten, y.oneCell' = true from fun y h => by
    rw [sv_flat] at h
    obtain ⟨i, q, rfl⟩ := List.getElem_of_mem h
    obtain ⟨_, _, _, e⟩ := (HXR.out i q (by have := HXL.out; omega)).isSl
    rw [e]; rfl)
  have HN1 := Hid.mk' (show 0 + (xs.map sv).length ≤ maxLen ∧ (0 + (xs.map sv).length) * 24 ≤ 140737488355328 from by rw [List.length_map]; unfold maxLen; have := HXL.out; omega)
  go_cut [9] (fun p wx => ∃ X M c9, p = .pointer (some ⟨X, 0, none⟩) ∧ Hid (Blk wx X #[.slice a ps.length c, .slice (some ⟨M, 0, none⟩) ps.length c9] 56) ∧ Hid (RTo wx M ps T) ∧ Hid (w2.heap.size ≤ M ∧ w2.heap.size ≤ X) ∧ Hid (Ext w2 wx))
  case first =>
    have hA0 : Hid ((fun w' => Ext (w2) w' ∧ (∀ b o, b < (w2).heap.size → w'.cell? ⟨b, o, none⟩ = (w2).cell? ⟨b, o, none⟩) ∧ (∀ b o, b < (w2).heap.size → w'.frozen? ⟨b, o, none⟩ = (w2).frozen? ⟨b, o, none⟩)) w2.drew) := held_of (by exact eX)
    refine wp_region_head 8 (fun w' => Ext (w2) w' ∧ (∀ b o, b < (w2).heap.size → w'.cell? ⟨b, o, none⟩ = (w2).cell? ⟨b, o, none⟩) ∧ (∀ b o, b < (w2).heap.size → w'.frozen? ⟨b, o, none⟩ = (w2).frozen? ⟨b, o, none⟩)) (by kernel_rfl) (by decide) ?_
    refine HG.on 0 28 hA0.out ?_
    try simp only [Act.put, List.setIfInBounds_toArray, List.set_cons_zero, List.set_cons_succ]
    refine HG.on 1 29 hA0.out ?_
    try simp only [Act.put, List.setIfInBounds_toArray, List.set_cons_zero, List.set_cons_succ]
    refine HG.on 3 31 hA0.out ?_
    try simp only [Act.put, List.setIfInBounds_toArray, List.set_cons_zero, List.set_cons_succ]
    refine HG.on 4 32 hA0.out ?_
    try simp only [Act.put, List.setIfInBounds_toArray, List.set_cons_zero, List.set_cons_succ]
    refine wpHd_two (i := 2) (j := 7) rfl rfl rfl rfl (by kernel_rfl) (fun KK hK => ?_) (fun KK hK => ?_)
    · go_simp
      refine hK.out _ _ (held_of (by exact eX)) (fun hA => ?_)
      clear hK KK hA
      have HBB : Hid (Blk ((w2.alloc (.cells #[] 63)).drew) w2.heap.size #[] 63) := Hid.mk' (Blk.drew (Blk.new w2 _ _))
      refine wpHd_two (i := 5) (j := 7) rfl rfl rfl rfl (by kernel_rfl) (fun KK hK => ?_) (fun KK hK => ?_)
      · (refine wp_append_all (fun _ => True) (.tmp 30) (.tmp 32) 54 ?ho w2.heap.size 63 i0 _ 1 24 Tryz.underlying54 hi hz0 hz1 hz2 ?zz (by decide) (.slice (some ⟨w2.heap.size, 0, none⟩) 0 0) 0 [] ?ev1 ?hown (.slice ta ps.length tc) (xs.map sv) ?ev2 (HROW.out.ext (HE2.out.trans (by exact eX))) HK1.out HO1.out HN1.out.1 HN1.out.2 (by first | (simp; done) | (simp; omega)) (fun _ _ => trivial) (fun _ _ => trivial) (fun _ _ _ _ _ _ _ => trivial) ?_; (case ho => rfl); (case zz => rfl); (case ev1 => ((try go_simp); (try rfl))); (case ev2 => ((try go_simp); (try rfl))); (case hown => exact ⟨rfl, .inr ⟨_, 0, #[], rfl, (by omega), HBB.out, Nat.le_refl _, Nat.zero_le _, rfl, rfl⟩⟩); intro v' w4 hown hgrow hat _)
        (have HEb := Hid.mk' (show Ext w2 w4 from Kp.ext (show Ext w2 _ by exact eX) (fun x hx _ => by have hx : w2.heap.size = x := (by simpa [Value.ownBlock] using hx); omega) (Kp.of_grown hgrow)); have hEb := HEb.out; obtain ⟨M, c9, rfl, hM, hTO⟩ := RTo.made hown hat HXL.out (fun i q1 q2 => (HXR.out i q1 q2).ext (HE2.out.trans HEb.out)); have HTO := Hid.mk' hTO; have HMM := Hid.mk' hM)
        refine hK.out _ _ (held_of HEb.out) (fun hA => ?_)
        clear hK KK hA hown hgrow hat hTO hM hA0
        have hA0 : Hid ((fun w' => Ext (w2) w' ∧ (∀ b o, b < (w2).heap.size → w'.cell? ⟨b, o, none⟩ = (w2).cell? ⟨b, o, none⟩) ∧ (∀ b o, b < (w2).heap.size → w'.frozen? ⟨b, o, none⟩ = (w2).frozen? ⟨b, o, none⟩)) w4) := held_of HEb.out
        refine HG.on 6 34 hA0.out ?_
        try simp only [Act.put, List.setIfInBounds_toArray, List.set_cons_zero, List.set_cons_succ]
        refine wpHd_one (i := 7) rfl rfl (by kernel_rfl) (fun KK hK => ?_)
        go_simp
        refine hK.out _ _ (held_of (by exact eX)) (fun hA => ?_)
        clear hK KK hA hA0
        refine wpHd_tail (by kernel_rfl) ?_
        simp only [List.drop_succ_cons, List.drop_zero]
        go_wp2
        go_meet
        case rel => exact ⟨_, M, c9, rfl, Hid.mk' (Blk.new _ _ _), Hid.mk' (HTO.out.ext (by exact eX)), Hid.mk' ⟨HMM.out, HEb.out.size⟩, Hid.mk' (by exact eX)⟩
      · go_simp
        refine hK.out _ _ (held_of (by exact eX)) (fun hA => ?_)
        clear hK KK hA
        have HBB := Hid.mk' (show Blk (((w2.alloc (.cells #[] 63)).alloc (.cells #[.slice none 0 0, .slice none 0 0] 56)).drew) w2.heap.size #[] 63 from Blk.drew (Blk.alloc (Blk.new w2 _ _) _))
        have HX9 := Hid.mk' (show Blk (((w2.alloc (.cells #[] 63)).alloc (.cells #[.slice none 0 0, .slice none 0 0] 56)).drew) (w2.heap.size + 1) #[.slice none 0 0, .slice none 0 0] 56 from Blk.drew (Blk.new' _ _ (by simp)))
        refine wpHd_one (i := 5) rfl rfl (by kernel_rfl) (fun KK hK => ?_)
        (refine wp_append_all (fun _ => True) (.tmp 30) (.tmp 32) 54 ?ho w2.heap.size 63 i0 _ 1 24 Tryz.underlying54 hi hz0 hz1 hz2 ?zz (by decide) (.slice (some ⟨w2.heap.size, 0, none⟩) 0 0) 0 [] ?ev1 ?hown (.slice ta ps.length tc) (xs.map sv) ?ev2 (HROW.out.ext (HE2.out.trans (by exact eX))) HK1.out HO1.out HN1.out.1 HN1.out.2 (by first | (simp; done) | (simp; omega)) (fun _ _ => trivial) (fun _ _ => trivial) (fun _ _ _ _ _ _ _ => trivial) ?_; (case ho => rfl); (case zz => rfl); (case ev1 => ((try go_simp); (try rfl))); (case ev2 => ((try go_simp); (try rfl))); (case hown => exact ⟨rfl, .inr ⟨_, 0, #[], rfl, (by omega), HBB.out, Nat.le_refl _, Nat.zero_le _, rfl, rfl⟩⟩); intro v' w4 hown hgrow hat _)
        (have HEb := Hid.mk' (show Ext w2 w4 from Kp.ext (show Ext w2 _ by exact eX) (fun x hx _ => by have hx : w2.heap.size = x := (by simpa [Value.ownBlock] using hx); omega) (Kp.of_grown hgrow)); have hEb := HEb.out; obtain ⟨M, c9, rfl, hM, hTO⟩ := RTo.made hown hat HXL.out (fun i q1 q2 => (HXR.out i q1 q2).ext (HE2.out.trans HEb.out)); have HTO := Hid.mk' hTO; have HMM := Hid.mk' hM)
        refine hK.out _ _ (held_of HEb.out) (fun hA => ?_)
        have HX9 := Hid.mk' (Blk.kp HX9.out (Kp.of_grown hgrow) (fun e => by simp [Value.ownBlock] at e))
        clear hK KK hA hown hgrow hat hTO hM hA0
        have hA0 : Hid ((fun w' => Ext (w2) w' ∧ (∀ b o, b < (w2).heap.size → w'.cell? ⟨b, o, none⟩ = (w2).cell? ⟨b, o, none⟩) ∧ (∀ b o, b < (w2).heap.size → w'.frozen? ⟨b, o, none⟩ = (w2).frozen? ⟨b, o, none⟩)) w4) := held_of HEb.out
        refine HG.on 6 34 hA0.out ?_
        try simp only [Act.put, List.setIfInBounds_toArray, List.set_cons_zero, List.set_cons_succ]
        have gX9 := HX9.out.cell
        have gX9f := HX9.out.frozen
        have zX9 := HX9.out.lt
        clear hA0
        refine wpHd_tail (by kernel_rfl) ?_
        simp only [List.drop_succ_cons, List.drop_zero]
        go_wp2
        go_meet
        case rel => exact ⟨_, M, c9, rfl, Hid.mk' (Blk.twoB HX9.out), Hid.mk' (HTO.out.cold ⟨_, _, _, _, _, _, HX9.out⟩ Kp.twoB), Hid.mk' ⟨HMM.out, by omega⟩, Hid.mk' (Ext.twoB HEb.out (by omega))⟩
    · go_simp
      refine hK.out _ _ (held_of (by exact eX)) (fun hA => ?_)
      clear hK KK hA
      refine wpHd_one (i := 2) rfl rfl (by kernel_rfl) (fun KK hK => ?_)
      go_simp
      refine hK.out _ _ (held_of (by exact eX)) (fun hA => ?_)
      clear hK KK hA
      have HBB := Hid.mk' (show Blk (((w2.alloc (.cells #[.slice none 0 0, .slice none 0 0] 56)).alloc (.cells #[] 63)).drew) (w2.heap.size + 1) #[] 63 from Blk.drew (Blk.new' _ _ (by simp)))
      have HX9 := Hid.mk' (show Blk (((w2.alloc (.cells #[.slice none 0 0, .slice none 0 0] 56)).alloc (.cells #[] 63)).drew) w2.heap.size #[.slice none 0 0, .slice none 0 0] 56 from Blk.drew (Blk.alloc (Blk.new w2 _ _) _))
      refine wpHd_one (i := 5) rfl rfl (by kernel_rfl) (fun KK hK => ?_)
      (refine wp_append_all (fun _ => True) (.tmp 30) (.tmp 32) 54 ?ho w2.heap.size 63 i0 _ 1 24 Tryz.underlying54 hi hz0 hz1 hz2 ?zz (by decide) (.slice (some ⟨w2.heap.size + 1, 0, none⟩) 0 0) 0 [] ?ev1 ?hown (.slice ta ps.length tc) (xs.map sv) ?ev2 (HROW.out.ext (HE2.out.trans (by exact eX))) HK1.out HO1.out HN1.out.1 HN1.out.2 (by first | (simp; done) | (simp; omega)) (fun _ _ => trivial) (fun _ _ => trivial) (fun _ _ _ _ _ _ _ => trivial) ?_; (case ho => rfl); (case zz => rfl); (case ev1 => ((try go_simp); (try rfl))); (case ev2 => ((try go_simp); (try rfl))); (case hown => exact ⟨rfl, .inr ⟨_, 0, #[], rfl, (by omega), HBB.out, Nat.le_refl _, Nat.zero_le _, rfl, rfl⟩⟩); intro v' w4 hown hgrow hat _)
      (have HEb := Hid.mk' (show Ext w2 w4 from Kp.ext (show Ext w2 _ by exact eX) (fun x hx _ => by have hx : w2.heap.size + 1 = x := (by simpa [Value.ownBlock] using hx); omega) (Kp.of_grown hgrow)); have hEb := HEb.out; obtain ⟨M, c9, rfl, hM, hTO⟩ := RTo.made hown hat HXL.out (fun i q1 q2 => (HXR.out i q1 q2).ext (HE2.out.trans HEb.out)); have HTO := Hid.mk' hTO; have HMM := Hid.mk' hM)
      refine hK.out _ _ (held_of HEb.out) (fun hA => ?_)
      have HX9 := Hid.mk' (Blk.kp HX9.out (Kp.of_grown hgrow) (fun e => by simp [Value.ownBlock] at e))
      clear hK KK hA hown hgrow hat hTO hM hA0
      have hA0 : Hid ((fun w' => Ext (w2) w' ∧ (∀ b o, b < (w2).heap.size → w'.cell? ⟨b, o, none⟩ = (w2).cell? ⟨b, o, none⟩) ∧ (∀ b o, b < (w2).heap.size → w'.frozen? ⟨b, o, none⟩ = (w2).frozen? ⟨b, o, none⟩)) w4) := held_of HEb.out
      refine HG.on 6 34 hA0.out ?_
      try simp only [Act.put, List.setIfInBounds_toArray, List.set_cons_zero, List.set_cons_succ]
      have gX9 := HX9.out.cell
      have gX9f := HX9.out.frozen
      have zX9 := HX9.out.lt
      clear hA0
      refine wpHd_tail (by kernel_rfl) ?_
      simp only [List.drop_succ_cons, List.drop_zero]
      go_wp2
      go_meet
      case rel => exact ⟨_, M, c9, rfl, Hid.mk' (Blk.twoB HX9.out), Hid.mk' (HTO.out.cold ⟨_, _, _, _, _, _, HX9.out⟩ Kp.twoB), Hid.mk' ⟨HMM.out, by omega⟩, Hid.mk' (Ext.twoB HEb.out (by omega))⟩
  case rest =>
    obtain ⟨X, M, c9, rfl, HBX, HTO, HMX, HE3⟩ := hcut
    have HX3 := Hid.mk' (show Blk wc w.heap.size #[.slice a ps.length c, .slice ta ps.length tc] 56 ∧ Blk wc (w.heap.size + 1) #[.int .u32 xid, .int .u64 st, .slice xa es.length xc] 62 ∧ Blk wc (w.heap.size + 1 + 1) #[.slice none 0 0, .slice none 0 0] 56 from ⟨HX2.out.1.ext HE3.out, HX2.out.2.1.ext HE3.out, HX2.out.2.2.ext HE3.out⟩)
    have HEw3 := Hid.mk' (HE2.out.trans HE3.out)
    have HNE := Hid.mk' (show w.heap.size + 1 + 1 < M ∧ X ≠ M from ⟨by have := HX2.out.2.2.lt; have := HMX.out.1; omega, by
      obtain ⟨cs, h1, -⟩ := HTO.out
      exact HBX.out.ne h1 (by decide)⟩)
    obtain ⟨rs, hrs⟩ : ∃ rs, rs = ps.map RR.r := ⟨_, rfl⟩
    have HRS := Hid.mk' hrs
    have HRV := Hid.mk' (fun o v r (h : getR o v rs = some r) => pl_rel HSRT.out (o := o) (v := v) (r := r) (by rw [← hrs]; exact h))
    have HPH := Hid.mk' (fun o v (h : hasR o v rs = true) => pl_has (ps := ps) (o := o) (v := v) (by rw [← hrs]; exact h))
    rw [← hrs] at HTB HRZ2 HBD2 HGD2 HPL HRV HPH
    clear hrs gX zX HROW HXL HXR HX2 HE2 HE3
    go_wp2
    go_loopg [10] es.length (fun z i wr => ∃ k : Nat, z + k = es.length ∧ i = .int .i64 k ∧ Hid (RTo wr M ps (stT rs T (es.map EL.e) k)) ∧ Hid (∀ j, j < k → evXat rs T (es.map EL.e) j = 0) ∧ Hid (Kp (fun x => x = M) wc wr))
    case atStart => exact ⟨0, by omega, rfl, HTO, Hid.mk' (fun j h => by omega), Hid.mk' Kp.refl⟩
    case round =>
      obtain ⟨k, hzk, rfl, hto, hz, hK⟩ := hrel
      have HX4 := Hid.mk' (show Blk wr w.heap.size #[.slice a ps.length c, .slice ta ps.length tc] 56 ∧ Blk wr (w.heap.size + 1) #[.int .u32 xid, .int .u64 st, .slice xa es.length xc] 62 ∧ Blk wr (w.heap.size + 1 + 1) #[.slice none 0 0, .slice none 0 0] 56 ∧ Blk wr X #[.slice a ps.length c, .slice (some ⟨M, 0, none⟩) ps.length c9] 56 from ⟨HX3.out.1.kp hK.out (by have := HNE.out.1; omega), HX3.out.2.1.kp hK.out (by have := HNE.out.1; omega), HX3.out.2.2.kp hK.out (by have := HNE.out.1; omega), HBX.out.kp hK.out HNE.out.2⟩)
      have HEw := Hid.mk' (show Ext w wr from Kp.ext HEw3.out (fun x hx _ => by have hx : x = M := hx; have := HNE.out.1; omega) hK.out)
      have gT := HX4.out.2.1.cell
      have zT := HX4.out.2.1.lt
      by_cases hlt : k < es.length
      · obtain ⟨b, o, rfl, hb, hx⟩ := HES.out.row.at_ (i := k) (by simpa using hlt)
        obtain ⟨f0, f1, f2, f3, f4, f5, f6, f7⟩ := EL.at_ hlt hx hb HEw.out
        have hbw : b < wr.heap.size := Nat.lt_of_lt_of_le hb HEw.out.size
        have hlm : k < (es.map EL.e).length := by simpa using hlt
        have HST := Hid.mk' (stT_succ (ps := rs) (T := T) hlm)
        have HXT := Hid.mk' (evXat_at (ps := rs) (T := T) hlm)
        rw [List.getElem_map] at HST HXT
        have HR0 := Hid.mk' (HRZ2.out k hlt)
        have HXL := Hid.mk' (fun W (h : Ext w W) => (HES.out.sl _ (List.getElem_mem hlt)).ext h)
        have HXS := Hid.mk' (HSM.out _ (List.getElem_mem hlt))
        have HTK := Hid.mk' (HTB.out k (by omega))
        generalize stT rs T (es.map EL.e) k = Tk at hto HST HXT HTK
        obtain ⟨x, hxe⟩ : ∃ x, x = es[k] := ⟨_, rfl⟩
        rw [← hxe] at f0 f1 f2 f3 f4 f5 f6 f7 HST HXT HR0 HXL HXS
        have HLT := Hid.mk' hlt
        obtain ⟨⟨k1, ao1, av1, old1, b1, a1, r1, fl1⟩, ba1, bc1, aa1, ac1, ra1, rc1⟩ := x
        simp only at f0 f1 f2 f3 f4 f5 f6 f7 HST HXT HR0
        clear hxe hx hb hlm
        have i1 : (k : Int) < (es.length : Int) := by omega
        have hd1 : decide (es.length ≤ k) = false := decide_eq_false (by omega)
        have hd2 : decide ((es.length : Int) ≤ (k : Int)) = false := decide_eq_false (by omega)
        by_cases h7 : k1 = 7
        · subst h7
          have HRF := Hid.mk' (fun x hx => ev_refs HR0.out rfl x hx)
          have HST2 := Hid.mk' (HST.out.trans (show evT rs Tk _ = clrT Tk r1 from if_pos rfl))
          have HXT2 := Hid.mk' (HXT.out.trans (show evX rs Tk _ = 0 from if_pos rfl))
          have HSR := Hid.mk' (fun W (h : Ext w W) => (HXL.out W h).r)
          have HRN := Hid.mk' HXS.out.r
          simp only at HRF HSR HRN
          clear HST HXT HR0 HXL HXS HTK HRV
          go_upto_region 9 with (fail)
          have HMR := Hid.mk' (show M < wr.heap.size from hto.out.lt)
          obtain ⟨we, hwe⟩ : ∃ we, we = wr.alloc (.cells #[.int .u8 7, .int .u32 ao1, .int .u32 av1, .int .u8 old1, .slice ba1 b1.length bc1, .slice aa1 a1.length ac1, .slice ra1 r1.length rc1, .int .u8 fl1] 85) := ⟨_, rfl⟩
          have HWE := Hid.mk' (show Ext wr we by rw [hwe]; exact (Ext.refl wr).alloc _)
          have HXE := Hid.mk' (show Blk we wr.heap.size #[.int .u8 7, .int .u32 ao1, .int .u32 av1, .int .u8 old1, .slice ba1 b1.length bc1, .slice aa1 a1.length ac1, .slice ra1 r1.length rc1, .int .u8 fl1] 85 by rw [hwe]; exact Blk.new _ _ _)
          rw [← hwe]
          obtain ⟨XE, hXE⟩ : ∃ X, X = wr.heap.size := ⟨_, rfl⟩
          rw [← hXE] at HXE HMR ⊢
          have HTE := Hid.mk' (hto.out.ext HWE.out)
          clear f0 f1 f2 f3 f4 f5 f6 f7 hbw gT zT hwe hXE
          have gE := HXE.out.cell
          have zE := HXE.out.lt
          go_wp2
          go_loopg [12] r1.length (fun z i wq => ∃ j : Nat, z + j = r1.length ∧ i = .int .i64 j ∧ Hid (RTo wq M ps (clrT Tk (r1.take j))) ∧ Hid (Kp (fun x => x = M) we wq))
          case atStart => exact ⟨0, by omega, rfl, Hid.mk' (by rw [List.take_zero, clrT_zero]; exact HTE.out), Hid.mk' Kp.refl⟩
          case round =>
            obtain ⟨j, hzj, rfl, htq, hKq⟩ := hrel
            clear gE zE
            have HEq := Hid.mk' (show Ext w wr from Kp.ext (HEw.out.trans HWE.out) (fun x hx _ => by have hx : x = M := hx; have := HNE.out.1; omega) hKq.out)
            have HXQ := Hid.mk' (show Blk wr w.heap.size #[.slice a ps.length c, .slice ta ps.length tc] 56 ∧ Blk wr X #[.slice a ps.length c, .slice (some ⟨M, 0, none⟩) ps.length c9] 56 ∧ Blk wr XE #[.int .u8 7, .int .u32 ao1, .int .u32 av1, .int .u8 old1, .slice ba1 b1.length bc1, .slice aa1 a1.length ac1, .slice ra1 r1.length rc1, .int .u8 fl1] 85 from ⟨(HX4.out.1.ext HWE.out).kp hKq.out (by have := HNE.out.1; omega), (HX4.out.2.2.2.ext HWE.out).kp hKq.out HNE.out.2, HXE.out.kp hKq.out (by have := HMR.out; omega)⟩)
            have gE := HXQ.out.2.2.cell
            have zE := HXQ.out.2.2.lt
            by_cases hj : j < r1.length
            · obtain ⟨b2, o2, rfl, hb2, hx2⟩ := (HSR.out w (Ext.refl w)).at_ (i := j) (by simpa using hj)
              obtain ⟨g0, g1⟩ := Rf.at_ hj hx2 hb2 HEq.out
              have hbw2 : b2 < wr.heap.size := Nat.lt_of_lt_of_le hb2 HEq.out.size
              have HCS := Hid.mk' (clrT_succ Tk r1 hj)
              have HIN := Hid.mk' (HRF.out _ (List.getElem_mem hj))
              obtain ⟨q, hq⟩ : ∃ q, q = r1[j] := ⟨_, rfl⟩
              have HJ := Hid.mk' hj
              rw [← hq] at g0 g1 HCS HIN
              clear hq hx2 hb2
              obtain ⟨p, hp, hpl1, hp2, hp3⟩ := HPH.out _ _ HIN.out
              have HPQ := Hid.mk' (HPL.out q.o q.v)
              rw [hpl1] at HPQ
              have HPP := Hid.mk' (show p < ps.length ∧ ∃ h, (ps[p]'h).r.oid = q.o ∧ (ps[p]'h).r.ver = q.v from ⟨hp, hp, hp2, hp3⟩)
              have i2 : (j : Int) < (r1.length : Int) := by omega
              have hd3 : decide (r1.length ≤ j) = false := decide_eq_false (by omega)
              have hd4 : decide ((r1.length : Int) ≤ (j : Int)) = false := decide_eq_false (by omega)
              have i3 : (p : Int) < (ps.length : Int) := by omega
              clear hp2 hp3 hpl1
              have gB := HXQ.out.1.cell
              have zB := HXQ.out.1.lt
              have gX := HXQ.out.2.1.cell
              have zX := HXQ.out.2.1.lt
              go_upto_region 13 with (fail)
              have hA0 : Hid ((fun w' => Ext (wr) w' ∧ (∀ b o, b < (wr).heap.size → w'.cell? ⟨b, o, none⟩ = (wr).cell? ⟨b, o, none⟩) ∧ (∀ b o, b < (wr).heap.size → w'.frozen? ⟨b, o, none⟩ = (wr).frozen? ⟨b, o, none⟩)) wr.drew) := held_of (by exact eX)
              refine wp_region_head 9 (fun w' => Ext (wr) w' ∧ (∀ b o, b < (wr).heap.size → w'.cell? ⟨b, o, none⟩ = (wr).cell? ⟨b, o, none⟩) ∧ (∀ b o, b < (wr).heap.size → w'.frozen? ⟨b, o, none⟩ = (wr).frozen? ⟨b, o, none⟩)) (by kernel_rfl) (by decide) ?_
              refine HG.on 0 57 hA0.out ?_
              try simp only [Act.put, List.setIfInBounds_toArray, List.set_cons_zero, List.set_cons_succ]
              refine HG.on 1 58 hA0.out ?_
              try simp only [Act.put, List.setIfInBounds_toArray, List.set_cons_zero, List.set_cons_succ]
              refine HG.on 2 59 hA0.out ?_
              try simp only [Act.put, List.setIfInBounds_toArray, List.set_cons_zero, List.set_cons_succ]
              refine HG.on 3 60 hA0.out ?_
              try simp only [Act.put, List.setIfInBounds_toArray, List.set_cons_zero, List.set_cons_succ]
              refine HG.on 4 61 hA0.out ?_
              try simp only [Act.put, List.setIfInBounds_toArray, List.set_cons_zero, List.set_cons_succ]
              refine HG.on 5 62 hA0.out ?_
              try simp only [Act.put, List.setIfInBounds_toArray, List.set_cons_zero, List.set_cons_succ]
              refine HG.on 6 63 hA0.out ?_
              try simp only [Act.put, List.setIfInBounds_toArray, List.set_cons_zero, List.set_cons_succ]
              refine HG.on 7 64 hA0.out ?_
              try simp only [Act.put, List.setIfInBounds_toArray, List.set_cons_zero, List.set_cons_succ]
              refine wpHd_one (i := 8) rfl rfl (by kernel_rfl) (fun KK hK => ?_)
              go_simp
              refine (HPQ.out _ (HEq.out.trans (by exact eX))).mono ?_
              rintro e w5 ⟨rfl, hb5⟩
              have HB5 := Hid.mk' (show Ext wr w5 by exact eX)
              refine hK.out _ _ (held_of HB5.out) (fun hA => ?_)
              clear hK KK hA hA0 hb5 gB zB gX zX gE zE g0 g1 hbw2
              have HT5 := Hid.mk' (htq.out.ext HB5.out)
              obtain ⟨a5, n5, c5, gM, -⟩ := HT5.out.at_ hp
              have gMf := HT5.out.frozen
              have zM := HT5.out.lt
              have hd5 : decide (ps.length ≤ p) = false := decide_eq_false (by omega)
              have hd6 : decide ((ps.length : Int) ≤ (p : Int)) = false := decide_eq_false (by omega)
              refine wpHd_tail (by kernel_rfl) ?_
              simp only [List.drop_succ_cons, List.drop_zero]
              have hjr : j < r1.length := HJ.out
              have hrn : r1.length ≤ 1000 := HRN.out
              go_wp2
              go_roundg (r1.length - (j + 1))
              case measure => have := HJ.out; omega
              case rel =>
                refine ⟨j + 1, Nat.sub_add_cancel HJ.out, by go_num, Hid.mk' ?_, Hid.mk' ((hKq.out.trans (T := fun _ => False) (Kp.of_ext HB5.out) (fun _ h => h.elim)).trans (Kp.set (S := fun x => x = M) ⟨M, p, none⟩ _ rfl) (fun x hx _ => hx))⟩
                obtain ⟨h, e1, e2⟩ := HPP.out.2
                have h1 := HT5.out.set HSRT.out h (RwR.nil w5)
                rw [e1, e2] at h1
                rw [HCS.out]; exact h1
            · obtain rfl : j = r1.length := by omega
              rw [List.take_length] at htq
              go_wp2
              go_roundg (es.length - (k + 1))
              case measure => have := HLT.out; omega
              case rel => exact ⟨k + 1, Nat.sub_add_cancel HLT.out, by go_num, Hid.mk' (by rw [HST2.out]; exact htq.out), Hid.mk' (fun j hj => by
                by_cases e : j = k
                · subst e; exact HXT2.out
                · exact hz.out j (by omega)), Hid.mk' ((hK.out.trans (T := fun _ => False) (Kp.of_ext HWE.out) (fun _ h => h.elim)).trans hKq.out (fun x hx _ => hx))⟩
        · have h7' : (k1 == 7) = false := by simpa using h7
          obtain ⟨r, hr⟩ := ev_rel HR0.out h7
          obtain ⟨p, hp, hpl1, hp2, hpo, hpv⟩ := HRV.out _ _ r hr
          have HST2 := Hid.mk' (HST.out.trans (show evT rs Tk _ = Tk.put ao1 av1 (rowsL r.cols (Tk ao1 av1) ⟨k1, ao1, av1, old1, b1, a1, r1, fl1⟩) from by unfold evT; rw [if_neg h7]; simp only [hr]))
          have HXT2 := Hid.mk' (HXT.out.trans (show evX rs Tk _ = rowsE r.cols (Tk ao1 av1) ⟨k1, ao1, av1, old1, b1, a1, r1, fl1⟩ from by unfold evX; rw [if_neg h7]; simp only [hr]))
          have HBN := Hid.mk' (fun hne => HBD2.out k hz.out hlt hne)
          have HPQ := Hid.mk' (HPL.out ao1 av1)
          rw [hpl1] at HPQ
          obtain ⟨b3, o3, rfl, hb3, hx3⟩ := HL.out.row.at_ (i := p) (by simpa using hp)
          have HF3 := Hid.mk' (fun W (h : Ext w W) => (show _ ∧ b3 < W.heap.size from ⟨RR.at_ hp hx3 hb3 h, Nat.lt_of_lt_of_le hb3 h.size⟩))
          have HIN := Hid.mk' (fun W (h : Ext w W) => (show (ps[p]).in W from RR.in.ext (HL.out.sl _ (List.getElem_mem hp)) h))
          have HC := Hid.mk' (HCOL.out _ (List.getElem_mem hp))
          have HPP := Hid.mk' (show ∃ h : p < ps.length, (ps[p]'h).r.oid = ao1 ∧ (ps[p]'h).r.ver = av1 from ⟨hp, by rw [hp2]; exact hpo, by rw [hp2]; exact hpv⟩)
          obtain ⟨y, hy⟩ : ∃ y, y = ps[p]'hp := ⟨_, rfl⟩
          rw [← hy] at HF3 HIN HC hp2
          have HP := Hid.mk' hp
          have i3 : (p : Int) < (ps.length : Int) := by omega
          clear hy hx3 hb3 hpl1 HST HXT HR0 hr h7
          subst hp2
          obtain ⟨⟨oid, ver, nm, id, cols⟩, pa, pc⟩ := y
          unfold RR.in at HIN
          simp only at HF3 HIN HC HST2 HXT2 hpo hpv
          subst hpo hpv
          go_upto_region 9 with (fail)
          obtain ⟨we, hwe⟩ : ∃ we, we = wr.alloc (.cells #[.int .u8 k1, .int .u32 oid, .int .u32 ver, .int .u8 old1, .slice ba1 b1.length bc1, .slice aa1 a1.length ac1, .slice ra1 r1.length rc1, .int .u8 fl1] 85) := ⟨_, rfl⟩
          have HWE := Hid.mk' (show Ext wr we by rw [hwe]; exact (Ext.refl wr).alloc _)
          have HXE := Hid.mk' (show Blk we wr.heap.size #[.int .u8 k1, .int .u32 oid, .int .u32 ver, .int .u8 old1, .slice ba1 b1.length bc1, .slice aa1 a1.length ac1, .slice ra1 r1.length rc1, .int .u8 fl1] 85 by rw [hwe]; exact Blk.new _ _ _)
          rw [← hwe]
          obtain ⟨XE, hXE⟩ : ∃ X, X = wr.heap.size := ⟨_, rfl⟩
          rw [← hXE] at HXE ⊢
          have HEE := Hid.mk' (HEw.out.trans HWE.out)
          have HX5 := Hid.mk' (And.intro (HX4.out.1.ext HWE.out) (And.intro (HX4.out.2.2.1.ext HWE.out) (HX4.out.2.2.2.ext HWE.out)))
          have HTE := Hid.mk' (hto.out.ext HWE.out)
          have HKE := Hid.mk' (hK.out.trans (T := fun _ => False) (Kp.of_ext HWE.out) (fun _ h => h.elim))
          clear f0 f1 f2 f3 f4 f5 f6 f7 hbw gT zT hwe hXE HX4 hto hK HWE HEw
          have gE := HXE.out.cell
          have zE := HXE.out.lt
          have gB := HX5.out.1.cell
          have zB := HX5.out.1.lt
          go_upto_region 15 with (go_at_call 47; refine (HPQ.out _ (HEE.out.trans (by exact eX))).mono ?_; rintro e w5 ⟨rfl, hb5⟩; have HB5 := Hid.mk' (show Ext we w5 by exact eX); clear hb5)
          clear gE zE gB zB
          have HE5 := Hid.mk' (HEE.out.trans HB5.out)
          have HT5 := Hid.mk' (HTE.out.ext HB5.out)
          have HX6 := Hid.mk' (And.intro (HX5.out.1.ext HB5.out) (And.intro (HX5.out.2.1.ext HB5.out) (HX5.out.2.2.ext HB5.out)))
          have HXE5 := Hid.mk' (HXE.out.ext HB5.out)
          have HK5 := Hid.mk' (HKE.out.trans (T := fun _ => False) (Kp.of_ext HB5.out) (fun _ h => h.elim))
          clear HX5 HXE HTE HKE
          obtain ⟨a5, n5, c5, gM, hr5⟩ := HT5.out.at_ HP.out
          obtain ⟨_, e1, e2⟩ := HPP.out
          rw [e1, e2] at hr5
          clear e1 e2
          have HR5 := Hid.mk' hr5
          clear hr5
          have zM := HT5.out.lt
          obtain ⟨⟨f0, f1, f2, f3, f4⟩, hbw⟩ := HF3.out w5 HE5.out
          have gE := HXE5.out.cell
          have zE := HXE5.out.lt
          have gB := HX6.out.1.cell
          have zB := HX6.out.1.lt
          have gX := HX6.out.2.2.cell
          have zX := HX6.out.2.2.lt
          have hn5 : 0 ≤ n5 := Nat.zero_le _
          have HRQ := Hid.mk' (fun W (h : Ext w5 W) => rrows_any oid ver nm id cols pa pc (.slice a5 n5 c5) (Tk oid ver) ⟨⟨k1, oid, ver, old1, b1, a1, r1, fl1⟩, ba1, bc1, aa1, ac1, ra1, rc1⟩ W (HIN.out W (HE5.out.trans h)) (by have := HC.out; omega) (HR5.out.ext h) (HTK.out.n oid ver) (HTK.out.r oid ver) (HXL.out W (HE5.out.trans h)) HXS.out)
          unfold RRowsPost EL.agg at HRQ
          simp only at HRQ
          generalize rowsE cols (Tk oid ver) ⟨k1, oid, ver, old1, b1, a1, r1, fl1⟩ = E7 at HRQ HXT2
          generalize rowsL cols (Tk oid ver) ⟨k1, oid, ver, old1, b1, a1, r1, fl1⟩ = L7 at HRQ HST2
          have hd5 : decide (ps.length ≤ p) = false := decide_eq_false (by omega)
          have hd6 : decide ((ps.length : Int) ≤ (p : Int)) = false := decide_eq_false (by omega)
          have hA0 : Hid ((fun w' => Ext (w5) w' ∧ (∀ b o, b < (w5).heap.size → w'.cell? ⟨b, o, none⟩ = (w5).cell? ⟨b, o, none⟩) ∧ (∀ b o, b < (w5).heap.size → w'.frozen? ⟨b, o, none⟩ = (w5).frozen? ⟨b, o, none⟩)) w5.drew) := held_of (by exact eX)
          refine wp_region_head 16 (fun w' => Ext (w5) w' ∧ (∀ b o, b < (w5).heap.size → w'.cell? ⟨b, o, none⟩ = (w5).cell? ⟨b, o, none⟩) ∧ (∀ b o, b < (w5).heap.size → w'.frozen? ⟨b, o, none⟩ = (w5).frozen? ⟨b, o, none⟩)) (by kernel_rfl) (by decide) ?_
          refine HG.on 0 72 hA0.out ?_
          try simp only [Act.put, List.setIfInBounds_toArray, List.set_cons_zero, List.set_cons_succ]
          refine HG.on 1 73 hA0.out ?_
          try simp only [Act.put, List.setIfInBounds_toArray, List.set_cons_zero, List.set_cons_succ]
          refine HG.on 2 74 hA0.out ?_
          try simp only [Act.put, List.setIfInBounds_toArray, List.set_cons_zero, List.set_cons_succ]
          refine HG.on 3 75 hA0.out ?_
          try simp only [Act.put, List.setIfInBounds_toArray, List.set_cons_zero, List.set_cons_succ]
          refine HG.on 4 76 hA0.out ?_
          try simp only [Act.put, List.setIfInBounds_toArray, List.set_cons_zero, List.set_cons_succ]
          refine HG.on 5 77 hA0.out ?_
          try simp only [Act.put, List.setIfInBounds_toArray, List.set_cons_zero, List.set_cons_succ]
          refine HG.on 6 78 hA0.out ?_
          try simp only [Act.put, List.setIfInBounds_toArray, List.set_cons_zero, List.set_cons_succ]
          refine HG.on 7 79 hA0.out ?_
          try simp only [Act.put, List.setIfInBounds_toArray, List.set_cons_zero, List.set_cons_succ]
          refine HG.on 8 80 hA0.out ?_
          try simp only [Act.put, List.setIfInBounds_toArray, List.set_cons_zero, List.set_cons_succ]
          refine HG.on 9 81 hA0.out ?_
          try simp only [Act.put, List.setIfInBounds_toArray, List.set_cons_zero, List.set_cons_succ]
          refine HG.on 10 82 hA0.out ?_
          try simp only [Act.put, List.setIfInBounds_toArray, List.set_cons_zero, List.set_cons_succ]
          refine wpHd_one (i := 11) rfl rfl (by kernel_rfl) (fun KK hK => ?_)
          go_simp
          refine (HRQ.out _ (by exact eX)).mono ?_
          rintro e w7 ⟨v7, rfl, hr7, hb7⟩
          obtain ⟨a7, n7, c7, rfl⟩ := hr7.isSl
          have HR7 := Hid.mk' hr7
          have HB7 := Hid.mk' (show Ext w5 w7 by exact eX)
          refine hK.out _ _ (held_of HB7.out) (fun hA => ?_)
          clear hK KK hA hA0 hr7 hb7
          have hA0 : Hid ((fun w' => Ext (w5) w' ∧ (∀ b o, b < (w5).heap.size → w'.cell? ⟨b, o, none⟩ = (w5).cell? ⟨b, o, none⟩) ∧ (∀ b o, b < (w5).heap.size → w'.frozen? ⟨b, o, none⟩ = (w5).frozen? ⟨b, o, none⟩)) w7) := held_of HB7.out
          refine HG.on 12 71 hA0.out ?_
          try simp only [Act.put, List.setIfInBounds_toArray, List.set_cons_zero, List.set_cons_succ]
          refine HG.on 13 84 hA0.out ?_
          try simp only [Act.put, List.setIfInBounds_toArray, List.set_cons_zero, List.set_cons_succ]
          refine HG.on 14 85 hA0.out ?_
          try simp only [Act.put, List.setIfInBounds_toArray, List.set_cons_zero, List.set_cons_succ]
          refine HG.on 15 14 hA0.out ?_
          try simp only [Act.put, List.setIfInBounds_toArray, List.set_cons_zero, List.set_cons_succ]
          clear hA0 gM zM f0 f1 f2 f3 f4 hbw gE zE gB zB gX zX
          refine wpHd_tail (by kernel_rfl) ?_
          simp only [List.drop_succ_cons, List.drop_zero]
          have HX8 := Hid.mk' (And.intro (HX6.out.1.ext HB7.out) (And.intro (HX6.out.2.1.ext HB7.out) (HX6.out.2.2.ext HB7.out)))
          have HE7 := Hid.mk' (HE5.out.trans HB7.out)
          by_cases h70 : E7 = 0
          case neg =>
            have hE71 : (E7 != 0) = true := by simpa using h70
            have HAB := Hid.mk' (HBN.out (by rw [HXT2.out]; exact h70))
            rw [HXT2.out, HRS.out] at HAB
            clear HBN HXT2 HST2 h70
            have gB := HX8.out.1.cell
            have zB := HX8.out.1.lt
            have gZ := HX8.out.2.1.cell
            have gZf := HX8.out.2.1.frozen
            have zZ := HX8.out.2.1.lt
            go_wp2
            refine bodyPost_ret (res_base (Blk.twoB HX8.out.2.1) rfl rfl rfl) rfl ?_
            exact RApPost.same HAB.out HRT.out (Ext.twoB HE7.out (by omega))
          subst h70
          have HT7 := Hid.mk' (HT5.out.ext HB7.out)
          have gX := HX8.out.2.2.cell
          have zX := HX8.out.2.2.lt
          obtain ⟨a6, n6, c6, gM, -⟩ := HT7.out.at_ HP.out
          have gMf := HT7.out.frozen
          have zM := HT7.out.lt
          have hlt2 : k < es.length := HLT.out
          go_wp2
          go_roundg (es.length - (k + 1))
          case measure => omega
          case rel =>
            refine ⟨k + 1, Nat.sub_add_cancel HLT.out, by go_num, Hid.mk' ?_, Hid.mk' (fun j hj => by
              by_cases e : j = k
              · subst e; exact HXT2.out
              · exact hz.out j (by omega)), Hid.mk' ((HK5.out.trans (T := fun _ => False) (Kp.of_ext HB7.out) (fun _ h => h.elim)).trans (Kp.set (S := fun x => x = M) ⟨M, p, none⟩ _ rfl) (fun x hx _ => hx))⟩
            obtain ⟨h, e1, e2⟩ := HPP.out
            have h1 := HT7.out.set HSRT.out h HR7.out
            rw [e1, e2] at h1
            rw [HST2.out]; exact h1
      · obtain rfl : k = es.length := by omega
        have HG := Hid.mk' (HGD2.out (fun i hi => hz.out i hi))
        rw [HRS.out] at HG hto
        clear gT zT
        have gZ := HX4.out.2.2.1.cell
        have gZf := HX4.out.2.2.1.frozen
        have zZ := HX4.out.2.2.1.lt
        have gX := HX4.out.2.2.2.cell
        have zX := HX4.out.2.2.2.lt
        have gT := HX4.out.2.1.cell
        have zT := HX4.out.2.1.lt
        go_wp2
        refine bodyPost_ret (res_base (Blk.twoB HX4.out.2.2.1) rfl rfl rfl) rfl ?_
        refine ⟨_, _, by rw [HG.out.1, HG.out.2.1]; rfl, ?_, Ext.twoB HEw.out (by omega)⟩
        rw [HG.out.2.2]
        exact (hto.out.cold ⟨_, _, _, _, _, _, HX4.out.2.2.1⟩ Kp.twoB).rt c9

end Go.Proofs.YtdgalkljngigeaaGreat
