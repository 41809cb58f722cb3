/-
Tables in plain words: no two rows of a keyed table have the same key.
-/
import Derived.Test.YtkhlgoafeacdcaaGreatP12
namespace Go.Proofs.YtkhlgoafeacdcaaGreat
open Go.RowKit

theorem img_alen {r : Rl} {kind old : Int} {b a : List K} (h : imgE r kind old b a = 0) (hk : kind ≠ 6) : a.length = r.cols.length := by
  unfold imgE at h
  split at h
  · cases h
  split at h
  · cases h
  split at h
  · cases h
  split at h
  · cases h
  split at h
  · cases h
  split at h
  · rename_i h6; exact absurd h h6.2
  split at h
  · rename_i h7; exact absurd h h7.2
  (try rw [if_neg hk] at h)
  split at h
  · rename_i h8; exact absurd h h8.2
  rename_i h8
  split at h
  · rename_i h9; exact absurd h h9.2
  rename_i h9
  by_cases h4' : kind = 4
  · have h10 : isFullE a r = 0 := Classical.byContradiction fun q => h8 ⟨h4', q⟩
    unfold isFullE at h10
    by_cases h0 : keyedE a r = 0
    · exact (fits_zero (keyed_fits h0)).2.1
    · rw [if_pos h0] at h10; exact absurd h10 h0
  · exact (fits_zero (keyed_fits (Classical.byContradiction fun q => h9 ⟨h4', q⟩))).2.1
theorem keyQ_iff {cols : List Col} {x y : List K} : keyQ cols x y = true ↔ keyOf cols x = keyOf cols y := rowB_true
/-- Rows of a keyed relation: each as long as its columns, no two with the same key. -/
structure KeyL (cols : List Col) (l : List (List K)) : Prop where
  n : ∀ x ∈ l, x.length = cols.length
  k : ∀ i j (hi : i < l.length) (hj : j < l.length), i ≠ j → keyOf cols l[i] ≠ keyOf cols l[j]
theorem KeyL.nil (cols : List Col) : KeyL cols [] := ⟨(fun x h => by cases h), (fun i j hi => by simp at hi)⟩
theorem KeyL.pw {cols : List Col} {l : List (List K)} : KeyL cols l ↔ (∀ x ∈ l, x.length = cols.length) ∧ l.Pairwise (fun x y => keyOf cols x ≠ keyOf cols y) := by
  constructor
  · intro h
    refine ⟨h.n, List.pairwise_iff_getElem.2 fun i j hi hj hij => h.k i j hi hj (by omega)⟩
  · rintro ⟨h1, h2⟩
    refine ⟨h1, fun i j hi hj hne => ?_⟩
    rcases Nat.lt_or_ge i j with h | h
    · exact List.pairwise_iff_getElem.1 h2 i j hi hj h
    · exact (List.pairwise_iff_getElem.1 h2 j i hj hi (by omega)).symm
theorem byKey_none {cols : List Col} {l : List (List K)} {w : List K} {but : Int} (h : byKeyI cols l w but < 0) : ∀ i (hi : i < l.length), (i : Int) ≠ but → keyOf cols l[i] ≠ keyOf cols w := by
  intro i hi hne e
  have h1 := (idxI_neg h).2 i hi
  rw [decide_eq_true hne, Bool.true_and, List.getD_eq_getElem?_getD, List.getElem?_eq_getElem hi] at h1
  rw [show keyQ cols ((some l[i]).getD []) w = true from keyQ_iff.2 e] at h1
  cases h1
theorem taken_none {cols : List Col} {l : List (List K)} {w : List K} {but : Int} (hk : rkey cols = true) (h : takenB cols l w but = false) : byKeyI cols l w but < 0 := by
  unfold takenB at h
  rw [hk, Bool.true_and] at h
  have := of_decide_eq_false h
  omega
theorem KeyL.snoc {cols : List Col} {l : List (List K)} {w : List K} (h : KeyL cols l) (hw : w.length = cols.length) (hn : byKeyI cols l w (-1) < 0) : KeyL cols (l ++ [w]) := by
  rw [KeyL.pw] at h ⊢
  refine ⟨fun x hx => ?_, List.pairwise_append.2 ⟨h.2, List.pairwise_singleton _ _, fun x hx y hy => ?_⟩⟩
  · rcases List.mem_append.1 hx with hx | hx
    · exact h.1 x hx
    · rw [List.mem_singleton.1 hx]; exact hw
  · rw [List.mem_singleton.1 hy]
    obtain ⟨i, hi, rfl⟩ := List.getElem_of_mem hx
    exact byKey_none hn i hi (by omega)
theorem KeyL.erase {cols : List Col} {l : List (List K)} (h : KeyL cols l) (i : Nat) : KeyL cols (l.eraseIdx i) := by
  rw [KeyL.pw] at h ⊢
  exact ⟨fun x hx => h.1 x (List.mem_of_mem_eraseIdx hx), h.2.sublist (List.eraseIdx_sublist ..)⟩
theorem KeyL.set {cols : List Col} {l : List (List K)} {w : List K} {k : Nat} (h : KeyL cols l) (hw : w.length = cols.length) (hn : byKeyI cols l w k < 0) : KeyL cols (l.set k w) := by
  refine ⟨fun x hx => ?_, fun i j hi hj hne => ?_⟩
  · rcases List.mem_or_eq_of_mem_set hx with h1 | h1
    · exact h.n x h1
    · rw [h1]; exact hw
  · rw [List.length_set] at hi hj
    rw [List.getElem_set, List.getElem_set]
    split
    · rename_i e
      subst e
      rw [if_neg hne]
      exact (byKey_none hn j hj (by omega)).symm
    · rename_i e
      split
      · rename_i e2
        subst e2
        exact byKey_none hn i hi (by omega)
      · exact h.k i j hi hj hne
/-- What an event of a row makes of such rows. -/
theorem KeyL.rows {r : Rl} {l : List (List K)} {e : Ev} (h : KeyL r.cols l) (hk : rkey r.cols = true) (hi : imgE r e.kind e.old e.b e.a = 0) (h0 : rowsE r.cols l e = 0) : KeyL r.cols (rowsL r.cols l e) := by
  unfold rowsL
  rw [if_neg (by simpa using h0)]
  unfold rowsE at h0
  by_cases h4 : e.kind = 4
  · rw [if_pos h4] at h0 ⊢
    have ht : takenB r.cols l e.a (-1) = false := by
      cases ht : takenB r.cols l e.a (-1) with
      | false => rfl
      | true => rw [ht] at h0; cases h0
    exact h.snoc (img_alen hi (by omega)) (taken_none hk ht)
  · rw [if_neg h4] at h0 ⊢
    by_cases hfd : fndE r.cols l e = 0
    case neg => rw [if_pos hfd] at h0; exact absurd h0 hfd
    rw [if_neg (by simpa using hfd)] at h0
    by_cases h6 : e.kind = 6
    · rw [if_pos h6]; exact h.erase _
    · rw [if_neg h6] at h0 ⊢
      have ht : takenB r.cols l (newR r.cols l e) (atI r.cols l e) = false := by
        cases ht : takenB r.cols l (newR r.cols l e) (atI r.cols l e) with
        | false => rfl
        | true => rw [ht] at h0; cases h0
      have hat : 0 ≤ atI r.cols l e := by
        unfold fndE at hfd
        split at hfd
        · cases hfd
        · split at hfd
          · cases hfd
          · omega
      obtain ⟨k, hk2⟩ := Int.eq_ofNat_of_zero_le hat
      have hb := taken_none hk ht
      have hnl : (newR r.cols l e).length = r.cols.length := by
        rw [newR_len]
        exact img_alen hi h6
      generalize newR r.cols l e = x at hb hnl ⊢
      rw [hk2] at hb ⊢
      rw [Int.toNat_natCast]
      exact h.set hnl hb
/-- So of all tables. -/
def KeyI (ps : List Rl) (T : Tb) : Prop := ∀ o v r, getR o v ps = some r → rkey r.cols = true → KeyL r.cols (T o v)
theorem KeyI.nil (ps : List Rl) : KeyI ps T0 := fun _ _ r _ _ => KeyL.nil r.cols
theorem KeyI.ev {ps : List Rl} {T : Tb} {e : Ev} (h : KeyI ps T) (he : evE e ps = 0) (hx : evX ps T e = 0) : KeyI ps (evT ps T e) := by
  intro o v r hr hk
  unfold evT
  unfold evX at hx
  by_cases h7 : e.kind = 7
  · rw [if_pos h7]
    unfold clrT
    split
    · exact KeyL.nil _
    · exact h o v r hr hk
  · rw [if_neg h7] at hx ⊢
    unfold evE at he
    split at he
    · cases he
    · split at he
      · cases he
      · (try rw [if_neg h7] at he)
        cases hg : getR e.ao e.av ps with
        | none => rw [hg] at he; cases he
        | some q =>
          rw [hg] at he hx
          unfold Tb.put
          simp only at hx ⊢
          split
          · rename_i hov
            obtain ⟨rfl, rfl⟩ := hov
            rw [hg] at hr
            cases hr
            exact (h _ _ _ hg hk).rows hk he hx
          · exact h o v r hr hk
theorem KeyI.st {ps : List Rl} {T : Tb} {es : List Ev} (h : KeyI ps T) (he : ∀ e ∈ es, evE e ps = 0) (hx : ∀ i, i < es.length → evXat ps T es i = 0) : ∀ k, k ≤ es.length → KeyI ps (stT ps T es k)
  | 0, _ => h
  | k + 1, hk => by
    have h1 : k < es.length := by omega
    rw [stT_succ h1]
    have h2 := hx k h1
    rw [evXat_at h1] at h2
    exact (KeyI.st h he hx k (by omega)).ev (he _ (List.getElem_mem h1)) h2
theorem KeyI.ap {ps : List Rl} {T : Tb} {t : Tx} (h : KeyI ps T) : KeyI ps (apT ps T t) := by
  unfold apT
  split
  · exact h
  · rename_i h0
    obtain ⟨h1, h2⟩ := ap_bits (by simpa using h0)
    exact h.st (rt_bits h1).2.2 h2 _ (Nat.le_refl _)
/-- Each row is found by its own key. -/
theorem KeyL.find {cols : List Col} {l : List (List K)} (h : KeyL cols l) {k : Nat} (hk : k < l.length) : byKeyI cols l l[k] (-1) = k := by
  unfold byKeyI
  refine idxI_at (k := k) (fun i hi => ?_) ?_ hk
  · rw [List.getD_eq_getElem?_getD, List.getElem?_eq_getElem (by omega)]
    rw [Bool.and_eq_false_iff]
    right
    cases hq : keyQ cols ((some l[i]).getD []) l[k] with
    | false => rfl
    | true => exact absurd (keyQ_iff.1 hq) (h.k i k (by omega) hk (by omega))
  · rw [List.getD_eq_getElem?_getD, List.getElem?_eq_getElem hk, Bool.and_eq_true]
    exact ⟨decide_eq_true (by omega), keyQ_iff.2 rfl⟩

end Go.Proofs.YtkhlgoafeacdcaaGreat

/-
Has a relation a column of the key: the reference's answer.
-/
namespace Go.Proofs.YtkhlgoafeacdcaaGreat
open Go.RowKit

set_option maxRecDepth 100000 in set_option maxHeartbeats 4000000 in
theorem rkd_any (oid ver : Int) (nm : ByteArray) (id : Int) (cols : List Col) (a2 : Option Addr) (cap2 : Nat) (w : World) (hl : Sl w (.slice a2 cols.length cap2) 3 (cols.map Col.cells)) (hlen : cols.length ≤ 1000) :
    Calls Tryz.prog 28 #[.agg #[.int .u32 oid, .int .u32 ver, .string nm, .int .u8 id, .slice a2 cols.length cap2]] w fun e w' => e = .returned (.bool (rkey cols)) ∧ Ext w w' := by
  have HL := Hid.mk' hl
  obtain ⟨RES, hRES⟩ : ∃ R, R = rkey cols := ⟨_, rfl⟩
  rw [← hRES]
  have HR := Hid.mk' hRES
  clear hl hRES
  go_enter Tryz.func28, Tryz.ntmps28
  have HX := Hid.mk' (Blk.new w #[.int .u32 oid, .int .u32 ver, .string nm, .int .u8 id, .slice a2 cols.length cap2] 51)
  go_wp2
  go_loopw [3] (fun i wr => ∃ k : Nat, k ≤ cols.length ∧ i = .int .i64 k ∧ Hid (∀ j (h : j < cols.length), j < k → cols[j].key = false) ∧ Hid (Ext (w.alloc (.cells #[.int .u32 oid, .int .u32 ver, .string nm, .int .u8 id, .slice a2 cols.length cap2] 51)) wr)) (fun i _ => cols.length - (intOf i).toNat)
  case atStart => exact ⟨0, Nat.zero_le _, rfl, Hid.mk' (fun j _ h => by omega), Hid.mk' (Ext.refl _)⟩
  case round =>
    obtain ⟨k, hk, rfl, hz, hE⟩ := hrel
    have gX := (HX.out.ext hE.out).cell
    have zX := (HX.out.ext hE.out).lt
    have HEF := Hid.mk' (show Ext w wr from ((Ext.refl w).alloc _).trans hE.out)
    by_cases hlt : k < cols.length
    · obtain ⟨b, o, rfl, hb, hx⟩ := HL.out.at_ (i := k) (by simpa using hlt)
      obtain ⟨f0, f1, f2⟩ := Col.at_ hlt hx hb HEF.out
      have hbw : b < wr.heap.size := Nat.lt_of_lt_of_le hb HEF.out.size
      have HLT := Hid.mk' hlt
      obtain ⟨B, hB⟩ : ∃ B, B = cols[k].key := ⟨_, rfl⟩
      have f2' : wr.cell? ⟨b, o + k * 3 + 2, none⟩ = some (.bool B) := by rw [hB]; exact f2
      clear f2
      cases hkk : B with
      | true =>
        have HRT := Hid.mk' (show RES = true from by
          rw [HR.out]
          unfold rkey
          exact List.any_eq_true.2 ⟨_, List.getElem_mem hlt, hB.symm.trans hkk⟩)
        rw [hkk] at f2'
        clear hx hkk hB
        go_wp2
        go_ret
        exact ⟨ret_bool HRT.out.symm, HEF.out⟩
      | false =>
        rw [hkk] at f2'
        have HK2 := Hid.mk' (hB.symm.trans hkk)
        clear hx hkk hB
        go_wp2
        go_roundw
        case rel => exact ⟨k + 1, HLT.out, by go_num, Hid.mk' (fun j hj hjk => by
          by_cases e : j = k
          · subst e; exact HK2.out
          · exact hz.out j hj (by omega)), hE⟩
        case measure => have := HLT.out; simp [intOf]; omega
    · obtain rfl : k = cols.length := by omega
      have HRT := Hid.mk' (show RES = false from by
        rw [HR.out]
        unfold rkey
        rw [Bool.eq_false_iff]
        intro h
        obtain ⟨c, hc, h1⟩ := List.any_eq_true.1 h
        obtain ⟨j, hj, rfl⟩ := List.getElem_of_mem hc
        rw [hz.out j hj hj] at h1
        cases h1)
      go_wp2
      go_ret
      exact ⟨ret_bool HRT.out.symm, HEF.out⟩

end Go.Proofs.YtkhlgoafeacdcaaGreat

/-
The walk of TableKeys.
-/
namespace Go.Proofs.YtkhlgoafeacdcaaGreat
open Go.RowKit Go.Maps

theorem findP_key {L : List Rl} {T : Tb} {o v : Int} {r : Rl} (hg : getR o v L = some r) (hk : rkey r.cols = true) (h : KeyL r.cols (T o v)) {j : Nat} (hj : j < (T o v).length) : findP L T o v (T o v)[j] = some (T o v)[j] := by
  unfold findP
  rw [hg]
  simp only
  rw [if_neg (by rw [h.n _ (List.getElem_mem hj), hk]; simp), h.find hj, if_neg (by omega), Int.toNat_natCast, List.getD_eq_getElem?_getD, List.getElem?_eq_getElem hj]
  rfl

set_option maxRecDepth 100000 in set_option maxHeartbeats 8000000 in
theorem tablekeys_law (ps : List RR) (a : Option Addr) (cap : Nat) (ts : List TL) (ta : Option Addr) (tc : Nat) (w : World) (hl : RL w (.slice a ps.length cap) ps) (hb : ∀ p ∈ ps, p.r.wb) (hlen : ps.length ≤ 9223372036854775807) (hB : ∀ p ∈ ps, B32 p.r.oid ∧ B32 p.r.ver) (ht : TS 6 K.rc w (.slice ta ts.length tc) ts) (hnt : ts.length ≤ 9223372036854775807) (hz : ∀ p ∈ ts, p.sz) :
    Calls Tryz.prog 5 #[.slice a ps.length cap, .slice ta ts.length tc] w fun e w' => e = .returned (.bool true) ∧ Ext w w' := by
  have HB := Hid.mk' hb
  have HL := Hid.mk' hl
  have HT := Hid.mk' ht
  have HZ := Hid.mk' hz
  have HB32 := Hid.mk' hB
  have HGR := Hid.mk' (fun W (h : Ext w W) => greatT_any ps ts a ta cap tc W (hl.ext h) (ht.ext h) hlen hnt hb hz)
  have HIN := Hid.mk' (fun W (h : Ext w W) => in16_any ps a cap W (hl.ext h) hb hlen)
  clear hl hb ht hz hlen hnt hB
  by_cases hA : ofE (ps.map RR.r) = 0
  case neg =>
    rw [decide_eq_false hA] at HIN
    clear hA
    go_enter Tryz.func5, Tryz.ntmps5
    go_wp2_with (first
      | (go_at_call 6; refine (HGR.out _ (Ext.refl _)).mono ?_; rintro e w2 ⟨g, rfl, -, hb2⟩; have HB2 := Hid.mk' hb2; clear hb2; cases g)
      | (go_at_call 7; refine (HIN.out _ HB2.out).mono ?_; rintro e w3 ⟨rfl, hb3⟩; have HB3 := Hid.mk' (HB2.out.trans hb3); clear hb3))
    all_goals
      go_ret
      first | exact ⟨rfl, HB3.out⟩ | exact ⟨rfl, HB2.out⟩
  rw [decide_eq_true hA] at HIN
  have HA := Hid.mk' hA
  clear hA
  go_enter Tryz.func5, Tryz.ntmps5
  go_upto_region 3 with (first
      | (go_at_call 6; refine (HGR.out _ (Ext.refl _)).mono ?_; rintro e w2 ⟨g, rfl, hg, hb2⟩; have HG := Hid.mk' hg; have HB2 := Hid.mk' hb2; clear hb2 hg; cases g)
      | (go_at_call 7; refine (HIN.out _ HB2.out).mono ?_; rintro e w3 ⟨rfl, hb3⟩; have HB3 := Hid.mk' (HB2.out.trans hb3); clear hb3))
  all_goals try (go_ret; first | exact ⟨rfl, HB3.out⟩ | exact ⟨rfl, HB2.out⟩)
  have HLT := Hid.mk' (HG.out (by first | exact rfl | exact trivial))
  have hn70 : ps.length ≤ 1000 := by have := HLT.out.n; omega
  have HOW := Hid.mk' (fun W (h : Ext w W) => own16_any ps a cap W (HL.out.ext h) HB.out hn70 HA.out)
  unfold Own16Post at HOW
  clear HG HGR HIN hn70
  go_upto_region 6 with (go_at_call 8; refine (HOW.out _ HB3.out).mono ?_; rintro e w4 ⟨G0, c0, q0, rfl, hz0, hc0, hq0, hb4⟩; have HC0 := Hid.mk' hc0; have HQ0 := Hid.mk' hq0; have HB4 := Hid.mk' (HB3.out.trans hb4); clear hz0 hc0 hq0 hb4)
  have HBQ := Hid.mk' (ofUp_b32 HQ0.out HB32.out)
  have HN1 := Hid.mk' (fun W (h : Ext w4 W) => tnew_any _ _ c0 q0 W (HC0.out.ext h) HBQ.out)
  clear HOW HB3 HB2 HB
  go_upto_region 9 with (go_at_call 9; refine (HN1.out _ (Ext.refl _)).mono ?_; rintro e w5 ⟨G, qx, rfl, hgx, hbx, hqx, hb5⟩; have HX5 := Hid.mk' hbx; have HQX := Hid.mk' hqx; have HB5 := Hid.mk' (HB4.out.trans hb5); have HGX := Hid.mk' hgx; clear hgx hbx hqx hb5)
  have HW0 := Hid.mk' (show w.heap.size ≤ G by have := HGX.out; have := HB4.out.size; omega)
  have HGL := Hid.mk' (show G < w5.heap.size from HX5.out.lt)
  have HBX := Hid.mk' (b32_of HQX.out HBQ.out)
  obtain ⟨L, hL⟩ : ∃ L, L = ofUp (ps.map RR.r) ps.length := ⟨_, rfl⟩
  have HLX := Hid.mk' (show qx.map RR.r = L by rw [HQX.out, HQ0.out, hL])
  have HGT := Hid.mk' (fun p (hp : p ∈ ps) => (show getR p.r.oid p.r.ver L = some p.r by rw [hL]; exact ofUp_get HA.out hp))
  clear hL HC0 HB4 HGX HBQ HN1 HQX HQ0 HA
  have HLA := Hid.mk' (HLT.out.ok)
  have HTX := Hid.mk' (fun W (h : Ext w W) => txs_any ts ta tc W (HT.out.ext h) HLA.out.1 HLA.out.2.1 HLA.out.2.2.1)
  go_upto_region 10 with (go_at_call 10; refine (HTX.out _ HB5.out).mono ?_; rintro e w7 ⟨a5, c5, qs, rfl, ho5, hb5⟩; have HO5 := Hid.mk' ho5; have HE7 := Hid.mk' hb5; clear ho5 hb5)
  have HWK : Hid (∀ t ∈ ts, ∀ e ∈ t.es, e.e.wk) := Hid.mk' (fun t ht e he => by have h := (HZ.out t ht).e e he; exact ⟨h.sb, h.sa, h.old.1⟩)
  have HSM5 := Hid.mk' (HO5.out.sm HLA.out.2.1 HLA.out.2.2.1)
  have HWK5 := Hid.mk' (HO5.out.wk HWK.out)
  have hql : qs.length = ts.length := by have h := HO5.out.len; rwa [List.length_map] at h
  have HQL := Hid.mk' hql
  have HQT := Hid.mk' HO5.out.t
  have hlt60 : ts.length ≤ 60 := HLT.out.t
  have hlt70 : ps.length ≤ 70 := HLT.out.n
  have HM6 := Hid.mk' (fun k => Nat.le_trans (manyT_le ts k) HLT.out.es)
  have HTQ := Hid.mk' (fun W (h : Kp (fun x => x = G) w7 W) => (HO5.out.low h (fun x hx => .inl (by have hx : x = G := hx; have := HGL.out; omega)) : OwnT W w5.heap.size (ts.map TL.t) (.slice a5 ts.length c5) qs))
  have HEW7 := Hid.mk' (HB5.out.trans HE7.out)
  have HM0 := Hid.mk' (HX5.out.ext HE7.out)
  have HR20 := Hid.mk' HLT.out.r
  clear HX5 HE7 HB5 HTX HO5 HWK hql HLA HLT HZ HT
  go_wp2
  go_loopg [8] ts.length (fun z i wr => ∃ (k : Nat) (T : Tb), z + k = ts.length ∧ i = .int .i64 k ∧ Hid (Bs wr w4.heap.size G qx T) ∧ Hid (KeyI L T) ∧ Hid (TbOk T (manyT ts k)) ∧ Hid (Kp (fun x => x = G) w7 wr))
  case atStart => exact ⟨0, T0, by omega, rfl, HM0, Hid.mk' (KeyI.nil L), Hid.mk' (T0_ok _), Hid.mk' Kp.refl⟩
  case round =>
    obtain ⟨k, T, hzk, rfl, hM, hI, hT, hK⟩ := hrel
    by_cases hlt : k < ts.length
    · have hlq : k < qs.length := by have := HQL.out; omega
      obtain ⟨b, o, rfl, hb1, hx1⟩ := (HTQ.out wr hK.out).ts.row.at_ (i := k) (by simpa using hlq)
      obtain ⟨f0, f1, f2⟩ := TL.at_ hlq hx1 hb1 (Ext.refl wr)
      have HXA := Hid.mk' ((HTQ.out wr hK.out).ts.sl _ (List.getElem_mem hlq))
      have HXS := Hid.mk' (HSM5.out.2 _ (List.getElem_mem hlq))
      have HXW := Hid.mk' (HWK5.out _ (List.getElem_mem hlq))
      have HXT := Hid.mk' (show manyT ts (k + 1) = manyT ts k + qs[k].es.length from by
        rw [manyT_succ hlt]
        have h1 : qs[k].t = ts[k].t := by
          have h3 := congrArg (fun z => z[k]?) HQT.out
          simpa [hlq, hlt] using h3
        have h2 := congrArg (fun t : Tx => t.es.length) h1
        simp only [TL.t, List.length_map] at h2
        omega)
      obtain ⟨x, hx⟩ : ∃ x, x = qs[k] := ⟨_, rfl⟩
      rw [← hx] at f0 f1 f2 HXA HXS HXW HXT
      clear hx hx1 hlq
      obtain ⟨xid, st, es, xa, xc⟩ := x
      simp only at f0 f1 f2 HXS HXW HXT
      have HN7 := Hid.mk' (HM6.out (k + 1))
      have HLT := Hid.mk' hlt
      have i1 : (k : Int) < (ts.length : Int) := by omega
      have hd1 : decide (ts.length ≤ k) = false := decide_eq_false (by omega)
      have hd2 : decide ((ts.length : Int) ≤ (k : Int)) = false := decide_eq_false (by omega)
      have HAP := Hid.mk' (apply_any ⟨xid, st, es, xa, xc⟩ _ G (manyT ts k) qx T wr hM.out HBX.out hT.out HXA.out (by have := HXT.out; have := HN7.out; show manyT ts k + es.length ≤ 1000; omega) HXS.out HXW.out)
      unfold ApPost TL.t TL.agg at HAP
      simp only [HLX.out] at HAP
      have HI2 := Hid.mk' (hI.out.ap (t := ⟨xid, st, es.map EL.e⟩))
      have HT2 := Hid.mk' (TbOk.ap hT.out L (t := ⟨xid, st, es.map EL.e⟩) (fun e he => by
        obtain ⟨y, hy, rfl⟩ := List.mem_map.1 he
        exact (HXS.out y hy).a))
      generalize apE L T ⟨xid, st, es.map EL.e⟩ = E at HAP
      generalize apP L T ⟨xid, st, es.map EL.e⟩ = P at HAP
      generalize apT L T ⟨xid, st, es.map EL.e⟩ = T2 at HAP HI2 HT2
      simp only [List.length_map] at HT2
      go_wp2_with (go_at_call 12; refine HAP.out.mono ?_; rintro e w9 ⟨rfl, hb9, hk9⟩; have HM9 := Hid.mk' hb9; have HK9 := Hid.mk' (hK.out.trans hk9 (fun x hx _ => hx)); clear hb9 hk9)
      go_roundg (ts.length - (k + 1))
      case measure => have := HLT.out; omega
      case rel => exact ⟨k + 1, T2, Nat.sub_add_cancel HLT.out, by go_num, HM9, HI2, Hid.mk' (HT2.out.mono (by have := HXT.out; omega)), HK9⟩
    · obtain rfl : k = ts.length := by omega
      have HEA := Hid.mk' (Kp.ext HEW7.out (fun x hx _ => by have hx : x = G := hx; have := HW0.out; omega) hK.out)
      have HT6 := Hid.mk' (hT.out.mono (show manyT ts ts.length ≤ 1000 by have := HM6.out ts.length; omega))
      have HMA := Hid.mk' hM.out
      have HIA := Hid.mk' hI.out
      obtain ⟨wa, hwa⟩ : ∃ x, x = wr := ⟨_, rfl⟩
      subst hwa
      clear hM hI hT hK HTQ HSM5 HWK5 HQL HQT HM0 HEW7
      go_wp2
      go_loopg [9] ps.length (fun z i wr => ∃ (k : Nat), z + k = ps.length ∧ i = .int .i64 k ∧ Hid (Ext wa wr))
      case atStart => exact ⟨0, by omega, rfl, Hid.mk' (Ext.refl wa)⟩
      case round =>
        obtain ⟨k, hzk, rfl, hE⟩ := hrel
        by_cases hlt : k < ps.length
        · obtain ⟨b, o, rfl, hb, hx⟩ := HL.out.row.at_ (i := k) (by simpa using hlt)
          have HF := Hid.mk' (fun W (h : Ext wa W) => (show _ ∧ b < W.heap.size from ⟨RR.at_ hlt hx hb (HEA.out.trans h), Nat.lt_of_lt_of_le hb (HEA.out.trans h).size⟩))
          have HINP := Hid.mk' (fun W (h : Ext wa W) => (show (ps[k]).in W from RR.in.ext (HL.out.sl _ (List.getElem_mem hlt)) (HEA.out.trans h)))
          have HP20 := Hid.mk' (HR20.out _ (List.getElem_mem hlt))
          have HGP := Hid.mk' (HGT.out _ (List.getElem_mem hlt))
          have HBP := Hid.mk' (HB32.out _ (List.getElem_mem hlt))
          have HLT := Hid.mk' hlt
          have i1 : (k : Int) < (ps.length : Int) := by omega
          have hd1 : decide (ps.length ≤ k) = false := decide_eq_false (by omega)
          have hd2 : decide ((ps.length : Int) ≤ (k : Int)) = false := decide_eq_false (by omega)
          obtain ⟨p, hp⟩ : ∃ p, p = ps[k]'hlt := ⟨_, rfl⟩
          rw [← hp] at HF HINP HP20 HGP HBP
          clear hp hx hb
          obtain ⟨⟨oid, ver, nm, id, cols⟩, pa, pc⟩ := p
          unfold RR.in at HINP
          simp only at HF HINP HP20 HGP HBP
          obtain ⟨⟨f0, f1, f2, f3, f4⟩, hbw⟩ := HF.out wr hE.out
          have HKD := Hid.mk' (rkd_any oid ver nm id cols pa pc wr (HINP.out wr hE.out) (by have := HP20.out; omega))
          have HKL := Hid.mk' (HIA.out oid ver _ HGP.out)
          simp only at HKL
          cases hrk : rkey cols with
          | false =>
            rw [hrk] at HKD
            go_wp2_with (go_at_call 28; refine HKD.out.mono ?_; rintro e w8 ⟨rfl, hb8⟩; have HE8 := Hid.mk' (hE.out.trans hb8); clear hb8)
            go_roundg (ps.length - (k + 1))
            case measure => have := HLT.out; omega
            case rel => exact ⟨k + 1, Nat.sub_add_cancel HLT.out, by go_num, HE8⟩
          | true =>
            rw [hrk] at HKD
            have HKL := Hid.mk' (HKL.out hrk)
            have HRK := Hid.mk' hrk
            clear hrk
            go_upto_region 18 with (go_at_call 28; refine HKD.out.mono ?_; rintro e w8 ⟨rfl, hb8⟩; have HE8 := Hid.mk' (hE.out.trans hb8); clear hb8)
            clear f0 f1 f2 f3 f4 hbw
            obtain ⟨⟨f0, f1, f2, f3, f4⟩, hbw⟩ := HF.out w8 HE8.out
            go_upto_region 19 with (go_at_call 22; refine (ref9_any oid ver _).mono ?_; rintro e w9 ⟨rfl, hb9⟩; have HE9 := Hid.mk' (HE8.out.trans hb9); clear hb9)
            have HX10 := Hid.mk' (Blk.new w9 #[.int .u32 oid, .int .u32 ver] 68)
            have HEc := Hid.mk' (show Ext wa (w9.alloc (.cells #[.int .u32 oid, .int .u32 ver] 68)) from HE9.out.alloc _)
            obtain ⟨X10, hX10⟩ : ∃ X, X = w9.heap.size := ⟨_, rfl⟩
            obtain ⟨wc, hwc⟩ : ∃ W, W = w9.alloc (.cells #[.int .u32 oid, .int .u32 ver] 68) := ⟨_, rfl⟩
            rw [← hX10, ← hwc] at HX10
            rw [← hwc] at HEc
            rw [← hX10, ← hwc]
            clear hX10 hwc f0 f1 f2 f3 f4 hbw HE8 HE9
            have gX := HX10.out.cell
            have zX := HX10.out.lt
            have HRW := Hid.mk' (brows_any _ G qx T oid ver wc (HMA.out.ext HEc.out) HBP.out.1 HBP.out.2 HT6.out)
            go_upto_region 20 with (go_at_call 21; refine HRW.out.mono ?_; rintro e wb ⟨ra, rc, rs, rfl, hor, hbr⟩; have HRS := Hid.mk' hor.rs; have HRL := Hid.mk' hor.l; have HEb := Hid.mk' (HEc.out.trans hbr); have HXb := Hid.mk' (HX10.out.ext hbr); clear hor hbr)
            clear gX zX HRW HKD
            have HFP := Hid.mk' (fun j (hj : j < (T oid ver).length) => findP_key HGP.out HRK.out HKL.out hj)
            have hrn : rs.length ≤ 1000 := by
              have h1 := HT6.out.n oid ver
              rwa [← HRL.out, List.length_map] at h1
            rw [← HRL.out] at HKL HFP
            have HMb := Hid.mk' (HMA.out.ext HEb.out)
            have HC20 := Hid.mk' (show cols.length ≤ 20 from HP20.out)
            go_wp2
            go_loopg [12] rs.length (fun z i wr => ∃ (j : Nat), z + j = rs.length ∧ i = .int .i64 j ∧ Hid (Ext wb wr))
            case atStart => exact ⟨0, by omega, rfl, Hid.mk' (Ext.refl wb)⟩
            case round =>
              obtain ⟨j, hzj, rfl, hEj⟩ := hrel
              by_cases hlj : j < rs.length
              · obtain ⟨rb, ro, rfl, hrb, hrx⟩ := HRS.out.row.at_ (i := j) (by simpa using hlj)
                have HFR := Hid.mk' (fun W (h : Ext wb W) n (hn : n < rs.length) => (show W.cell? ⟨rb, ro + n, none⟩ = some (.slice (rs[n]'hn).a (rs[n]'hn).l.length (rs[n]'hn).c) ∧ rb < W.heap.size from by
                  obtain ⟨b', o', e', hb', hx'⟩ := HRS.out.row.at_ (i := n) (by simpa using hn)
                  cases e'
                  exact ⟨PR.at_ hn hx' hb' h, Nat.lt_of_lt_of_le hb' h.size⟩))
                have HSR := Hid.mk' (fun W (h : Ext wb W) n (hn : n < rs.length) => (show Sl W (.slice (rs[n]'hn).a (rs[n]'hn).l.length (rs[n]'hn).c) 5 ((rs[n]'hn).l.map K.pc) from (HRS.out.sl _ (List.getElem_mem hn)).ext h))
                have HLR := Hid.mk' (fun n (hn : n < rs.length) => (show (rs[n]'hn).l.length ≤ 20 from by
                  have h1 := HKL.out.n _ (List.mem_map_of_mem (List.getElem_mem hn))
                  have := HC20.out
                  omega))
                have HFF := Hid.mk' (HFP.out j (by rw [List.length_map]; exact hlj))
                rw [List.getElem_map] at HFF
                have HCL := Hid.mk' (fun W (h : Ext wb W) => HINP.out W (HEb.out.trans h))
                have HFb := Hid.mk' (fun W (h : Ext wb W) => HF.out W (HEb.out.trans h))
                clear hrb hrx
                obtain ⟨q, hq⟩ : ∃ q, q = rs[j]'hlj := ⟨_, rfl⟩
                have g0 := (HFR.out wr hEj.out j hlj).1
                have hbr := (HFR.out wr hEj.out j hlj).2
                have HSQ := Hid.mk' (fun W (h : Ext wb W) => HSR.out W h j hlj)
                have HLQ := Hid.mk' (HLR.out j hlj)
                rw [← hq] at HFF g0 HSQ HLQ
                have HQ := Hid.mk' hq
                clear hq
                obtain ⟨ql, qa, qc⟩ := q
                simp only at HFF g0 HSQ HLQ
                have HLJ := Hid.mk' hlj
                have i2 : (j : Int) < (rs.length : Int) := by omega
                have hd3 : decide (rs.length ≤ j) = false := decide_eq_false (by omega)
                have hd4 : decide ((rs.length : Int) ≤ (j : Int)) = false := decide_eq_false (by omega)
                obtain ⟨⟨f0, f1, f2, f3, f4⟩, hbw⟩ := HFb.out wr hEj.out
                have HBKC := Hid.mk' (fun W (h : Ext wb W) => backK_any ql qa qc W (HSQ.out W h) (by have := HLQ.out; omega))
                have HKOC := Hid.mk' (fun W (h : Ext wb W) a' c' (hs : Sl W (.slice a' ql.length c') 6 (ql.map K.rc)) => rkeyOf_any ql a' c' oid ver nm id cols pa pc W hs (HCL.out W h) (by have := HLQ.out; omega) (by have := HC20.out; omega))
                go_wp2
                go_region_held3 (fun w' => Ext (wr) w' ∧ (∀ b o, b < (wr).heap.size → w'.cell? ⟨b, o, none⟩ = (wr).cell? ⟨b, o, none⟩) ∧ (∀ b o, b < (wr).heap.size → w'.frozen? ⟨b, o, none⟩ = (wr).frozen? ⟨b, o, none⟩)) ((exact held_of (by exact eX))) (first
                  | (go_at_call 27; refine (HBKC.out _ (hEj.out.trans (by exact eX))).mono ?_; rintro e w8 ⟨a8, c8, rfl, -, hs8, hb8⟩; have HS8 := Hid.mk' hs8; have HB8 : Hid (Ext wr w8) := Hid.mk' (by exact eX); clear hs8)
                  | (go_at_call 29; refine (HKOC.out _ (hEj.out.trans HB8.out) _ _ HS8.out).mono ?_; rintro e w9 ⟨a9, c9, rfl, hs9, hb9⟩; have HS9 := Hid.mk' hs9; have HB9 : Hid (Ext wr w9) := Hid.mk' (HB8.out.trans hb9); clear hs9))
                have HEj9 := Hid.mk' (hEj.out.trans HB9.out)
                clear f0 f1 f2 f3 f4 hbw g0 hbr hb8 hb9 HS8 HB8 HB9
                have HFD := Hid.mk' (fun W (h : Ext wb W) => bfind_any _ G qx T oid ver ql qa qc W (HMb.out.ext h) HBX.out HT6.out (HSQ.out W h) (by have := HLQ.out; omega))
                rw [HLX.out, HFF.out] at HFD
                unfold FindPost at HFD
                simp only [Option.getD_some, Option.isSome_some] at HFD
                have g0 := (HFR.out w9 HEj9.out j hlj).1
                have hbr := (HFR.out w9 HEj9.out j hlj).2
                rw [← HQ.out] at g0
                simp only at g0
                have gX := (HXb.out.ext HEj9.out).cell
                have zX := (HXb.out.ext HEj9.out).lt
                go_wp2
                go_region_held3 (fun w' => Ext (w9) w' ∧ (∀ b o, b < (w9).heap.size → w'.cell? ⟨b, o, none⟩ = (w9).cell? ⟨b, o, none⟩) ∧ (∀ b o, b < (w9).heap.size → w'.frozen? ⟨b, o, none⟩ = (w9).frozen? ⟨b, o, none⟩)) ((exact held_of (by exact eX))) ((go_at_call 23; refine (HFD.out _ (HEj9.out.trans (by exact eX))).mono ?_; rintro e w11 ⟨a11, c11, rfl, hs11, hb11⟩; have HS11 := Hid.mk' hs11; have HB11 : Hid (Ext w9 w11) := Hid.mk' (by exact eX); clear hs11))
                have HE11 := Hid.mk' (HEj9.out.trans HB11.out)
                clear g0 hbr gX zX hb11 HFD
                have g0 := (HFR.out w11 HE11.out j hlj).1
                have hbr := (HFR.out w11 HE11.out j hlj).2
                rw [← HQ.out] at g0
                simp only at g0
                have HAK := Hid.mk' (alike_any ql ql a11 qa c11 qc w11 HS11.out (HSQ.out _ HE11.out) (by have := HLQ.out; omega) (by have := HLQ.out; omega))
                rw [rowB_true.2 rfl] at HAK
                go_upto_region 27 with (go_at_call 30; refine HAK.out.mono ?_; rintro e w12 ⟨rfl, hb12⟩; have HE12 := Hid.mk' (HE11.out.trans hb12); have HS12 := Hid.mk' (HS9.out.ext (HB11.out.trans hb12)); clear hb12)
                clear g0 hbr HAK HS11 HS9 HB11 HE11 HEj9 HBKC HKOC HFF
                go_wp2
                go_loopg [16] j (fun z i wr => ∃ (n : Nat), z + n = j ∧ i = .int .i64 n ∧ Hid (Ext w12 wr))
                case atStart => exact ⟨0, by omega, rfl, Hid.mk' (Ext.refl w12)⟩
                case round =>
                  obtain ⟨n, hzn, rfl, hEn⟩ := hrel
                  have HEw := Hid.mk' (HE12.out.trans hEn.out)
                  by_cases hln : n < j
                  · have hnr : n < rs.length := by have := HLJ.out; omega
                    have g0 := (HFR.out wr HEw.out n hnr).1
                    have hbr := (HFR.out wr HEw.out n hnr).2
                    have HSQ2 := Hid.mk' (fun W (h : Ext wb W) => HSR.out W h n hnr)
                    have HLQ2 := Hid.mk' (HLR.out n hnr)
                    have HNE := Hid.mk' (show rowB (keyOf cols (rs[n]'hnr).l) (keyOf cols ql) = false from by
                      refine rowB_false.2 (fun e => ?_)
                      have h1 := HKL.out.k n j (by rw [List.length_map]; exact hnr) (by rw [List.length_map]; exact HLJ.out) (by omega)
                      rw [List.getElem_map, List.getElem_map] at h1
                      refine h1 (e.trans ?_)
                      rw [show ql = (rs[j]'HLJ.out).l from congrArg PR.l HQ.out])
                    obtain ⟨q2, hq2⟩ : ∃ q, q = rs[n]'hnr := ⟨_, rfl⟩
                    rw [← hq2] at g0 HSQ2 HLQ2 HNE
                    clear hq2
                    obtain ⟨ql2, qa2, qc2⟩ := q2
                    simp only at g0 HSQ2 HLQ2 HNE
                    have HLN := Hid.mk' hln
                    have i3 : (n : Int) < (j : Int) := by omega
                    have i4 : (n : Int) < (rs.length : Int) := by omega
                    have hd5 : decide (rs.length ≤ n) = false := decide_eq_false (by omega)
                    have hd6 : decide ((rs.length : Int) ≤ (n : Int)) = false := decide_eq_false (by omega)
                    have hd7 : decide (n < j) = true := decide_eq_true hln
                    have hd8 : decide ((n : Int) < (j : Int)) = true := decide_eq_true i3
                    obtain ⟨⟨f0, f1, f2, f3, f4⟩, hbw⟩ := HFb.out wr HEw.out
                    have HBKC := Hid.mk' (fun W (h : Ext wb W) => backK_any ql2 qa2 qc2 W (HSQ2.out W h) (by have := HLQ2.out; omega))
                    have HKOC := Hid.mk' (fun W (h : Ext wb W) a' c' (hs : Sl W (.slice a' ql2.length c') 6 (ql2.map K.rc)) => rkeyOf_any ql2 a' c' oid ver nm id cols pa pc W hs (HCL.out W h) (by have := HLQ2.out; omega) (by have := HC20.out; omega))
                    have HSMC := Hid.mk' (fun W a' c' (h1 : Sl W (.slice a' ql2.length c') 6 ((keyOf cols ql2).map K.rc)) (h2 : Sl W (.slice a9 ql.length c9) 6 ((keyOf cols ql).map K.rc)) => (show Calls Tryz.prog 26 #[.slice a' ql2.length c', .slice a9 ql.length c9] W (fun e w' => e = .returned (.bool false) ∧ Ext W w') from by
                      have h3 := rsame_any (keyOf cols ql2) (keyOf cols ql) a' a9 c' c9 W (by rw [keyOf_len]; exact h1) (by rw [keyOf_len]; exact h2) (by rw [keyOf_len]; have := HLQ2.out; omega) (by rw [keyOf_len]; have := HLQ.out; omega)
                      rw [keyOf_len, keyOf_len, HNE.out] at h3
                      exact h3))
                    go_wp2
                    go_region_held3 (fun w' => Ext (wr) w' ∧ (∀ b o, b < (wr).heap.size → w'.cell? ⟨b, o, none⟩ = (wr).cell? ⟨b, o, none⟩) ∧ (∀ b o, b < (wr).heap.size → w'.frozen? ⟨b, o, none⟩ = (wr).frozen? ⟨b, o, none⟩)) ((exact held_of (by exact eX))) (first
                      | (go_at_call 27; refine (HBKC.out _ (HEw.out.trans (by exact eX))).mono ?_; rintro e w13 ⟨a13, c13, rfl, -, hs13, hb13⟩; have HS13 := Hid.mk' hs13; have HB13 : Hid (Ext wr w13) := Hid.mk' (by exact eX); clear hs13)
                      | (go_at_call 29; refine (HKOC.out _ (HEw.out.trans HB13.out) _ _ HS13.out).mono ?_; rintro e w14 ⟨a14, c14, rfl, hs14, hb14⟩; have HS14 := Hid.mk' hs14; have HB14 : Hid (Ext wr w14) := Hid.mk' (HB13.out.trans hb14); clear hs14)
                      | (go_at_call 26; refine (HSMC.out _ _ _ HS14.out (HS12.out.ext (hEn.out.trans HB14.out))).mono ?_; rintro e w15 ⟨rfl, hb15⟩; have HB15 : Hid (Ext wr w15) := Hid.mk' (HB14.out.trans hb15)))
                    go_wp2
                    go_roundg (j - (n + 1))
                    case measure => have := HLN.out; omega
                    case rel => exact ⟨n + 1, Nat.sub_add_cancel HLN.out, by go_num, Hid.mk' (hEn.out.trans HB15.out)⟩
                  · obtain rfl : n = j := by omega
                    go_wp2
                    go_roundg (rs.length - (n + 1))
                    case measure => have := HLJ.out; omega
                    case rel => exact ⟨n + 1, Nat.sub_add_cancel HLJ.out, by go_num, HEw⟩
              · obtain rfl : j = rs.length := by omega
                go_wp2
                go_roundg (ps.length - (k + 1))
                case measure => have := HLT.out; omega
                case rel => exact ⟨k + 1, Nat.sub_add_cancel HLT.out, by go_num, Hid.mk' (HEb.out.trans hEj.out)⟩
        · obtain rfl : k = ps.length := by omega
          go_wp2_with (go_at_call 13; refine (awake22_any _).mono ?_; rintro e wk ⟨rfl, hbk⟩; have HBK := Hid.mk' ((HEA.out.trans hE.out).trans hbk); clear hbk)
          go_ret
          exact ⟨rfl, HBK.out⟩

end Go.Proofs.YtkhlgoafeacdcaaGreat
