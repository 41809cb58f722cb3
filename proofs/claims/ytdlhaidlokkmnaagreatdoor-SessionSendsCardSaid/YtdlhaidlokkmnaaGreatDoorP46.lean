import Derived.Test.YtdlhaidlokkmnaaGreatDoorP37
import Derived.Test.YtdlhaidlokkmnaaGreatDoorP43
import Derived.Test.YtdlhaidlokkmnaaGreatDoorP38
import Derived.Test.YtdlhaidlokkmnaaGreatDoorP41
import Derived.Test.YtdlhaidlokkmnaaGreatDoorP2
import Derived.Test.YtdlhaidlokkmnaaGreatDoorP45
import Derived.Test.YtdlhaidlokkmnaaGreatDoorP21
import Derived.Test.YtdlhaidlokkmnaaGreatDoorP14
import Derived.Test.YtdlhaidlokkmnaaGreatDoorP15
set_option maxRecDepth 100000
set_option maxHeartbeats 16000000

namespace Go.Proofs.YtdlhaidlokkmnaaGreatDoor
open Go.RowKit
theorem rrighttx_any (t : TL) (ps : List RR) (a : Option Addr) (cap : Nat) (w : World) (ht : t.at 6 K.rc w) (hn : t.es.length ≤ 1000) (hs : ∀ e ∈ t.es, e.e.small) (hwk : ∀ e ∈ t.es, e.e.wk) (hl : RL w (.slice a ps.length cap) ps) (hc : RCat ps) :
    Calls Tryz.prog 43 #[t.agg, .slice a ps.length cap] w fun e w' => e = .returned (.tuple #[.int .i64 (rtP t.t (ps.map RR.r)), .int .i64 (rtE t.t (ps.map RR.r))]) ∧ Ext w w' := by
  have HT := Hm ht
  have HER := Hm (fun x (hx : x ∈ t.es) W (h : Ext w W) => reright_any x ps a cap W ((ht.sl x hx).ext h) (hs x hx) (hwk x hx) (hl.ext h) hc)
  clear ht hs hwk hl hc
  obtain ⟨xid, st, es, ta, tc⟩ := t
  unfold TL.agg TL.t
  simp only at HER hn ⊢
  have HT2 : Hid (ES 6 K.rc w (.slice ta es.length tc) es) := HT
  clear HT
  by_cases h0 : xid = 0
  · subst h0
    have HR := Hm (show rtE ⟨0, st, es.map EL.e⟩ (ps.map RR.r) = 4 ∧ rtP ⟨0, st, es.map EL.e⟩ (ps.map RR.r) = -1 from ⟨if_pos rfl, if_pos rfl⟩)
    go_enter Tryz.func43, Tryz.ntmps43
    go_wp2
    go_ret2
    exact ⟨by rw [HR.out.1, HR.out.2]; rfl, by exact eX⟩
  have h0' : (xid == 0) = false := by simpa using h0
  have H0 := Hm h0
  clear h0
  by_cases h5 : 512 < es.length
  · have HR := Hm (show rtE (⟨xid, st, es.map EL.e⟩ : Tx) (ps.map RR.r) = 8 ∧ rtP (⟨xid, st, es.map EL.e⟩ : Tx) (ps.map RR.r) = -1 from ⟨by unfold rtE; rw [if_neg H0.out, if_pos (by simpa using h5)], by unfold rtP; rw [if_neg H0.out, if_pos (by simpa using h5)]⟩)
    go_enter Tryz.func43, Tryz.ntmps43
    go_wp2
    go_ret2
    exact ⟨by rw [HR.out.1, HR.out.2]; rfl, by exact eX⟩
  have HL5 := Hm (show (⟨xid, st, es.map EL.e⟩ : Tx).es.length ≤ 512 by simp only [List.length_map]; omega)
  go_enter Tryz.func43, Tryz.ntmps43
  go_wp2
  go_loopw [6] (fun i wr => ∃ k : Nat, k ≤ es.length ∧ i = .int .i64 k ∧ Hid (∀ j, j < k → evAt (es.map EL.e) (ps.map RR.r) j = 0) ∧ Hid (Ext (w.alloc (.cells #[.int .u32 xid, .int .u64 st, .slice ta es.length tc] 45)) wr)) (fun i _ => es.length - (intOf i).toNat)
  case atStart => exact ⟨0, Nat.zero_le _, rfl, Hm (fun j h => by omega), Hm (Ext.refl _)⟩
  case round =>
    obtain ⟨k, hk, rfl, hz, hE0⟩ := hrel
    have hE : Hid (Ext w wr) := Hm (((Ext.refl w).alloc _).trans hE0.out)
    have hV := (Blk.new w #[.int .u32 xid, .int .u64 st, .slice ta es.length tc] 45).ext hE0.out
    have gv := hV.cell
    have zv := hV.lt
    clear hV
    by_cases hlt : k < es.length
    · obtain ⟨b, o, rfl, hb, hx⟩ := HT2.out.row.at_ (i := k) (by simpa using hlt)
      obtain ⟨g0, g1, g2, g3, g4, g5, g6, g7⟩ := EL.at_ hlt hx hb hE.out
      have hbw : b < wr.heap.size := Nat.lt_of_lt_of_le hb hE.out.size
      have HEK := Hm (HER.out _ (List.getElem_mem hlt))
      have HAT := Hm (evAt_map (l := ps.map RR.r) hlt)
      obtain ⟨x, hxx⟩ : ∃ x, x = es[k] := ⟨_, rfl⟩
      rw [← hxx] at g0 g1 g2 g3 g4 g5 g6 g7 HEK HAT
      have HLT := Hm hlt
      clear hxx hx
      obtain ⟨⟨k1, ao1, av1, old1, b1, a1, r1, fl1⟩, ba1, bc1, aa1, ac1, ra1, rc1⟩ := x
      unfold EL.agg at HEK
      simp only at g0 g1 g2 g3 g4 g5 g6 g7 HEK HAT
      obtain ⟨E, hEE⟩ : ∃ E, E = evE ⟨k1, ao1, av1, old1, b1, a1, r1, fl1⟩ (ps.map RR.r) := ⟨_, rfl⟩
      rw [← hEE] at HEK HAT
      clear hEE
      by_cases hE1 : E = 0
      · subst hE1
        go_wp2_with (go_at_call 71; refine (HEK.out _ (hE.out.trans (by exact eX))).mono ?_; rintro e w2 ⟨rfl, hb2⟩)
        go_roundw
        case rel => exact ⟨k + 1, by omega, by go_num, Hm (fun j hj => by
          by_cases e : j = k
          · subst e; exact HAT.out
          · exact hz.out j (by omega)), Hm (hE0.out.trans (by exact eX))⟩
        case measure => simp [intOf]; omega
      · have hE2 : (E != 0) = true := by simpa using hE1
        have HR := Hm (rt_bad (t := (⟨xid, st, es.map EL.e⟩ : Tx)) (l := ps.map RR.r) H0.out HL5.out (by simpa using HLT.out) hz.out (by rw [show (⟨xid, st, es.map EL.e⟩ : Tx).es = es.map EL.e from rfl, HAT.out]; exact hE1))
        rw [show (⟨xid, st, es.map EL.e⟩ : Tx).es = es.map EL.e from rfl, HAT.out] at HR
        clear hE1
        go_wp2_with (go_at_call 71; refine (HEK.out _ (hE.out.trans (by exact eX))).mono ?_; rintro e w2 ⟨rfl, hb2⟩)
        go_ret2
        exact ⟨by rw [HR.out.1, HR.out.2]; rfl, hE.out.trans (by exact eX)⟩
    · have HR := Hm (rt_ok (t := (⟨xid, st, es.map EL.e⟩ : Tx)) (l := ps.map RR.r) H0.out HL5.out (fun j hj => hz.out j (by simp at hj; omega)))
      go_wp2
      go_ret2
      exact ⟨by rw [HR.out.1, HR.out.2]; rfl, hE.out⟩
theorem rcheck_any (ts : List TL) (a : Option Addr) (cap : Nat) (ps : List RR) (a2 : Option Addr) (c2 : Nat) (w : World) (ht : TS 6 K.rc w (.slice a ts.length cap) ts) (hlen : ts.length ≤ 1000) (hn : ∀ t ∈ ts, t.es.length ≤ 1000) (hs : ∀ t ∈ ts, ∀ e ∈ t.es, e.e.small) (hwk : ∀ t ∈ ts, ∀ e ∈ t.es, e.e.wk) (hl : RL w (.slice a2 ps.length c2) ps) (hc : RCat ps) :
    Calls Tryz.prog 20 #[.slice a2 ps.length c2, .slice a ts.length cap] w fun e w' => e = .returned (.tuple #[.int .i64 (ckT (ts.map TL.t) (ps.map RR.r)), .int .i64 (ckP (ts.map TL.t) (ps.map RR.r)), .int .i64 (ckE (ts.map TL.t) (ps.map RR.r))]) ∧ Ext w w' := by
  have HT := Hm ht
  have HTR := Hm (fun t (h1 : t ∈ ts) W (h : Ext w W) => rrighttx_any t ps a2 c2 W ((ht.sl t h1).ext h) (hn t h1) (hs t h1) (hwk t h1) (hl.ext h) hc)
  obtain ⟨LC, hLC⟩ : ∃ LC, LC = ps.map RR.r := ⟨_, rfl⟩
  rw [← hLC] at HTR ⊢
  clear ht hn hs hwk hl hc hLC
  go_enter Tryz.func20, Tryz.ntmps20
  go_wp2
  go_loopg [7] ts.length (fun z i wr => ∃ (k : Nat), z + k = ts.length ∧ i = .int .i64 k ∧ Hid (∀ j, j < k → chE (ts.map TL.t) LC j = 0) ∧ Hid (Ext w wr))
  case atStart => exact ⟨0, by omega, rfl, Hm (fun j h => by omega), Hm (by exact eX)⟩
  case round =>
    obtain ⟨k, hzk, rfl, hz, hE⟩ := hrel
    by_cases hlt : k < ts.length
    · obtain ⟨b, o, rfl, hb, hx⟩ := HT.out.row.at_ (i := k) (by simpa using hlt)
      obtain ⟨f0, f1, f2⟩ := TL.at_ hlt hx hb hE.out
      have hbw : b < wr.heap.size := Nat.lt_of_lt_of_le hb hE.out.size
      have HFK := Hm (fun W (h : Ext w W) => TL.at_ hlt hx hb h)
      have HBW := Hm hb
      have HTK := Hm (fun W (h : Ext wr W) => HTR.out _ (List.getElem_mem hlt) W (hE.out.trans h))
      have HPR := Hm (fun h h2 => ch_pre (l := LC) hlt h h2)
      have HOW := Hm (fun h => ch_own (l := LC) hlt h)
      have HBD := Hm (fun h => ck_bad (xs := ts.map TL.t) (l := LC) (by simpa using hlt) hz.out h)
      have HPV := Hm (fun j (e : k = j + 1) => (show ∃ p, (∃ (h : j < ts.length), p = ts[j].xid) ∧ (ts.map TL.xid).getD (k - 1) 0 = p ∧ ∀ W, Ext w W → W.cell? ⟨b, o + j * 3, none⟩ = some (.int .u32 p) from by
        have hj : j < ts.length := by omega
        obtain ⟨b', o', e', hb', hx'⟩ := HT.out.row.at_ (i := j) (by simpa using hj)
        simp only [Option.some.injEq, Addr.mk.injEq] at e'
        obtain ⟨rfl, rfl, -⟩ := e'
        exact ⟨ts[j].xid, ⟨hj, rfl⟩, by rw [e, Nat.add_sub_cancel]; exact xid_at hj, fun W h => (TL.at_ hj hx' hb' h).1⟩))
      obtain ⟨x, hxx⟩ : ∃ x, x = ts[k] := ⟨_, rfl⟩
      rw [← hxx] at f0 f1 f2 HTK HPR HOW HFK
      clear hxx hx hb
      have HLT := Hm hlt
      obtain ⟨E, hEE⟩ : ∃ E, E = rtE x.t LC := ⟨_, rfl⟩
      obtain ⟨P, hPP⟩ : ∃ P, P = rtP x.t LC := ⟨_, rfl⟩
      rw [← hEE, ← hPP] at HTK HOW
      clear hEE hPP
      obtain ⟨xid, st, es, ta, tc⟩ := x
      unfold TL.agg at HTK
      simp only at f0 f1 f2 HTK HPR HOW HFK
      by_cases hk0 : k = 0
      · subst hk0
        simp only [Nat.zero_mul, Nat.add_zero] at f0 f1 f2 HFK
        obtain ⟨hce, hcp⟩ := HOW.out (fun h => absurd h.1 (by omega))
        have hd0 : decide ((0 : Int) < 0) = false := by decide
        go_wp2
        refine wp_region_head 15 (fun w' => Ext (wr) w' ∧ (∀ b o, b < (wr).heap.size → w'.cell? ⟨b, o, none⟩ = (wr).cell? ⟨b, o, none⟩) ∧ (∀ b o, b < (wr).heap.size → w'.frozen? ⟨b, o, none⟩ = (wr).frozen? ⟨b, o, none⟩)) (by kernel_rfl) (by decide) ?_
        have hA0 : Hid ((fun w' => Ext (wr) w' ∧ (∀ b o, b < (wr).heap.size → w'.cell? ⟨b, o, none⟩ = (wr).cell? ⟨b, o, none⟩) ∧ (∀ b o, b < (wr).heap.size → w'.frozen? ⟨b, o, none⟩ = (wr).frozen? ⟨b, o, none⟩)) wr.drew) := held_of (by exact eX)
        refine HG.on 0 16 hA0.out ?_
        try simp only [Act.put, List.setIfInBounds_toArray, List.set_cons_zero, List.set_cons_succ]
        refine HG.on 1 17 hA0.out ?_
        try simp only [Act.put, List.setIfInBounds_toArray, List.set_cons_zero, List.set_cons_succ]
        refine HG.on 2 18 hA0.out ?_
        try simp only [Act.put, List.setIfInBounds_toArray, List.set_cons_zero, List.set_cons_succ]
        refine wpHd_takeD (i := 3) (d := some 19) (v := undef) rfl rfl (by kernel_rfl) (by kernel_rfl) (by kernel_rfl) (fun _ _ _ h => h) (Or.inr ⟨by rfl, rfl⟩) hA0.out ?_
        try simp only [Act.put, List.setIfInBounds_toArray, List.set_cons_zero, List.set_cons_succ]
        refine wpHd_takeD (i := 4) (d := some 20) (v := undef) rfl rfl (by kernel_rfl) (by kernel_rfl) (by kernel_rfl) (fun _ _ _ h => h) (Or.inr ⟨by rfl, rfl⟩) hA0.out ?_
        try simp only [Act.put, List.setIfInBounds_toArray, List.set_cons_zero, List.set_cons_succ]
        refine wpHd_takeD (i := 5) (d := some 21) (v := undef) rfl rfl (by kernel_rfl) (by kernel_rfl) (by kernel_rfl) (fun _ _ _ h => h) (Or.inr ⟨by rfl, rfl⟩) hA0.out ?_
        try simp only [Act.put, List.setIfInBounds_toArray, List.set_cons_zero, List.set_cons_succ]
        refine wpHd_takeD (i := 6) (d := some 22) (v := undef) rfl rfl (by kernel_rfl) (by kernel_rfl) (by kernel_rfl) (fun _ _ _ h => h) (Or.inr ⟨by rfl, rfl⟩) hA0.out ?_
        try simp only [Act.put, List.setIfInBounds_toArray, List.set_cons_zero, List.set_cons_succ]
        refine wpHd_takeD (i := 7) (d := some 23) (v := undef) rfl rfl (by kernel_rfl) (by kernel_rfl) (by kernel_rfl) (fun _ _ _ h => h) (Or.inr ⟨by rfl, rfl⟩) hA0.out ?_
        try simp only [Act.put, List.setIfInBounds_toArray, List.set_cons_zero, List.set_cons_succ]
        refine wpHd_takeD (i := 8) (d := some 24) (v := undef) rfl rfl (by kernel_rfl) (by kernel_rfl) (by kernel_rfl) (fun _ _ _ h => h) (Or.inr ⟨by rfl, rfl⟩) hA0.out ?_
        try simp only [Act.put, List.setIfInBounds_toArray, List.set_cons_zero, List.set_cons_succ]
        refine wpHd_takeD (i := 9) (d := some 25) (v := undef) rfl rfl (by kernel_rfl) (by kernel_rfl) (by kernel_rfl) (fun _ _ _ h => h) (Or.inr ⟨by rfl, rfl⟩) hA0.out ?_
        try simp only [Act.put, List.setIfInBounds_toArray, List.set_cons_zero, List.set_cons_succ]
        refine wpHd_takeD (i := 10) (d := some 26) (v := undef) rfl rfl (by kernel_rfl) (by kernel_rfl) (by kernel_rfl) (fun _ _ _ h => h) (Or.inr ⟨by rfl, rfl⟩) hA0.out ?_
        try simp only [Act.put, List.setIfInBounds_toArray, List.set_cons_zero, List.set_cons_succ]
        refine wpHd_takeD (i := 11) (d := some 27) (v := undef) rfl rfl (by kernel_rfl) (by kernel_rfl) (by kernel_rfl) (fun _ _ _ h => h) (Or.inr ⟨by rfl, rfl⟩) hA0.out ?_
        try simp only [Act.put, List.setIfInBounds_toArray, List.set_cons_zero, List.set_cons_succ]
        refine wpHd_takeD (i := 12) (d := some 28) (v := undef) rfl rfl (by kernel_rfl) (by kernel_rfl) (by kernel_rfl) (fun _ _ _ h => h) (Or.inr ⟨by rfl, rfl⟩) hA0.out ?_
        try simp only [Act.put, List.setIfInBounds_toArray, List.set_cons_zero, List.set_cons_succ]
        refine wpHd_takeD (i := 13) (d := some 29) (v := undef) rfl rfl (by kernel_rfl) (by kernel_rfl) (by kernel_rfl) (fun _ _ _ h => h) (Or.inr ⟨by rfl, rfl⟩) hA0.out ?_
        try simp only [Act.put, List.setIfInBounds_toArray, List.set_cons_zero, List.set_cons_succ]
        refine wpHd_takeD (i := 14) (d := some 30) (v := undef) rfl rfl (by kernel_rfl) (by kernel_rfl) (by kernel_rfl) (fun _ _ _ h => h) (Or.inr ⟨by rfl, rfl⟩) hA0.out ?_
        try simp only [Act.put, List.setIfInBounds_toArray, List.set_cons_zero, List.set_cons_succ]
        refine wpHd_tail (by kernel_rfl) ?_
        simp only [List.drop_succ_cons, List.drop_zero]
        have HEd : Hid (Ext wr wr.drew) := Hm (by exact eX)
        clear hA0 f0 f1 f2 hbw
        obtain ⟨f0, f1, f2⟩ := HFK.out _ (hE.out.trans HEd.out)
        have hbw := Nat.lt_of_lt_of_le HBW.out (hE.out.trans HEd.out).size
        by_cases hE0 : E = 0
        · subst hE0
          have HCE := Hm hce
          clear hce hcp
          go_wp2_with (go_at_call 43; refine (HTK.out _ (by first | exact HEd.out | exact eX)).mono ?_; rintro e w1 ⟨rfl, hb1⟩; have HE1 := Hm (show Ext wr w1 from HEd.out.trans hb1); clear hb1)
          go_roundg (ts.length - 1)
          case measure => have := HLT.out; omega
          case rel =>
            exact ⟨1, Nat.sub_add_cancel HLT.out, by go_num, Hm (fun j hj => by
              obtain rfl : j = 0 := by omega
              exact HCE.out), Hm (hE.out.trans HE1.out)⟩
        · have hE1 : (E != 0) = true := by simpa using hE0
          have h := HBD.out (by rw [hce]; exact hE0)
          rw [hce, hcp] at h
          have HR := Hm h
          clear h hce hcp hE0
          go_wp2_with (go_at_call 43; refine (HTK.out _ (by first | exact HEd.out | exact eX)).mono ?_; rintro e w1 ⟨rfl, hb1⟩; have HE1 := Hm (show Ext wr w1 from HEd.out.trans hb1); clear hb1)
          go_ret3
          exact ⟨by rw [HR.out.1, HR.out.2.1, HR.out.2.2]; rfl, hE.out.trans HE1.out⟩
      · obtain ⟨j, rfl⟩ : ∃ j, k = j + 1 := ⟨k - 1, by omega⟩
        obtain ⟨p, -, hpp, hpc⟩ := HPV.out j rfl
        rw [hpp] at HPR HOW
        have g0 := hpc wr hE.out
        have HPC := Hm hpc
        have q1 : IntKind.i64.wrap (j : Int) = (j : Int) := IntWalk.i64_in _ (by omega)
        have q2 : ((j : Int) + 1).toNat = j + 1 := by omega
        have i1 : (j : Int) < (ts.length : Int) := by omega
        have i2 : (j : Int) + 1 < (ts.length : Int) := by omega
        have i3 : (0 : Int) ≤ (j : Int) + 1 := by omega
        have i4 : (0 : Int) ≤ (j : Int) := by omega
        have i5 : ((j + 1 : Nat) : Int) = (j : Int) + 1 := by omega
        have i6 : (0 : Int) < (j : Int) + 1 := by omega
        have hd : decide ((0 : Int) < (j : Int) + 1) = true := decide_eq_true (by omega)
        rw [i5]
        clear HPV hpp hpc hk0
        by_cases hle : xid ≤ p
        · obtain ⟨hce, hcp⟩ := HPR.out (by omega) hle
          have h := HBD.out (by rw [hce]; decide)
          rw [hce, hcp] at h
          have HR := Hm h
          clear h hce hcp
          go_wp2
          go_region_held3 (fun w' => Ext (wr) w' ∧ (∀ b o, b < (wr).heap.size → w'.cell? ⟨b, o, none⟩ = (wr).cell? ⟨b, o, none⟩) ∧ (∀ b o, b < (wr).heap.size → w'.frozen? ⟨b, o, none⟩ = (wr).frozen? ⟨b, o, none⟩)) ((exact held_of (by exact eX))) (fail)
          clear q1 q2
          go_wp2
          go_ret3
          exact ⟨by rw [HR.out.1, HR.out.2.1, HR.out.2.2]; rfl, hE.out.trans (by exact eX)⟩
        · have hle2 : decide (xid ≤ p) = false := decide_eq_false hle
          obtain ⟨hce, hcp⟩ := HOW.out (fun h => hle h.2)
          go_wp2
          go_region_held3 (fun w' => Ext (wr) w' ∧ (∀ b o, b < (wr).heap.size → w'.cell? ⟨b, o, none⟩ = (wr).cell? ⟨b, o, none⟩) ∧ (∀ b o, b < (wr).heap.size → w'.frozen? ⟨b, o, none⟩ = (wr).frozen? ⟨b, o, none⟩)) ((exact held_of (by exact eX))) (fail)
          have HEd : Hid (Ext wr wr.drew) := Hm (by exact eX)
          clear f0 f1 f2 hbw g0
          obtain ⟨f0, f1, f2⟩ := HFK.out _ (hE.out.trans HEd.out)
          have hbw := Nat.lt_of_lt_of_le HBW.out (hE.out.trans HEd.out).size
          by_cases hE0 : E = 0
          · subst hE0
            have HCE := Hm hce
            clear hce hcp
            go_wp2_with (go_at_call 43; refine (HTK.out _ (by first | exact HEd.out | exact eX)).mono ?_; rintro e w1 ⟨rfl, hb1⟩; have HE1 := Hm (show Ext wr w1 from HEd.out.trans hb1); clear hb1)
            go_roundg (ts.length - (j + 1 + 1))
            case measure => have := HLT.out; omega
            case rel =>
              exact ⟨j + 1 + 1, Nat.sub_add_cancel HLT.out, by go_num, Hm (fun i hi => if e : i = j + 1 then (by subst e; exact HCE.out) else hz.out i (by omega)), Hm (hE.out.trans HE1.out)⟩
          · have hE1 : (E != 0) = true := by simpa using hE0
            have h := HBD.out (by rw [hce]; exact hE0)
            rw [hce, hcp] at h
            have HR := Hm h
            clear h hce hcp hE0
            go_wp2_with (go_at_call 43; refine (HTK.out _ (by first | exact HEd.out | exact eX)).mono ?_; rintro e w1 ⟨rfl, hb1⟩; have HE1 := Hm (show Ext wr w1 from HEd.out.trans hb1); clear hb1)
            go_ret3
            exact ⟨by rw [HR.out.1, HR.out.2.1, HR.out.2.2]; rfl, hE.out.trans HE1.out⟩
    · obtain rfl : k = ts.length := by omega
      have HR := Hm (ck_ok (xs := ts.map TL.t) (l := LC) (fun j hj => hz.out j (by simpa using hj)))
      go_wp2
      go_ret3
      exact ⟨by rw [HR.out.1, HR.out.2.1, HR.out.2.2]; rfl, hE.out⟩
theorem rload17o {W : World} {b o : Nat} {v0 v1 v2 v3 v4 v5 v6 v7 v8 v9 v10 v11 v12 v13 v14 v15 v16 : Value} (h : ∀ j, j < 17 → W.cell? ⟨b, o + j, none⟩ = ([v0, v1, v2, v3, v4, v5, v6, v7, v8, v9, v10, v11, v12, v13, v14, v15, v16] : List Value)[j]?) :
    (Instr.loadAt 90 (.pointer (some ⟨b, o, none⟩))).run Tryz.prog W = .ok (.agg #[v0, v1, v2, v3, v4, v5, v6, v7, v8, v9, v10, v11, v12, v13, v14, v15, v16]) W := by
  have c0 := h 0 (by omega)
  have c1 := h 1 (by omega)
  have c2 := h 2 (by omega)
  have c3 := h 3 (by omega)
  have c4 := h 4 (by omega)
  have c5 := h 5 (by omega)
  have c6 := h 6 (by omega)
  have c7 := h 7 (by omega)
  have c8 := h 8 (by omega)
  have c9 := h 9 (by omega)
  have c10 := h 10 (by omega)
  have c11 := h 11 (by omega)
  have c12 := h 12 (by omega)
  have c13 := h 13 (by omega)
  have c14 := h 14 (by omega)
  have c15 := h 15 (by omega)
  have c16 := h 16 (by omega)
  clear h
  simp at c0 c1 c2 c3 c4 c5 c6 c7 c8 c9 c10 c11 c12 c13 c14 c15 c16
  simp [go_sem, c0, c1, c2, c3, c4, c5, c6, c7, c8, c9, c10, c11, c12, c13, c14, c15, c16]
theorem put_len (l : List Int) : (strL (strOfNums l)).length = l.length := by rw [strL_len, strO_size]
def RSendPost (LC : List Rl) (TT : List Tx) (w : World) (e : Ending) (w' : World) : Prop :=
  ∃ v L, e = .returned (.tuple #[v, .int .i64 (ckT TT LC), .int .i64 (ckP TT LC), .int .i64 (ckE TT LC)]) ∧ OB w' w.heap.size v L ∧ strOfNums L = strOfNums (if ckE TT LC = 0 then sendW LC TT else []) ∧ Ext w w'
theorem rsend_any (ts : List TL) (a : Option Addr) (cap : Nat) (ps : List RR) (a2 : Option Addr) (c2 : Nat) (w : World) (ht : TS 6 K.rc w (.slice a ts.length cap) ts) (hok : ∀ t ∈ ts, t.okw) (hlen : ts.length ≤ 60) (hl : RL w (.slice a2 ps.length c2) ps) (hln : ps.length ≤ 1000) (hB : ∀ r ∈ ps.map RR.r, r.okw) (hc : RCat ps) :
    Calls Tryz.prog 10 #[.slice a2 ps.length c2, .slice a ts.length cap] w (RSendPost (ps.map RR.r) (ts.map TL.t) w) := by
  have HCK := Hm (fun W (h : Ext w W) => rcheck_any ts a cap ps a2 c2 W (ht.ext h) (by omega) (fun t h => by have := (hok t h).n; omega) (fun t h e he => ((hok t h).es e he).sm) (fun t h e he => ((hok t h).es e he).wk) (hl.ext h) hc)
  have HMS := Hm (fun W (h : Ext w W) => rmessages_any ts a cap ps a2 c2 W (ht.ext h) hok hlen (hl.ext h) hln hB)
  have HPU := Hm (fun (p : ML) W (h : Ext w W) (hp : p.at 6 K.rc W) (ho : p.okr) (hb : ∀ c ∈ p.e.e.b, c.tw) (ha : ∀ c ∈ p.e.e.a, c.tw) => rput20_any p ps a2 c2 W hp ho (hl.ext h) hc hb ha)
  have HN := Hm (show (storyM (ps.map RR.r) (ts.map TL.t)).length ≤ 1200000 from by
    have h := (sAt_b (c := ps.map RR.r) (l := ts.map TL.t) (fun t ht => by
      obtain ⟨x, hx, rfl⟩ := List.mem_map.1 ht
      exact (hok x hx).lit) (by rw [List.length_map]; exact hlen) (Nat.le_refl (ts.map TL.t).length)).1
    rwa [sAt_end] at h)
  unfold RSendPost
  have HZ : Hid (ckE (ts.map TL.t) (ps.map RR.r) = 0 → ckT (ts.map TL.t) (ps.map RR.r) = -1 ∧ ckP (ts.map TL.t) (ps.map RR.r) = -1) := Hm (fun h => by unfold ckT ckP; rw [if_pos h, if_pos h]; exact ⟨rfl, rfl⟩)
  obtain ⟨T, hT⟩ : ∃ T, T = ckT (ts.map TL.t) (ps.map RR.r) := ⟨_, rfl⟩
  obtain ⟨P, hP⟩ : ∃ T, T = ckP (ts.map TL.t) (ps.map RR.r) := ⟨_, rfl⟩
  obtain ⟨E, hEE⟩ : ∃ T, T = ckE (ts.map TL.t) (ps.map RR.r) := ⟨_, rfl⟩
  rw [← hT, ← hP, ← hEE] at HCK HZ ⊢
  obtain ⟨LC, hLC⟩ : ∃ LC, LC = ps.map RR.r := ⟨_, rfl⟩
  obtain ⟨TT, hTT⟩ : ∃ TT, TT = ts.map TL.t := ⟨_, rfl⟩
  rw [← hLC] at HPU HMS HN ⊢
  rw [← hTT] at HMS HN ⊢
  clear ht hok hl hB hc hT hP hEE hLC hTT
  by_cases hE : E = 0
  case neg =>
    have hE' : (E == 0) = false := by simpa using hE
    have hE2 : Hid (E ≠ 0) := Hm hE
    clear hE
    go_enter Tryz.func10, Tryz.ntmps10
    go_wp2_with (go_at_call 20; refine (HCK.out _ (by exact eX)).mono ?_; rintro e w1 ⟨rfl, hb1⟩)
    simp [bodyPost, results, Tryz.results10, go_sem]
    exact ⟨[], OB.nil _ _, by simp [], by exact eX⟩
  obtain ⟨rfl, rfl⟩ := HZ.out hE
  subst hE
  rw [if_pos rfl]
  clear HZ
  go_enter Tryz.func10, Tryz.ntmps10
  go_wp2_with (first
    | (go_at_call 20; refine (HCK.out _ (by exact eX)).mono ?_; rintro e w0 ⟨rfl, hb0⟩; have HX0 := Hm (show Ext w w0 by exact eX); clear hb0)
    | (go_at_call 21; refine (HMS.out _ (by have := HX0.out; exact eX)).mono ?_; rintro e w1 ⟨v0, u0, qs, s, rfl, hI, hs⟩; have HI := Hm hI; have HS := Hm hs; obtain ⟨va, vc, rfl⟩ := owns_shape hI.own; have HX1 := Hm (show Ext w w1 from HX0.out.trans hI.ext); clear hI hs))
  have HW0 := Hm HI.out.ms
  have hql : qs.length ≤ 1200000 := by rw [HI.out.len, HS.out]; exact HN.out
  have HSL := Hm (Sl.of_owns (xss := qs.map ML.cells) (by rw [List.length_map]; exact HI.out.own) (ML.cells_len qs))
  have HOK := Hm (fun q hq => HI.out.ok q hq)
  have HX01 := Hm HI.out.ext
  rw [HS.out] at HW0
  clear HI HS HCK HMS HN
  go_loopg [11, 13] qs.length (fun z v i wr => ∃ (k : Nat) (L : List Int), z + k = qs.length ∧ i = .int .i64 k ∧ Hid (OB wr w1.heap.size v L) ∧ Hid (strOfNums L = strOfNums (saidW LC ((qs.take k).map ML.m))) ∧ L.length ≤ 10000005 * k ∧ Hid (Ext w1 wr))
  case atStart => exact ⟨0, [], by omega, rfl, Hm (OB.nil _ _), Hm rfl, Nat.zero_le _, Hm (Ext.refl _)⟩
  case round =>
    obtain ⟨k, L, hzk, rfl, hO, hS, hLL, hE⟩ := hrel
    by_cases hlt : k < qs.length
    · obtain ⟨b, o, hea, hb, hx⟩ := HSL.out.at_ (i := k) (by simpa using hlt)
      subst hea
      rw [getD_map ML.cells qs hlt] at hx
      have HQK := Hm (HOK.out _ (List.getElem_mem hlt))
      have HTK : Hid (saidW LC ((qs.take (k + 1)).map ML.m) = saidW LC ((qs.take k).map ML.m) ++ msgW qs[k].m LC) := Hm (by rw [List.take_succ_eq_append_getElem hlt, List.map_append]; exact saidW_snoc _ _ _)
      have HPQ := Hm (fun W (h : Ext w1 W) => HPU.out qs[k] W (HX1.out.trans h) (HQK.out.at_.ext (HX01.out.trans h)) HQK.out.ok HQK.out.tb HQK.out.ta)
      have hml := msgW_le (m := qs[k].m) (rs := LC) HQK.out.ok.sm HQK.out.ok.wb HQK.out.ok.wa
      obtain ⟨q, hq⟩ : ∃ q, q = qs[k] := ⟨_, rfl⟩
      rw [← hq] at hx HTK HPQ hml
      have HLT := Hm hlt
      clear hq HQK
      obtain ⟨MW, hMW⟩ : ∃ M, M = strL (strOfNums (msgW q.m LC)) := ⟨_, rfl⟩
      have hMl : MW.length ≤ 10000005 := by rw [hMW, put_len]; exact hml
      have HMS : Hid (strOfNums (L ++ MW) = strOfNums (saidW LC ((qs.take (k + 1)).map ML.m))) := Hm (by rw [HTK.out, ← strO_app, ← strO_app, hS.out, hMW, strO_strL])
      rw [← hMW] at HPQ
      obtain ⟨ME, hME⟩ : ∃ M, M = msgE q.m LC := ⟨_, rfl⟩
      rw [← hME] at HPQ
      clear hMW hME hml HTK
      obtain ⟨k1, xx, st, nn, ⟨⟨oid, ver, nm, id, cols⟩, ca, cc⟩, ⟨⟨kd, ao, av, old, lb, la, rs, fl⟩, ba, bc, aa, ac, ra, rc⟩⟩ := q
      unfold ML.agg ML.arr at HPQ
      unfold ML.cells at hx
      dsimp only at HPQ hx
      have HLD := Hm (fun W (h : Ext w1 W) => rload17o (W := W) (b := b) (o := o + k * 17) (fun j hj => (h.cells.1 b _ hb).trans (hx j hj)))
      have hez := hE.out.size
      clear hx
      go_wp2_with (first
        | (refine wpList_load_to rfl 90 (.tmp 41) rfl _ _ ?e1 (HLD.out _ hE.out) ?_; (case e1 => go_simp))
        | (go_at_call 22; refine (HPQ.out _ (by have := hE.out; exact eX)).mono ?_; rintro e w5 ⟨v5, rfl, hv5, hn5, hb5⟩; have HB5 := Hm (show Ext wr w5 by exact eX); have HV5 := Hm (NB.of_sl hv5 hn5); have hz5 := hb5.size; clear hv5 hn5 hb5)
        | (at_builtin; refine app_bytesS rfl (.tmp 46) (.tmp 47) rfl w1.heap.size _ L rfl (owns_ext hO.out HB5.out) v5 MW rfl HV5.out (by omega) (by omega) ?_; intro v6 w6 ho6 hg6; obtain ⟨a6, c6, rfl⟩ := OB.shape ho6; have HO6 := Hm ho6; have HG6 := Hm (Below.grown (hE.out.trans HB5.out) hg6 (by omega) (fun g hg => (hO.out.lt g hg).1)); clear ho6 hg6))
      go_roundg (qs.length - (k + 1))
      case measure => have := HLT.out; omega
      case rel => exact ⟨k + 1, _, Nat.sub_add_cancel HLT.out, by go_num, by have h := HO6; rw [List.length_append] at h; exact h, HMS, by rw [List.length_append]; omega, HG6⟩
    · obtain rfl : k = qs.length := by omega
      rw [List.take_length, HW0.out] at hS
      go_wp2
      simp [bodyPost, results, Tryz.results10, go_sem]
      exact ⟨L, OB.base hO.out HX1.out.size, hS.out, HX1.out.trans hE.out⟩
theorem Lit.ok {ps : List RR} {ts : List TL} (h : Lit ps ts) : ts.length ≤ 1000 ∧ (∀ t ∈ ts, t.es.length ≤ 1000) ∧ (∀ t ∈ ts, ∀ e ∈ t.es, e.e.small) ∧ ∀ t ∈ ts, ∀ e ∈ t.es, e.e.rs.length ≤ 1000 := by
  refine ⟨by have := h.t; omega, fun t ht => ?_, fun t ht e he => ?_, fun t ht e he => by have := (h.e t ht e he).r; omega⟩
  · obtain ⟨i, hi, rfl⟩ := List.getElem_of_mem ht
    have h1 := manyT_succ hi
    have h2 := manyT_le ts (i + 1)
    have h3 := h.es
    omega
  · have h1 := h.e t ht e he
    exact ⟨by have := h1.b; omega, by have := h1.a; omega, by have := h1.r; omega⟩
theorem OwnT.sm {W : World} {N : Nat} {v : Value} {ts qs : List TL} (ho : OwnT W N (ts.map TL.t) v qs) (h1 : ∀ t ∈ ts, t.es.length ≤ 1000) (h2 : ∀ t ∈ ts, ∀ e ∈ t.es, e.e.small) : (∀ t ∈ qs, t.es.length ≤ 1000) ∧ ∀ t ∈ qs, ∀ e ∈ t.es, e.e.small := by
  have h3 : ∀ t ∈ qs, ∃ t2 ∈ ts, t2.es.map EL.e = t.es.map EL.e := fun t ht => by
    have h4 : t.t ∈ ts.map TL.t := by rw [← ho.t]; exact List.mem_map_of_mem ht
    obtain ⟨t2, h5, h6⟩ := List.mem_map.1 h4
    exact ⟨t2, h5, congrArg Tx.es h6⟩
  refine ⟨fun t ht => ?_, fun t ht e he => ?_⟩
  · obtain ⟨t2, h5, h6⟩ := h3 t ht
    have := congrArg List.length h6
    rw [List.length_map, List.length_map] at this
    have := h1 t2 h5
    omega
  · obtain ⟨t2, h5, h6⟩ := h3 t ht
    have h7 : e.e ∈ t2.es.map EL.e := by rw [h6]; exact List.mem_map_of_mem he
    obtain ⟨e2, h8, h9⟩ := List.mem_map.1 h7
    rw [← h9]; exact h2 t2 h5 e2 h8
theorem OwnT.wk {W : World} {N : Nat} {v : Value} {ts qs : List TL} (ho : OwnT W N (ts.map TL.t) v qs) (h2 : ∀ t ∈ ts, ∀ e ∈ t.es, e.e.wk) : ∀ t ∈ qs, ∀ e ∈ t.es, e.e.wk := by
  intro t ht e he
  have h4 : t.t ∈ ts.map TL.t := by rw [← ho.t]; exact List.mem_map_of_mem ht
  obtain ⟨t2, h5, h6⟩ := List.mem_map.1 h4
  have h7 : e.e ∈ t2.es.map EL.e := by rw [show t2.es.map EL.e = t.es.map EL.e from congrArg Tx.es h6]; exact List.mem_map_of_mem he
  obtain ⟨e2, h8, h9⟩ := List.mem_map.1 h7
  rw [← h9]; exact h2 t2 h5 e2 h8
theorem in16_any (ps : List RR) (a : Option Addr) (cap : Nat) (w : World) (hl : RL w (.slice a ps.length cap) ps) (hb : ∀ p ∈ ps, p.r.wb) (hlen : ps.length ≤ 9223372036854775807) :
    Calls Tryz.prog 5 #[.slice a ps.length cap] w fun e w' => e = .returned (.bool (decide (ofE (ps.map RR.r) = 0))) ∧ Ext w w' := by
  have HRA := Hm (rof_any ps a cap w hl hb hlen)
  unfold ROfPost at HRA
  obtain ⟨EA, hEA⟩ : ∃ E, E = ofE (ps.map RR.r) := ⟨_, rfl⟩
  rw [← hEA] at HRA ⊢
  clear hl hb hlen hEA
  go_enter Tryz.func5, Tryz.ntmps5
  go_wp2_with (go_at_call 7; refine HRA.out.mono ?_; rintro e w1 ⟨aw, cw, n, rfl, -, -, hb1⟩; have HB1 := Hm hb1; clear hb1)
  simp [bodyPost, results, Tryz.results5, go_sem]
  exact ⟨by first | rfl | (rw [Bool.eq_iff_iff]; simp), HB1.out⟩
def Own16Post (ps : List RR) (w : World) (e : Ending) (w' : World) : Prop := ∃ g c qs, e = .returned (.pointer (some ⟨g, 0, none⟩)) ∧ w.heap.size ≤ g ∧ Ca w' g g c qs ∧ qs.map RR.r = ofUp (ps.map RR.r) ps.length ∧ Ext w w'
theorem own16_any (ps : List RR) (a : Option Addr) (cap : Nat) (w : World) (hl : RL w (.slice a ps.length cap) ps) (hb : ∀ p ∈ ps, p.r.wb) (hlen : ps.length ≤ 1000) (h0 : ofE (ps.map RR.r) = 0) :
    Calls Tryz.prog 6 #[.slice a ps.length cap] w (Own16Post ps w) := by
  have HOA := Hm (own9_any ps a cap w hl hlen hb)
  have HB := Hm hb
  have HEA := Hm h0
  clear hl hb h0
  go_enter Tryz.func6, Tryz.ntmps6
  go_wp2_with (first
    | (go_at_call 14; refine HOA.out.mono ?_; rintro e w3 ⟨a2', c2', qs2, rfl, ho2, hb2⟩; have HB3 := Hm hb2; have HOF := Hm (cof_any qs2 a2' c2' w3 (by rw [ho2.len]; exact ho2.rl) ho2.cap (ho2.wb HB.out) (by rw [ho2.len]; exact hlen)); rw [ho2.rs, ho2.len] at HOF; unfold COfPost at HOF; rw [HEA.out] at HOF; clear ho2 hb2)
    | (go_at_call 13; refine HOF.out.mono ?_; rintro e w4 ⟨pv, rfl, h1, -, hb3⟩; obtain ⟨rfl, cc, qc, hcc, hqc⟩ := h1 (by first | exact rfl | exact trivial); have HCC := Hm hcc; have HQC := Hm hqc; have HB4 := Hm (HB3.out.trans hb3); clear h1 hcc hqc hb3))
  have hz : w.heap.size ≤ w3.heap.size := HB3.out.size
  simp [bodyPost, results, Tryz.results6, go_sem]
  exact ⟨_, cc, qc, rfl, hz, HCC.out, by rw [HQC.out, List.length_map], HB4.out⟩
end Go.Proofs.YtdlhaidlokkmnaaGreatDoor
