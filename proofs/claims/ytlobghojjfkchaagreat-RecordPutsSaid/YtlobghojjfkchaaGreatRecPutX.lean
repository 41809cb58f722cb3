/-
The reference's Put, whole.
-/
import Derived.Test.YtlobghojjfkchaaGreatP20
import Derived.Test.YtlobghojjfkchaaGreatRecPutF
namespace Go.Proofs.YtlobghojjfkchaaGreat
open Go.RowKit

theorem ob_new {w : World} {base : Nat} (l : List Int) (hb : base ≤ w.heap.size) (hn : l.length ≤ maxLen) : OB (w.alloc (.cells (bs l).toArray 5)) base (.slice (some ⟨w.heap.size, 0, none⟩) l.length l.length) l :=
  ⟨by simp [bs], .inr ⟨w.heap.size, l.length, (bs l).toArray, rfl, hb, Blk.new w (bs l).toArray 5, Nat.le_refl _, hn, by simp [bs], by unfold bs; rw [Nat.mul_one]; exact List.take_of_length_le (by simp)⟩⟩

set_option maxRecDepth 100000 in set_option maxHeartbeats 4000000 in
theorem rrecput7_any (x : EL) (ver : Int) (ps : List RR) (a0 : Option Addr) (cap0 : Nat) (w : World) (hx : x.at 6 K.rc w) (hs : x.e.small) (hwk : x.e.wk) (hl : RL w (.slice a0 ps.length cap0) ps) (hc : RCat ps) (hk : x.e.kind = 7) (hz : evE x.e (ps.map RR.r) = 0) (hn : x.e.rs.length ≤ 8) (hr : ∀ r ∈ x.e.rs, r.u32) (hv : ver = 1 ∨ ver = 2) :
    Calls Tryz.prog 14 #[.slice a0 ps.length cap0, x.agg, .int .u8 ver] w fun e w' => ∃ v', e = .returned (.tuple #[v', .slice none 0 0, .int .i64 0]) ∧ OB w' w.heap.size v' ((x.e.fl :: sevens x.e.rs.length) ++ refsBy x.e.rs) ∧ Ext w w' := by
  have HRG := Hid.mk' (fun W (h : Ext w W) => reright_any x ps a0 cap0 W (hx.ext h) hs hwk (hl.ext h) hc)
  rw [hz] at HRG
  have HL := Hid.mk' hx.r
  clear hx hs hwk hc hz hl
  obtain ⟨⟨k1, ao, av, old, b, a, rs, fl⟩, ba, bc, aa, ac, ra, rc⟩ := x
  unfold EL.agg at HRG ⊢
  simp only at HRG HL hk hn hr ⊢
  subst hk
  have HR := Hid.mk' hr
  have HLN := Hid.mk' (fun k => refsBy_take hr k)
  have HS7 : Hid (sevens rs.length = [(rs.length : Int)]) := Hid.mk' (sevens_lt (by omega))
  have HN := Hid.mk' hn
  have hwn : IntKind.u8.wrap (rs.length : Int) = (rs.length : Int) := by simp [IntKind.wrap, IntKind.signed, IntKind.bits]; omega
  clear hr
  rcases hv with rfl | rfl
  all_goals
    go_enter Tryz.func14, Tryz.ntmps14
    go_upto_region 8 with (go_at_call 50; refine (HRG.out _ (by exact eX)).mono ?_; rintro e w1 ⟨rfl, hb1⟩; have HB1 := Hid.mk' hb1; have HE1 := Hid.mk' (((Ext.refl w).alloc _).trans hb1); have HV1 := Hid.mk' ((Blk.new w #[.int .u8 7, .int .u32 ao, .int .u32 av, .int .u8 old, .slice ba b.length bc, .slice aa a.length ac, .slice ra rs.length rc, .int .u8 fl] 29).ext hb1); have gv := HV1.out.cell; have zv := HV1.out.lt; clear hb1)
    have HE2 := Hid.mk' (HE1.out.alloc (.cells #[.int .u8 fl, .int .u8 rs.length] 5))
    have HO3 : Hid (OB (w1.alloc (.cells #[.int .u8 fl, .int .u8 rs.length] 5)) w1.heap.size (.slice (some ⟨w1.heap.size, 0, none⟩) 2 2) ([fl, (rs.length : Int)] ++ refsBy (rs.take 0))) := Hid.mk' (by
      rw [List.take_zero, show refsBy [] = [] from rfl, List.append_nil]
      exact ob_new [fl, (rs.length : Int)] (Nat.le_refl _) (by unfold maxLen; simp))
    have HX2 := Hid.mk' ((Ext.refl w1).alloc (.cells #[.int .u8 fl, .int .u8 rs.length] 5))
    obtain ⟨w2, hw2⟩ : ∃ x, x = w1.alloc (.cells #[.int .u8 fl, .int .u8 rs.length] 5) := ⟨_, rfl⟩
    rw [← hw2] at HE2 HO3 HX2 ⊢
    clear gv zv hw2
    have gv := (HV1.out.ext HX2.out).cell
    have zv := (HV1.out.ext HX2.out).lt
    go_wp2
    clear gv zv
    go_loopg [10, 11] rs.length (fun z v i wr => ∃ (k : Nat), z + k = rs.length ∧ i = .int .i64 k ∧ Hid (OB wr w1.heap.size v ([fl, (rs.length : Int)] ++ refsBy (rs.take k))) ∧ Hid (Ext w1 wr))
    case atStart => exact ⟨0, by omega, rfl, HO3, HX2⟩
    case round =>
      obtain ⟨k, hzk, rfl, hO, hE⟩ := hrel
      have gv := (HV1.out.ext hE.out).cell
      have zv := (HV1.out.ext hE.out).lt
      by_cases hlt : k < rs.length
      · obtain ⟨b1, o1, rfl, hb1, hx1⟩ := HL.out.at_ (i := k) (by simpa using hlt)
        obtain ⟨f0, f1⟩ := Rf.at_ hlt hx1 hb1 (HE1.out.trans hE.out)
        have hbw : b1 < wr.heap.size := Nat.lt_of_lt_of_le hb1 (HE1.out.trans hE.out).size
        have HTK : Hid (refsBy (rs.take (k + 1)) = refsBy (rs.take k) ++ (sevens rs[k].o.toNat ++ sevens rs[k].v.toNat)) := Hid.mk' (by rw [List.take_succ_eq_append_getElem hlt, refsBy_snoc])
        have HRK := Hid.mk' (HR.out _ (List.getElem_mem hlt))
        obtain ⟨r, hre⟩ : ∃ r, r = rs[k] := ⟨_, rfl⟩
        rw [← hre] at f0 f1 HTK HRK
        have HLT := Hid.mk' hlt
        have hd1 : decide (rs.length ≤ k) = false := decide_eq_false (by omega)
        have hd2 : decide ((rs.length : Int) ≤ (k : Int)) = false := decide_eq_false (by omega)
        clear hre hx1 hb1
        have HPR := Hid.mk' (fun W => rref_any r W HRK.out)
        have HPL := Hid.mk' (And.intro (sevens_u32 HRK.out.o.2) (sevens_u32 HRK.out.v.2))
        go_wp2_with (first
          | (go_at_call 51; refine (HPR.out _).mono ?_; rintro e w3 ⟨v3, rfl, ho3, hb3⟩; have HQ3 := Hid.mk' ho3; have HX3 := Hid.mk' hb3; clear ho3 hb3 gv zv)
          | (at_builtin; refine app_bytes rfl _ _ rfl w1.heap.size _ ([fl, (rs.length : Int)] ++ refsBy (rs.take k)) rfl (hO.out.ext HX3.out) v3 _ rfl (NB.of_own HQ3.out) ?c1 ?c2 ?_))
        case c1 => have h1 := HLN.out k; have h2 := HPL.out; have := HN.out; simp only [List.length_append, List.length_cons, List.length_nil]; omega
        case c2 => exact (hE.out.trans HX3.out).size
        intro v4 w4 ho4 hg4
        have HO4 : Hid (OB w4 w1.heap.size v4 ([fl, (rs.length : Int)] ++ refsBy (rs.take (k + 1)))) := Hid.mk' (by rw [HTK.out, ← List.append_assoc]; exact ho4)
        have HE4 : Hid (Ext w1 w4) := Hid.mk' (OB.grown (hE.out.trans HX3.out) (hO.out.ext HX3.out) hg4)
        clear ho4 hg4
        go_wp2
        go_roundg (rs.length - (k + 1))
        case measure => have := HLT.out; omega
        case rel => exact ⟨k + 1, Nat.sub_add_cancel HLT.out, by go_num, HO4, HE4⟩
      · obtain rfl : k = rs.length := by omega
        rw [List.take_length] at hO
        obtain ⟨a4, c4, rfl⟩ := hO.out.shape
        go_wp2
        go_ret3
        refine ⟨_, rfl, ?_, HE1.out.trans hE.out⟩
        have h := hO.out.base HE1.out.size
        rw [HS7.out]
        exact h

set_option maxRecDepth 100000 in set_option maxHeartbeats 4000000 in
theorem rrecputv_any (x : EL) (ver : Int) (ps : List RR) (a0 : Option Addr) (cap0 : Nat) (w : World) (hv : ¬ (ver = 1 ∨ ver = 2)) :
    Calls Tryz.prog 14 #[.slice a0 ps.length cap0, x.agg, .int .u8 ver] w (RecPutQ [] [] 18 w) := by
  obtain ⟨⟨kind, ao, av, old, b, a, rs, fl⟩, ba, bc, aa, ac, ra, rc⟩ := x
  unfold EL.agg
  simp only
  have hd1 : (ver != 1) = true := by simp; omega
  have hd2 : (ver != 2) = true := by simp; omega
  go_enter Tryz.func14, Tryz.ntmps14
  go_wp2
  go_ret3
  exact ⟨_, _, _, _, rfl, OB.nil _ _, Sl.none0 _ _, by exact eX⟩

set_option maxRecDepth 100000 in set_option maxHeartbeats 4000000 in
theorem rrecpute_any (x : EL) (ver : Int) (ps : List RR) (a0 : Option Addr) (cap0 : Nat) (w : World) (hx : x.at 6 K.rc w) (hs : x.e.small) (hwk : x.e.wk) (hl : RL w (.slice a0 ps.length cap0) ps) (hc : RCat ps) (hz : evE x.e (ps.map RR.r) ≠ 0) (hv : ver = 1 ∨ ver = 2) :
    Calls Tryz.prog 14 #[.slice a0 ps.length cap0, x.agg, .int .u8 ver] w (RecPutQ [] [] (evE x.e (ps.map RR.r)) w) := by
  have HRG := Hid.mk' (fun W (h : Ext w W) => reright_any x ps a0 cap0 W (hx.ext h) hs hwk (hl.ext h) hc)
  clear hx hs hwk hc hl
  obtain ⟨⟨kind, ao, av, old, b, a, rs, fl⟩, ba, bc, aa, ac, ra, rc⟩ := x
  unfold EL.agg at HRG ⊢
  simp only at HRG ⊢
  generalize evE _ _ = E at HRG hz ⊢
  have hne : (E != 0) = true := by simpa using hz
  clear hz
  rcases hv with rfl | rfl
  all_goals
    go_enter Tryz.func14, Tryz.ntmps14
    go_wp2_with (go_at_call 50; refine (HRG.out _ (by exact eX)).mono ?_; rintro e w1 ⟨rfl, hb1⟩; have HE1 := Hid.mk' (((Ext.refl w).alloc _).trans hb1); clear hb1)
    go_ret3
    exact ⟨_, _, _, _, rfl, OB.nil _ _, Sl.none0 _ _, HE1.out⟩

/-- The reference's Put of whatever event. -/
theorem rrecput_any (x : EL) (ver : Int) (ps : List RR) (a0 : Option Addr) (cap0 : Nat) (w : World) (hx : x.at 6 K.rc w) (hs : x.e.small) (hwk : x.e.wk) (hl : RL w (.slice a0 ps.length cap0) ps) (hc : RCat ps) (ht : x.e.tw) :
    Calls Tryz.prog 14 #[.slice a0 ps.length cap0, x.agg, .int .u8 ver] w (RecPutQ (recB x.e (ps.map RR.r) ver) (recT x.e (ps.map RR.r) ver) (recE x.e (ps.map RR.r) ver) w) := by
  unfold recB recT
  by_cases hv : ver = 1 ∨ ver = 2
  · have hE : recE x.e (ps.map RR.r) ver = evE x.e (ps.map RR.r) := by unfold recE; rw [if_pos hv]
    rw [hE]
    by_cases hz : evE x.e (ps.map RR.r) = 0
    · rw [if_pos hz, if_pos hz, hz]
      unfold recPay recTx
      by_cases h7 : x.e.kind = 7
      · rw [if_pos h7, if_pos h7]
        obtain ⟨h8, -⟩ := ev_trunc hz h7
        refine (rrecput7_any x ver ps a0 cap0 w hx hs hwk hl hc h7 hz h8.2 ht.r hv).mono fun e w' h => ?_
        obtain ⟨v', rfl, h1, h2⟩ := h
        obtain ⟨a', c', rfl⟩ := h1.shape
        exact ⟨a', c', none, 0, rfl, h1, Sl.none0 _ _, h2⟩
      · rw [if_neg h7, if_neg h7]
        obtain ⟨r, hg, hok⟩ := ev_ok hz h7 hwk.old
        rw [colsOf_some hg]
        refine (rrecputr_any x ver r ps a0 cap0 w hx hs hwk hl hc hz hg hok ht.b ht.a ht.at_ hv).mono fun e w' h => ?_
        obtain ⟨v', a', c', rfl, h1, h2, h3⟩ := h
        obtain ⟨a2, c2, rfl⟩ := h1.shape
        exact ⟨a2, c2, a', c', rfl, h1, h2, h3⟩
    · rw [if_neg hz, if_neg hz]
      exact rrecpute_any x ver ps a0 cap0 w hx hs hwk hl hc hz hv
  · have hE : recE x.e (ps.map RR.r) ver = 18 := by unfold recE; rw [if_neg hv]
    rw [hE, if_neg (by decide), if_neg (by decide)]
    exact rrecputv_any x ver ps a0 cap0 w hv

end Go.Proofs.YtlobghojjfkchaaGreat
