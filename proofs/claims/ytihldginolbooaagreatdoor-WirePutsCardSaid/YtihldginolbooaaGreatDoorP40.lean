/-
The message of an event: the program's Of.
-/
import Derived.SizedLaws
import Derived.Test.YtihldginolbooaaGreatDoorP22
import Derived.Test.YtihldginolbooaaGreatDoorP38
import Derived.Test.YtihldginolbooaaGreatDoorP26
import Derived.Test.YtihldginolbooaaGreatDoorP39
import Derived.Test.YtihldginolbooaaGreatDoorP30
import Derived.Test.YtihldginolbooaaGreatDoorP4
import Derived.Test.YtihldginolbooaaGreatDoorP27
import Derived.Test.YtihldginolbooaaGreatDoorP23
namespace Go.Proofs.YtihldginolbooaaGreatDoor
open Go.RowKit Go.Maps Go.Shelf

theorem ext_of_none20 {w w' : World} (h : w.grownBy w' none) : Ext w w' := ⟨h.os, h.tape, h.output, h.size, fun k hk => h.block k hk (by simp)⟩
theorem Ext.map20 {w W W' : World} {m : Nat} (hE : Ext w W) (hg : W.grownBy W' (some m)) (hm : w.heap.size ≤ m) : Ext w W' :=
  ⟨hg.os.trans hE.os, hg.tape.trans hE.tape, hg.output.trans hE.output, Nat.le_trans hE.size hg.size, fun k hk => (hg.block k (by have := hE.size; omega) (by simp; omega)).trans (hE.block k hk)⟩
theorem EL.owned.at20 {N : Nat} {W : World} {y : EL} (h : y.owned N W) : y.at 5 K.pc W :=
  ⟨Sl.of_owns (base := N) (by rw [List.length_map]; exact h.b) (by intro xs hxs; simp at hxs; obtain ⟨_, _, rfl⟩ := hxs; rfl), Sl.of_owns (base := N) (by rw [List.length_map]; exact h.a) (by intro xs hxs; simp at hxs; obtain ⟨_, _, rfl⟩ := hxs; rfl), Sl.of_owns (base := N) (by rw [List.length_map]; exact h.r) (by intro xs hxs; simp at hxs; obtain ⟨_, _, rfl⟩ := hxs; rfl)⟩
theorem EL.owned.on20 {N : Nat} {W : World} {y : EL} (h : y.owned N W) : y.on (fun b => N ≤ b) :=
  ⟨fun _ b o e => (h.b.lt b (by rw [e]; rfl)).1, fun _ b o e => (h.a.lt b (by rw [e]; rfl)).1, fun _ b o e => (h.r.lt b (by rw [e]; rfl)).1⟩
/-- Which letters there are, what they stand for. -/
theorem kd_in {k c : Int} (h : ∀ zd, KD.atKey (.int .u8 k) zd = .lit (.int .u8 c)) : c = wkind k ∧ 0 < wkind k := by
  have h1 := h (.lit (.int .u8 0))
  rw [kd_at] at h1
  simp only [DataW.lit.injEq, Go.Lit.int.injEq, true_and] at h1
  refine ⟨h1.symm, ?_⟩
  apply Classical.byContradiction
  intro hn
  have h2 := h (.lit (.int .u8 99))
  have q1 : k ≠ 68 := fun e => hn (by rw [e]; decide)
  have q2 : k ≠ 73 := fun e => hn (by rw [e]; decide)
  have q3 : k ≠ 84 := fun e => hn (by rw [e]; decide)
  have q4 : k ≠ 85 := fun e => hn (by rw [e]; decide)
  have g1 : (68 : Int) ≠ k := fun e => q1 e.symm
  have g2 : (73 : Int) ≠ k := fun e => q2 e.symm
  have g3 : (84 : Int) ≠ k := fun e => q3 e.symm
  have g4 : (85 : Int) ≠ k := fun e => q4 e.symm
  have h3 : c = 99 := by
    have h4 : KD.atKey (.int .u8 k) (.lit (.int .u8 99)) = .lit (.int .u8 99) := by
      unfold KD DataW.atKey
      simp [List.find?, Go.Lit.sameKey, g1, g2, g3, g4]
    rw [h4] at h2
    simpa using h2.symm
  rw [← h1] at h3
  unfold wkind at h3
  (repeat' split at h3) <;> omega
theorem kd_has (k : Int) (h : 0 < wkind k) : Maps.has KD (.int .u8 k) = true := by
  unfold wkind at h
  by_cases h1 : k = 73
  · subst h1; rfl
  by_cases h2 : k = 85
  · subst h2; rfl
  by_cases h3 : k = 68
  · subst h3; rfl
  by_cases h4 : k = 84
  · subst h4; rfl
  rw [if_neg h1, if_neg h2, if_neg h3, if_neg h4] at h
  omega
theorem msgOf_let {e : Ev} {k : Int} (h : e.kind = wkind k) (h0 : 0 < wkind k) : msgOf e = ⟨k, 0, 0, 0, Rl0, e⟩ := by
  unfold msgOf
  by_cases h1 : k = 73
  · subst h1; rw [if_pos (show e.kind = 4 from h)]
  by_cases h2 : k = 85
  · subst h2; rw [if_neg (by rw [h]; decide), if_pos (show e.kind = 5 from h)]
  by_cases h3 : k = 68
  · subst h3; rw [if_neg (by rw [h]; decide), if_neg (by rw [h]; decide), if_pos (show e.kind = 6 from h)]
  by_cases h4 : k = 84
  · subst h4; rw [if_neg (by rw [h]; decide), if_neg (by rw [h]; decide), if_neg (by rw [h]; decide), if_pos (show e.kind = 7 from h)]
  unfold wkind at h0
  rw [if_neg h1, if_neg h2, if_neg h3, if_neg h4] at h0
  omega
theorem msgOf_none {e : Ev} (h : ∀ k, 0 < wkind k → e.kind ≠ wkind k) : msgOf e = ⟨0, 0, 0, 0, Rl0, Ev0⟩ := by
  unfold msgOf
  rw [if_neg (fun q => h 73 (by decide) (by rw [q]; rfl)), if_neg (fun q => h 85 (by decide) (by rw [q]; rfl)), if_neg (fun q => h 68 (by decide) (by rw [q]; rfl)), if_neg (fun q => h 84 (by decide) (by rw [q]; rfl))]

set_option maxRecDepth 20000 in
theorem res_mof {W : World} {b : Nat} {v0 v1 v2 v3 v4 v5 v6 v7 v8 v9 v10 v11 v12 v13 v14 v15 v16 : Value} {tm : Array Value} (h : Blk W b #[v0, v1, v2, v3, v4, v5, v6, v7, v8, v9, v10, v11, v12, v13, v14, v15, v16] 56) (ht : tm.getD 2 undef = .pointer (some ⟨b, 0, none⟩)) :
    (results Tryz.f15 tm).run Tryz.prog W = .ok (.agg #[v0, v1, v2, v3, v4, v5, v6, v7, v8, v9, v10, v11, v12, v13, v14, v15, v16]) W := by
  have c := h.cell
  have c0 := c 0
  have c1 := c 1
  have c2 := c 2
  have c3 := c 3
  have c4 := c 4
  have c5 := c 5
  have c6 := c 6
  have c7 := c 7
  have c8 := c 8
  have c9 := c 9
  have c10 := c 10
  have c11 := c 11
  have c12 := c 12
  have c13 := c 13
  have c14 := c 14
  have c15 := c 15
  have c16 := c 16
  clear c h
  simp at c0 c1 c2 c3 c4 c5 c6 c7 c8 c9 c10 c11 c12 c13 c14 c15 c16
  rw [Array.getD_eq_getD_getElem?] at ht
  simp [results, Tryz.results15, go_sem, ht, c0, c1, c2, c3, c4, c5, c6, c7, c8, c9, c10, c11, c12, c13, c14, c15, c16]

set_option maxRecDepth 100000 in set_option maxHeartbeats 8000000 in
theorem mof_any (x : EL) (w : World) (hx : x.at 5 K.pc w) (hs : x.e.small) (hk : Kin w) :
    Calls Tryz.prog 15 #[x.agg] w fun e w' => ∃ p : ML, e = .returned p.agg ∧ p.m = msgOf x.e ∧ p.at 5 K.pc w' ∧ Ext w w' := by
  have HCP := Hid.mk' (fun W (h : Ext w W) => ecopy_any x W (hx.ext h) hs)
  obtain ⟨B, hb1, hb2, hb3⟩ := hk.ext (show Ext w ((w.alloc (.cells #[.int .u8 x.e.kind, .int .u32 x.e.ao, .int .u32 x.e.av, .int .u8 x.e.old, .slice x.ba x.e.b.length x.bc, .slice x.aa x.e.a.length x.ac, .slice x.ra x.e.rs.length x.rc, .int .u8 x.e.fl] 54)).alloc (.cells #[.int .u8 0, .int .u32 0, .int .u64 0, .int .u32 0, .int .u32 0, .int .u32 0, .string ⟨#[]⟩, .int .u8 0, .slice none 0 0, .int .u8 0, .int .u32 0, .int .u32 0, .int .u8 0, .slice none 0 0, .slice none 0 0, .slice none 0 0, .int .u8 0] 56)) from ((Ext.refl w).alloc _).alloc _)
  have HMO := Hid.mk' hb2
  have HMC := Hid.mk' hb1
  have HMZ := Hid.mk' hb3
  clear hx hs hk hb1 hb2 hb3
  obtain ⟨⟨kd, ao, av, old, b, aa, rs, fl⟩, ba, bc, aad, ac, ra, rc⟩ := x
  unfold EL.agg at HCP ⊢
  dsimp only at HCP HMO HMC HMZ ⊢
  have HX := Hid.mk' (show Blk ((w.alloc (.cells #[.int .u8 kd, .int .u32 ao, .int .u32 av, .int .u8 old, .slice ba b.length bc, .slice aad aa.length ac, .slice ra rs.length rc, .int .u8 fl] 54)).alloc (.cells #[.int .u8 0, .int .u32 0, .int .u64 0, .int .u32 0, .int .u32 0, .int .u32 0, .string ⟨#[]⟩, .int .u8 0, .slice none 0 0, .int .u8 0, .int .u32 0, .int .u32 0, .int .u8 0, .slice none 0 0, .slice none 0 0, .slice none 0 0, .int .u8 0] 56)) w.heap.size #[.int .u8 kd, .int .u32 ao, .int .u32 av, .int .u8 old, .slice ba b.length bc, .slice aad aa.length ac, .slice ra rs.length rc, .int .u8 fl] 54 from (Blk.new _ _ _).alloc _)
  have HZ := Hid.mk' (show Blk ((w.alloc (.cells #[.int .u8 kd, .int .u32 ao, .int .u32 av, .int .u8 old, .slice ba b.length bc, .slice aad aa.length ac, .slice ra rs.length rc, .int .u8 fl] 54)).alloc (.cells #[.int .u8 0, .int .u32 0, .int .u64 0, .int .u32 0, .int .u32 0, .int .u32 0, .string ⟨#[]⟩, .int .u8 0, .slice none 0 0, .int .u8 0, .int .u32 0, .int .u32 0, .int .u8 0, .slice none 0 0, .slice none 0 0, .slice none 0 0, .int .u8 0] 56)) (w.heap.size + 1) #[.int .u8 0, .int .u32 0, .int .u64 0, .int .u32 0, .int .u32 0, .int .u32 0, .string ⟨#[]⟩, .int .u8 0, .slice none 0 0, .int .u8 0, .int .u32 0, .int .u32 0, .int .u8 0, .slice none 0 0, .slice none 0 0, .slice none 0 0, .int .u8 0] 56 from Blk.new' (w := w.alloc (.cells #[.int .u8 kd, .int .u32 ao, .int .u32 av, .int .u8 old, .slice ba b.length bc, .slice aad aa.length ac, .slice ra rs.length rc, .int .u8 fl] 54)) _ _ (by simp))
  have HE1 := Hid.mk' (show Ext w ((w.alloc (.cells #[.int .u8 kd, .int .u32 ao, .int .u32 av, .int .u8 old, .slice ba b.length bc, .slice aad aa.length ac, .slice ra rs.length rc, .int .u8 fl] 54)).alloc (.cells #[.int .u8 0, .int .u32 0, .int .u64 0, .int .u32 0, .int .u32 0, .int .u32 0, .string ⟨#[]⟩, .int .u8 0, .slice none 0 0, .int .u8 0, .int .u32 0, .int .u32 0, .int .u8 0, .slice none 0 0, .slice none 0 0, .slice none 0 0, .int .u8 0] 56)) from ((Ext.refl w).alloc _).alloc _)
  have HSZ := Hid.mk' (show ((w.alloc (.cells #[.int .u8 kd, .int .u32 ao, .int .u32 av, .int .u8 old, .slice ba b.length bc, .slice aad aa.length ac, .slice ra rs.length rc, .int .u8 fl] 54)).alloc (.cells #[.int .u8 0, .int .u32 0, .int .u64 0, .int .u32 0, .int .u32 0, .int .u32 0, .string ⟨#[]⟩, .int .u8 0, .slice none 0 0, .int .u8 0, .int .u32 0, .int .u32 0, .int .u8 0, .slice none 0 0, .slice none 0 0, .slice none 0 0, .int .u8 0] 56)).heap.size = w.heap.size + 2 by simp)
  obtain ⟨w1, hw1⟩ : ∃ W, W = (w.alloc (.cells #[.int .u8 kd, .int .u32 ao, .int .u32 av, .int .u8 old, .slice ba b.length bc, .slice aad aa.length ac, .slice ra rs.length rc, .int .u8 fl] 54)).alloc (.cells #[.int .u8 0, .int .u32 0, .int .u64 0, .int .u32 0, .int .u32 0, .int .u32 0, .string ⟨#[]⟩, .int .u8 0, .slice none 0 0, .int .u8 0, .int .u32 0, .int .u32 0, .int .u8 0, .slice none 0 0, .slice none 0 0, .slice none 0 0, .int .u8 0] 56) := ⟨_, rfl⟩
  rw [← hw1] at HX HZ HE1 HMO HMC HMZ HSZ
  go_enter Tryz.func15, Tryz.ntmps15
  go_upto_region 1 with (fail)
  rw [← hw1]
  clear hw1
  obtain ⟨X, hX⟩ : ∃ X, X = w.heap.size := ⟨_, rfl⟩
  rw [← hX] at HX HZ HSZ ⊢
  have HXE := Hid.mk' hX
  clear hX
  have gG := HMC.out
  have gZ := HMZ.out
  have hown := HMO.out
  go_wp2_with (first
    | (at_range; refine wpList_range_own _ rfl _ 98 rfl 5 5 lawU8 Tryz.underlying98 (plainElem Tryz.prog 5) B 4 KD rfl hown ?_; intro w0 hrg0 hg0 hs0)
    | go_in)
  go_frame
  have HE0 := Hid.mk' (ext_of_none20 hg0)
  have HR0 := Hid.mk' hs0
  clear hown hg0 gG gZ hs0
  go_loopw [8] (fun _ wr => ∃ (left : Go.Lit → Bool) (cnt : Nat), wr.ranges Tryz.prog 5 (plainElem Tryz.prog 5) B w1.heap.size 4 KD left cnt ∧ Hid (∀ l, 0 < wkind l → kd = wkind l → left (.int .u8 l) = true) ∧ Hid (Ext w1 wr)) (fun _ wr => wr.rangeLeft B w1.heap.size)
  case atStart => exact ⟨_, _, hrg0, Hid.mk' (fun l h _ => kd_has l h), HE0⟩
  case round =>
    obtain ⟨left, cnt, hrg, hL, hE⟩ := hrel
    go_wp2_with (first
      | (at_next; refine wpList_next_ranges_ii _ rfl _ rfl 5 5 .u8 .u8 lawU8 Tryz.underlying5 Tryz.underlying5 B w1.heap.size 4 _ _ _ rfl hrg ?_ ?_)
      | go_in)
    · intro hc0 hl0
      have HNO := Hid.mk' (show msgOf (⟨kd, ao, av, old, b, aa, rs, fl⟩ : Ev) = ⟨0, 0, 0, 0, Rl0, Ev0⟩ from msgOf_none (fun l h0 h => by have h2 := hL.out l h0 h; rw [hl0] at h2; cases h2))
      have HZr := Hid.mk' (HZ.out.ext hE.out)
      have HS17 := Hid.mk' (show (Instr.storeAt 56 (.pointer (some ⟨X + 1, 0, none⟩)) (.agg #[.int .u8 0, .int .u32 0, .int .u64 0, .int .u32 0, .int .u32 0, .int .u32 0, .string ⟨#[]⟩, .int .u8 0, .slice none 0 0, .int .u8 0, .int .u32 0, .int .u32 0, .int .u8 0, .slice none 0 0, .slice none 0 0, .slice none 0 0, .int .u8 0])).run Tryz.prog wr = .ok () _ from store17 HZr.out)
      clear hc0 hl0 hL hrg
      go_wp2_with (refine wpList_store_to rfl 56 (.tmp 2) (.tmp 20) rfl _ _ ?e1 ?e2 HS17.out ?_; (case e1 => go_simp); (case e2 => go_simp))
      refine bodyPost_ret (res_mof (Blk.c17 HZr.out) rfl) rfl ⟨⟨0, 0, 0, 0, ⟨Rl0, none, 0⟩, ⟨Ev0, none, 0, none, 0, none, 0⟩⟩, rfl, HNO.out.symm, ⟨RR.in_zero _, EL.at_zero _ _ _⟩, Ext.c17 (HE1.out.trans hE.out) (by have := HXE.out; omega)⟩
    · intro x' c w2 cnt2 hwx hwc hlx hat hrg2 hlt hg2 hs2 hen
      obtain ⟨hc, hpos⟩ := kd_in hat
      have HE2 := Hid.mk' (Ext.map20 hE.out hg2 (Nat.le_refl _))
      have HX2 := Hid.mk' (HX.out.ext HE2.out)
      have HZ2 := Hid.mk' (HZ.out.ext HE2.out)
      have gX := HX2.out.cell
      have zX := HX2.out.lt
      have HRG2 := Hid.mk' hrg2
      have HRG := Hid.mk' hrg
      have HLT := Hid.mk' hlt
      have HC := Hid.mk' hc
      have HPOS := Hid.mk' hpos
      clear hwx hwc hlx hat hrg2 hrg hlt hg2 hs2 hc hpos
      by_cases hk : kd = c
      · have hk' : (kd == c) = true := by simpa using hk
        have HMS := Hid.mk' (show msgOf (⟨kd, ao, av, old, b, aa, rs, fl⟩ : Ev) = ⟨x', 0, 0, 0, Rl0, ⟨kd, ao, av, old, b, aa, rs, fl⟩⟩ from msgOf_let (hk.trans HC.out) HPOS.out)
        clear hk hL HRG HRG2
        go_wp2_with (first
          | (go_at_call 43; refine (HCP.out _ (HE1.out.trans (HE2.out.trans (by exact eX)))).mono ?_; rintro e w4 ⟨y, rfl, hye, hyo, hb4⟩; obtain ⟨ye, a1, c1, a2, c2, a3, c3⟩ := y; (have hye : ye = _ := hye); subst hye; have HB4 := Hid.mk' (show Ext w1 w4 from HE2.out.trans (by exact eX)); have HYO := Hid.mk' hyo; have HZ4 := Hid.mk' (HZ.out.ext HB4.out); clear hb4 hyo gX zX; have HS17 := Hid.mk' (show (Instr.storeAt 56 (.pointer (some ⟨X + 1, 0, none⟩)) (.agg #[.int .u8 x', .int .u32 0, .int .u64 0, .int .u32 0, .int .u32 0, .int .u32 0, .string ⟨#[]⟩, .int .u8 0, .slice none 0 0, .int .u8 kd, .int .u32 ao, .int .u32 av, .int .u8 old, .slice a1 b.length c1, .slice a2 aa.length c2, .slice a3 rs.length c3, .int .u8 fl])).run Tryz.prog w4 = .ok () _ from store17 HZ4.out))
          | (refine wpList_store_to rfl 56 (.tmp 2) (.tmp 19) rfl _ _ ?e1 ?e2 HS17.out ?_; (case e1 => go_simp); (case e2 => (try unfold EL.agg); go_simp)))
        refine bodyPost_ret (res_mof (Blk.c17 HZ4.out) rfl) rfl ⟨⟨x', 0, 0, 0, ⟨Rl0, none, 0⟩, ⟨⟨kd, ao, av, old, b, aa, rs, fl⟩, a1, c1, a2, c2, a3, c3⟩⟩, rfl, HMS.out.symm, ⟨RR.in_zero _, EL.at.kp HYO.out.at20 Kp.c17 (HYO.out.on20.mono (fun b' hb h => ?_))⟩, Ext.c17 (HE1.out.trans HB4.out) (by have := HXE.out; omega)⟩
        have h1 := HZ2.out.lt
        have h : b' = X + 1 := h
        omega
      · have hk' : (kd == c) = false := by simpa using hk
        have HL2 := Hid.mk' (show ∀ l, 0 < wkind l → kd = wkind l → (left (.int .u8 l) && !(Go.Lit.int .u8 l).sameKey (.int .u8 x')) = true from fun l h0 h => by
          have hne : l ≠ x' := fun e => hk (by rw [h, e]; exact HC.out.symm)
          rw [hL.out l h0 h]
          simp [Go.Lit.sameKey, hne])
        clear hk hL
        go_wp2
        go_roundw
        case rel => exact ⟨_, _, HRG2.out, HL2, HE2⟩
        case measure => rw [HRG2.out.left_eq, HRG.out.left_eq]; exact HLT.out

end Go.Proofs.YtihldginolbooaaGreatDoor

/-
Relations of the arguments, opened: none has more columns than a slice may have.
-/
namespace Go.Proofs.YtihldginolbooaaGreatDoor
open Go.RowKit Go.ChangeShapes Go.WideShapes Go.ChangeAt

section
variable {H : Type} {enc : TypeId × Value → H} {P : Program} {w : World} {base : Nat} {spare : Nat → Bool} {held : Bool}
theorem weightsAll_mem {e : TypeId} : ∀ {l : List (DataW H)} {d : DataW H}, d ∈ l → ∀ n ∈ d.weights P e, n ∈ DataW.weightsAll P e l
  | d' :: r, d, hd, n, hn => by
    simp only [DataW.weightsAll, List.mem_append]
    rcases List.mem_cons.1 hd with rfl | h
    · exact Or.inl hn
    · exact Or.inr (weightsAll_mem h n hn)
/-- A slice, opened: its elements' cells, what each reads as, and what it weighs. -/
theorem trod_slW {T E : TypeId} {k n : Nat} {cs : List Value} {x : DataW H × List MemPlace} (ht : P.underlying T = some (.slice E)) (hk : P.cellsOf E = k) (hk0 : 0 < k) (h : DataW.trod enc P w base spare held n T cs = some x) :
    ∃ v xss, cs = [v] ∧ Sl w v k xss ∧ xss.length ≤ 9223372036854775807 ∧ (xss = [] ∨ ∃ q ∈ x.1.weights P T, xss.length * P.bytesOf E ≤ q) ∧ ∀ xs ∈ xss, xs.length = k ∧ ∃ n y, DataW.trod enc P w base spare held n E xs = some y ∧ ∀ q ∈ y.1.weights P E, q ∈ x.1.weights P T := by
  rcases Go.Deep.open_slice ht h with ⟨rfl, rfl⟩ | ⟨a, len, cap, m, q, D, Pl, rfl, hb, hl, hm, hmm, hxx, hx⟩
  · exact ⟨_, [], rfl, ⟨none, 0, rfl, .inl rfl⟩, by simp, .inl rfl, by simp⟩
  · have hlm : len ≤ m := by rw [hmm]; split <;> omega
    have hw : ∀ i, i < len → ∀ q ∈ (D i).weights P E, q ∈ x.1.weights P T := fun i hi q hq => by
      rw [hxx]
      simp only [DataW.weights, ht, List.mem_cons, List.mem_append]
      exact .inr (.inl (weightsAll_mem (List.mem_map.2 ⟨i, List.mem_range.2 hi, rfl⟩) q hq))
    have hall : ∀ i, i < len → ∃ cs', w.cells? base (a.add (i * k)) k = some cs' ∧ DataW.trod enc P w base spare held q E cs' = some (D i, Pl i) := fun i hi => by
      have := hx i (by omega); rwa [hk] at this
    obtain ⟨C, hC⟩ := Go.Deep.choose_lt hall
    have hcl : cap ≤ 9223372036854775807 := hm
    refine ⟨_, (List.range len).map C, rfl, ?_, by simp; omega, .inr ⟨(len + (m - len)) * P.bytesOf E, ?_, ?_⟩, ?_⟩
    · refine ⟨some a, cap, by simp, ?_⟩
      by_cases h0 : len = 0
      · subst h0; exact .inl rfl
      · right
        have hc0 := (World.cells?_some (hC 0 (by omega)).1)
        have e0 : (a.add (0 * k)).add 0 = a := by unfold Addr.add; simp
        have hcell : (w.cell? a).isSome = true := by
          have := hc0.2.2 0 hk0
          rw [e0] at this
          rw [this, List.getElem?_eq_getElem (by omega)]; rfl
        have hsp : a.spot = none := by
          unfold World.cell? at hcell
          split at hcell
          · split at hcell
            · simp at hcell
            · rename_i hs; simpa using hs
          · simp at hcell
        have hlt : a.block < w.heap.size := by
          unfold World.cell? at hcell
          rcases Nat.lt_or_ge a.block w.heap.size with h1 | h1
          · exact h1
          · rw [Array.getElem?_eq_none h1] at hcell; simp at hcell
        refine ⟨a.block, a.off, by cases a; simp at hsp; subst hsp; rfl, hlt, ?_⟩
        intro i hi j hj
        simp only [List.length_map, List.length_range] at hi
        have h2 := (World.cells?_some (hC i hi).1).2.2 j hj
        rw [Go.Deep.add_add] at h2
        have e : a.add (i * k + j) = ⟨a.block, a.off + i * k + j, none⟩ := by
          unfold Addr.add
          split
          · rename_i hz
            have h3 : i * k = 0 := by omega
            have h4 : j = 0 := by omega
            cases a; simp at hsp; subst hsp; simp [h3, h4]
          · cases a; simp at hsp; subst hsp; simp
        rw [e] at h2
        rw [h2]
        simp [hi]
    · rw [hxx]
      simp only [DataW.weights, ht, List.mem_cons, List.length_map, List.length_range, true_or]
    · rw [List.length_map, List.length_range]
      exact Nat.mul_le_mul_right _ (by omega)
    · intro xs hxs
      simp only [List.mem_map, List.mem_range] at hxs
      obtain ⟨i, hi, rfl⟩ := hxs
      exact ⟨(World.cells?_some (hC i hi).1).2.1, _, _, (hC i hi).2, hw i hi⟩
end

theorem Tryz.cellsRelG : Tryz.prog.cellsOf 29 = 5 := by kernel_rfl
theorem Tryz.cellsColsG : Tryz.prog.cellsOf 27 = 1 := by kernel_rfl
theorem Tryz.bytesColG : Tryz.prog.bytesOf 93 = 24 := by kernel_rfl
section
variable {H : Type} {enc : TypeId × Value → H} {w : World} {base : Nat} {spare : Nat → Bool} {held : Bool} {r : Reach} {base2 : Nat} {v : Value} {d : DataW H} {ps : List MemPlace}
set_option maxRecDepth 20000 in
theorem openR_one {n : Nat} {cs : List Value} {x : DataW H × List MemPlace} (h : DataW.trod enc Tryz.prog w base spare held n 29 cs = some x) (hwt : ∀ q ∈ x.1.weights Tryz.prog 29, q ≤ reachBytes) :
    ∃ p : RR, cs = p.cells ∧ p.in w ∧ p.r.wb := by
  have hl := flat_open 4 _ _ n cs x Tryz.flatRelG h
  obtain ⟨xs, m, _, rfl, hlen, hxl, hf⟩ := DataW.trod_struct Tryz.underlying29 h
  match cs, hl with
  | [c0, c1, c2, c3, c4], ⟨l0, l1, l2, l3, l4, _⟩ =>
    obtain ⟨oid, rfl, h0⟩ := l0.int Tryz.underlying23
    obtain ⟨ver, rfl, h1⟩ := l1.int Tryz.underlying23
    obtain ⟨nm, rfl, h2⟩ := l2.string Tryz.underlying9
    obtain ⟨id, rfl, h3⟩ := l3.int Tryz.underlying5
    have h4 : DataW.trod enc Tryz.prog w base spare held m 27 ((([Value.int .u32 oid, .int .u32 ver, .string nm, .int .u8 id, c4] : List Value).drop 4).take (Tryz.prog.cellsOf 27)) = xs[3]? := (hf 3 _ rfl).trans rfl
    rw [Tryz.cellsColsG] at h4
    simp only [List.drop_succ_cons, List.drop_zero, List.take_succ_cons, List.take_zero] at h4
    have h3l : 3 < xs.length := by rw [hxl]; decide
    rw [List.getElem?_eq_getElem h3l] at h4
    have hwt2 : ∀ q ∈ (xs[3]).1.weights Tryz.prog 27, q ≤ reachBytes := fun q hq => by
      refine hwt q ?_
      simp only [DataW.weights, Tryz.underlying29]
      refine DataW.weights_mem_each (j := 3) (t := 27) (d := (xs[3]).1) rfl (by rw [List.getElem?_map, List.getElem?_eq_getElem h3l]; rfl) q hq
    obtain ⟨v', xss, hcs, hsl, hlen2, hw2, hx⟩ := trod_slW Tryz.underlying27 Tryz.cellsColG (by decide) h4
    obtain rfl : c4 = v' := by simpa using hcs
    obtain ⟨cols, rfl, hcl⟩ := exists_map (f := Col.cells) (p := fun c => c.nm.size ≤ 9223372036854775807) xss (fun xs hxs => by
      obtain ⟨_, n, x, h, _⟩ := hx xs hxs
      have hl := flat_open 4 _ _ n xs x Tryz.flatColG h
      match xs, hl with
      | [d0, d1, d2], ⟨m0, m1, m2, _⟩ =>
        obtain ⟨s, rfl, hs⟩ := m0.string Tryz.underlying9
        obtain ⟨ty, rfl, _⟩ := m1.int Tryz.underlying5
        obtain ⟨b, rfl⟩ := m2.bool Tryz.underlying4
        exact ⟨⟨s, ty, b⟩, rfl, hs⟩)
    obtain ⟨a, cap, rfl, hshape⟩ := hsl.shape (n := cols.length) (by simp)
    refine ⟨⟨⟨oid, ver, nm, id, cols⟩, a, cap⟩, rfl, hsl, ⟨h2, hcl, ?_, (wfG_u8 h3).1⟩⟩
    rcases hw2 with h0 | ⟨q, hq, hle⟩
    · have : cols = [] := by simpa using h0
      simp [this]
    · have h5 := hwt2 q hq
      rw [Tryz.bytesColG, List.length_map] at hle
      have h6 : reachBytes = 140737488351232 := rfl
      show cols.length ≤ 5864062014634
      omega
set_option maxRecDepth 20000 in
theorem openG_rels (h : DataW.Trod enc Tryz.prog w base spare held 22 v d ps) (hv : Value.okWide Tryz.prog w r base2 22 v) (hwt : ∀ q ∈ d.weights Tryz.prog 22, q ≤ reachBytes) :
    ∃ (l : List RR) (a : Option Addr) (cap : Nat), v = .slice a l.length cap ∧ RL w (.slice a l.length cap) l ∧ l.length ≤ 9223372036854775807 ∧ ∀ p ∈ l, p.r.wb := by
  obtain ⟨a, len, cap, rfl⟩ := okWide_slice Tryz.underlying22 hv
  obtain ⟨n, hn⟩ := h
  obtain ⟨v', xss, hcs, hsl, hlen, _, hx⟩ := trod_slW Tryz.underlying22 Tryz.cellsRelG (by decide) hn
  have e : v' = .slice a len cap := by simpa [Value.cells] using hcs.symm
  obtain ⟨l, rfl, hl⟩ := exists_map (f := RR.cells) (p := fun p => p.in w ∧ p.r.wb) xss (fun xs hxs => by
    obtain ⟨_, n, y, h, hq⟩ := hx xs hxs
    exact openR_one h (fun q hm => hwt q (hq q hm)))
  rw [e] at hsl
  obtain ⟨a', cap', he, hshape⟩ := hsl.shape (n := l.length) (by simp)
  simp only [Value.slice.injEq] at he
  obtain ⟨rfl, rfl, rfl⟩ := he
  exact ⟨l, a, cap, rfl, ⟨hsl, fun p hp => (hl p hp).1⟩, by simpa using hlen, fun p hp => (hl p hp).2⟩
theorem Tryz.flatRefG : flat Tryz.prog 4 26 = some [23, 23] := by kernel_rfl
theorem Tryz.cellsRefG : Tryz.prog.cellsOf 26 = 2 := by kernel_rfl
end

end Go.Proofs.YtihldginolbooaaGreatDoor

/-
Relations of the arguments, opened: what each of their numbers is within, too.
-/
namespace Go.Proofs.YtihldginolbooaaGreatDoor
open Go.RowKit Go.ChangeShapes Go.WideShapes Go.ChangeAt

section
variable {H : Type} {enc : TypeId × Value → H} {w : World} {base : Nat} {spare : Nat → Bool} {held : Bool} {r : Reach} {base2 : Nat} {v : Value} {d : DataW H} {ps : List MemPlace}
set_option maxRecDepth 20000 in
theorem openR_b32 {n : Nat} {p : RR} {x : DataW H × List MemPlace} (h : DataW.trod enc Tryz.prog w base spare held n 29 p.cells = some x) : B32 p.r.oid ∧ B32 p.r.ver := by
  have hl := flat_open 4 _ _ n _ x Tryz.flatRelG h
  obtain ⟨l0, l1, l2, l3, l4, _⟩ := hl
  obtain ⟨oid, e0, h0⟩ := l0.int Tryz.underlying23
  obtain ⟨ver, e1, h1⟩ := l1.int Tryz.underlying23
  cases e0
  cases e1
  exact ⟨wfG_u32 h0, wfG_u32 h1⟩
end
end Go.Proofs.YtihldginolbooaaGreatDoor

/-
Events and transactions of the arguments, opened.
-/
namespace Go.Proofs.YtihldginolbooaaGreatDoor
open Go.RowKit Go.ChangeShapes Go.WideShapes Go.ChangeAt

theorem Tryz.flatEv13 : flat Tryz.prog 4 33 = some [5, 23, 23, 5, 30, 30, 31, 5] := by kernel_rfl
section
variable {H : Type} {enc : TypeId × Value → H} {w : World} {base : Nat} {spare : Nat → Bool} {held : Bool} {r : Reach} {base2 : Nat} {v : Value} {d : DataW H} {ps : List MemPlace}
end

end Go.Proofs.YtihldginolbooaaGreatDoor
