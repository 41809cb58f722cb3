/-
Whether two events are alike, the program's and the reference's.
-/
import Derived.Deep.RegionHeld
import Derived.Test.YtdlhaidlokkmnaaGreatDoorP10
import Derived.Test.YtdlhaidlokkmnaaGreatDoorP5
import Derived.Test.YtdlhaidlokkmnaaGreatDoorP8
set_option maxRecDepth 100000
set_option maxHeartbeats 16000000
namespace Go.Proofs.YtdlhaidlokkmnaaGreatDoor
open Go.RowKit
structure Ev.small (e : Ev) : Prop where
  b : e.b.length ≤ 1000
  a : e.a.length ≤ 1000
  r : e.rs.length ≤ 1000
theorem ealike_any (x y : EL) (w : World) (hx : x.at 5 K.pc w) (hy : y.at 5 K.pc w) (h1 : x.e.small) (h2 : y.e.small) :
    Calls Tryz.prog 100 #[x.agg, y.agg] w fun e w' => e = .returned (.bool (evB x.e y.e)) ∧ Ext w w' := by
  obtain ⟨⟨k1, ao1, av1, old1, b1, a1, r1, fl1⟩, ba1, bc1, aa1, ac1, ra1, rc1⟩ := x
  obtain ⟨⟨k2, ao2, av2, old2, b2, a2, r2, fl2⟩, ba2, bc2, aa2, ac2, ra2, rc2⟩ := y
  unfold EL.agg
  simp only
  have HB := Hm (fun W (h : Ext w W) => alike_any b1 b2 ba1 ba2 bc1 bc2 W (hx.b.ext h) (hy.b.ext h) h1.b h2.b)
  have HA := Hm (fun W (h : Ext w W) => alike_any a1 a2 aa1 aa2 ac1 ac2 W (hx.a.ext h) (hy.a.ext h) h1.a h2.a)
  have HF := Hm (fun W (h : Ext w W) => eqrefs_any r1 r2 ra1 ra2 rc1 rc2 W (hx.r.ext h) (hy.r.ext h) (by have := h1.r; simp only at this; omega))
  clear hx hy h1 h2
  by_cases q1 : k1 = k2
  case neg =>
    have HR := Hm (show evB (⟨k1, ao1, av1, old1, b1, a1, r1, fl1⟩ : Ev) (⟨k2, ao2, av2, old2, b2, a2, r2, fl2⟩ : Ev) = false from evB_false.2 (fun h => by injection h; contradiction))
    have q1' : (k1 == k2) = false := by simpa using q1
    clear q1
    go_enter Tryz.func100, Tryz.ntmps100
    go_wp2
    go_ret
    exact ⟨ret_bool HR.out.symm, by exact eX⟩
  by_cases q2 : rfB ⟨ao1, av1⟩ ⟨ao2, av2⟩ = true
  case neg =>
    have HR := Hm (show evB (⟨k1, ao1, av1, old1, b1, a1, r1, fl1⟩ : Ev) (⟨k2, ao2, av2, old2, b2, a2, r2, fl2⟩ : Ev) = false from evB_false.2 (fun h => by injection h with _ e1 e2; exact q2 (rfB_true.2 (by rw [e1, e2]))))
    have q2' : rfB ⟨ao1, av1⟩ ⟨ao2, av2⟩ = false := by simpa using q2
    have hQ := fun w => eql_pref ao1 av1 ao2 av2 w
    rw [q2'] at hQ
    clear q2 q2'
    subst q1
    go_enter Tryz.func100, Tryz.ntmps100
    go_wp2
    go_ret
    exact ⟨ret_bool HR.out.symm, by exact eX⟩
  have q2e := rfB_true.1 q2
  injection q2e with q3 q4
  clear q2
  subst q1 q3 q4
  by_cases q5 : old1 = old2
  case neg =>
    have HR := Hm (show evB (⟨k1, ao1, av1, old1, b1, a1, r1, fl1⟩ : Ev) (⟨k1, ao1, av1, old2, b2, a2, r2, fl2⟩ : Ev) = false from evB_false.2 (fun h => by injection h; contradiction))
    have q5' : (old1 == old2) = false := by simpa using q5
    clear q5
    go_enter Tryz.func100, Tryz.ntmps100
    go_wp2
    go_ret
    exact ⟨ret_bool HR.out.symm, by exact eX⟩
  subst q5
  by_cases q6 : fl1 = fl2
  case neg =>
    have HR := Hm (show evB (⟨k1, ao1, av1, old1, b1, a1, r1, fl1⟩ : Ev) (⟨k1, ao1, av1, old1, b2, a2, r2, fl2⟩ : Ev) = false from evB_false.2 (fun h => by injection h; contradiction))
    have q6' : (fl1 == fl2) = false := by simpa using q6
    clear q6
    go_enter Tryz.func100, Tryz.ntmps100
    go_wp2
    go_ret
    exact ⟨ret_bool HR.out.symm, by exact eX⟩
  subst q6
  cases hb : rowB b1 b2 with
  | false =>
    have HR := Hm (show evB (⟨k1, ao1, av1, old1, b1, a1, r1, fl1⟩ : Ev) (⟨k1, ao1, av1, old1, b2, a2, r2, fl1⟩ : Ev) = false from evB_false.2 (fun h => by injection h with _ _ _ _ e1; exact rowB_false.1 hb e1))
    rw [hb] at HB
    clear hb
    go_enter Tryz.func100, Tryz.ntmps100
    go_wp2_with (go_at_call 125; refine (HB.out _ (by exact eX)).mono ?_; rintro e w2 ⟨rfl, hb2⟩)
    go_ret
    exact ⟨ret_bool HR.out.symm, by exact eX⟩
  | true =>
  obtain rfl := rowB_true.1 hb
  rw [hb] at HB
  clear hb
  cases ha : rowB a1 a2 with
  | false =>
    have HR := Hm (show evB (⟨k1, ao1, av1, old1, b1, a1, r1, fl1⟩ : Ev) (⟨k1, ao1, av1, old1, b1, a2, r2, fl1⟩ : Ev) = false from evB_false.2 (fun h => by injection h with _ _ _ _ _ e1; exact rowB_false.1 ha e1))
    rw [ha] at HA
    clear ha
    go_enter Tryz.func100, Tryz.ntmps100
    go_wp2_with (first
      | (go_at_call_of 125 (Value.slice ba1 b1.length bc1); (with_reducible refine (HB.out _ (by exact eX)).mono ?_); rintro e w2 ⟨rfl, hb2⟩; have hE_w2 : Ext ((w.alloc (.cells #[.int .u8 k1, .int .u32 ao1, .int .u32 av1, .int .u8 old1, .slice ba1 b1.length bc1, .slice aa1 a1.length ac1, .slice ra1 r1.length rc1, .int .u8 fl1] 74)).alloc (.cells #[.int .u8 k1, .int .u32 ao1, .int .u32 av1, .int .u8 old1, .slice ba2 b1.length bc2, .slice aa2 a2.length ac2, .slice ra2 r2.length rc2, .int .u8 fl1] 74)) w2 := (by exact eX); obtain ⟨hc_w2, hf_w2⟩ := hE_w2.cells; have hz_w2 := hE_w2.size)
      | (go_at_call_of 125 (Value.slice aa1 a1.length ac1); refine (HA.out _ (by exact eX)).mono ?_; rintro e w3 ⟨rfl, hb3⟩))
    go_ret
    exact ⟨ret_bool HR.out.symm, by exact eX⟩
  | true =>
  obtain rfl := rowB_true.1 ha
  rw [ha] at HA
  clear ha
  have HR := Hm (show evB (⟨k1, ao1, av1, old1, b1, a1, r1, fl1⟩ : Ev) (⟨k1, ao1, av1, old1, b1, a1, r2, fl1⟩ : Ev) = rfsB r1 r2 from by
    unfold evB rfsB
    exact decide_eq_decide.2 (by simp only [Ev.mk.injEq, true_and, and_true]))
  generalize rfsB r1 r2 = B at HF HR
  go_enter Tryz.func100, Tryz.ntmps100
  go_wp2_with (first
      | (go_at_call_of 125 (Value.slice ba1 b1.length bc1); (with_reducible refine (HB.out _ (by exact eX)).mono ?_); rintro e w2 ⟨rfl, hb2⟩; have hE_w2 : Ext ((w.alloc (.cells #[.int .u8 k1, .int .u32 ao1, .int .u32 av1, .int .u8 old1, .slice ba1 b1.length bc1, .slice aa1 a1.length ac1, .slice ra1 r1.length rc1, .int .u8 fl1] 74)).alloc (.cells #[.int .u8 k1, .int .u32 ao1, .int .u32 av1, .int .u8 old1, .slice ba2 b1.length bc2, .slice aa2 a1.length ac2, .slice ra2 r2.length rc2, .int .u8 fl1] 74)) w2 := (by exact eX); obtain ⟨hc_w2, hf_w2⟩ := hE_w2.cells; have hz_w2 := hE_w2.size)
      | (go_at_call_of 125 (Value.slice aa1 a1.length ac1); (with_reducible refine (HA.out _ (by exact eX)).mono ?_); rintro e w3 ⟨rfl, hb3⟩; have hE_w3 : Ext ((w.alloc (.cells #[.int .u8 k1, .int .u32 ao1, .int .u32 av1, .int .u8 old1, .slice ba1 b1.length bc1, .slice aa1 a1.length ac1, .slice ra1 r1.length rc1, .int .u8 fl1] 74)).alloc (.cells #[.int .u8 k1, .int .u32 ao1, .int .u32 av1, .int .u8 old1, .slice ba2 b1.length bc2, .slice aa2 a1.length ac2, .slice ra2 r2.length rc2, .int .u8 fl1] 74)) w3 := (by exact eX); obtain ⟨hc_w3, hf_w3⟩ := hE_w3.cells; have hz_w3 := hE_w3.size)
      | (go_at_call 112; refine (HF.out _ (by exact eX)).mono ?_; rintro e w4 ⟨rfl, hb4⟩))
  go_ret
  exact ⟨ret_bool HR.out.symm, by exact eX⟩
theorem esame_any (x y : EL) (w : World) (hx : x.at 6 K.rc w) (hy : y.at 6 K.rc w) (h1 : x.e.small) (h2 : y.e.small) :
    Calls Tryz.prog 75 #[x.agg, y.agg] w fun e w' => e = .returned (.bool (evB x.e y.e)) ∧ Ext w w' := by
  obtain ⟨⟨k1, ao1, av1, old1, b1, a1, r1, fl1⟩, ba1, bc1, aa1, ac1, ra1, rc1⟩ := x
  obtain ⟨⟨k2, ao2, av2, old2, b2, a2, r2, fl2⟩, ba2, bc2, aa2, ac2, ra2, rc2⟩ := y
  unfold EL.agg
  simp only
  have HB := Hm (fun W (h : Ext w W) => rsame_any b1 b2 ba1 ba2 bc1 bc2 W (hx.b.ext h) (hy.b.ext h) h1.b h2.b)
  have HA := Hm (fun W (h : Ext w W) => rsame_any a1 a2 aa1 aa2 ac1 ac2 W (hx.a.ext h) (hy.a.ext h) h1.a h2.a)
  have HL := Hm hx.r
  have HM := Hm hy.r
  have hlen := h1.r
  simp only at hlen HL HM
  clear hx hy h1 h2
  by_cases q1 : k1 = k2
  case neg =>
    have HR := Hm (show evB (⟨k1, ao1, av1, old1, b1, a1, r1, fl1⟩ : Ev) (⟨k2, ao2, av2, old2, b2, a2, r2, fl2⟩ : Ev) = false from evB_false.2 (fun h => by injection h; contradiction))
    have q1' : (k1 != k2) = true := by simpa using q1
    clear q1
    go_enter Tryz.func75, Tryz.ntmps75
    go_wp2
    go_ret
    exact ⟨ret_bool HR.out.symm, by exact eX⟩
  by_cases q2 : rfB ⟨ao1, av1⟩ ⟨ao2, av2⟩ = true
  case neg =>
    have HR := Hm (show evB (⟨k1, ao1, av1, old1, b1, a1, r1, fl1⟩ : Ev) (⟨k2, ao2, av2, old2, b2, a2, r2, fl2⟩ : Ev) = false from evB_false.2 (fun h => by injection h with _ e1 e2; exact q2 (rfB_true.2 (by rw [e1, e2]))))
    have q2' : rfB ⟨ao1, av1⟩ ⟨ao2, av2⟩ = false := by simpa using q2
    have hQ := fun w => neq_rref ao1 av1 ao2 av2 w
    rw [q2'] at hQ
    clear q2 q2'
    subst q1
    go_enter Tryz.func75, Tryz.ntmps75
    go_wp2
    go_ret
    exact ⟨ret_bool HR.out.symm, by exact eX⟩
  have q2e := rfB_true.1 q2
  injection q2e with q3 q4
  clear q2
  subst q1 q3 q4
  by_cases q5 : old1 = old2
  case neg =>
    have HR := Hm (show evB (⟨k1, ao1, av1, old1, b1, a1, r1, fl1⟩ : Ev) (⟨k1, ao1, av1, old2, b2, a2, r2, fl2⟩ : Ev) = false from evB_false.2 (fun h => by injection h; contradiction))
    have q5' : (old1 != old2) = true := by simpa using q5
    clear q5
    go_enter Tryz.func75, Tryz.ntmps75
    go_wp2
    go_ret
    exact ⟨ret_bool HR.out.symm, by exact eX⟩
  subst q5
  by_cases q6 : fl1 = fl2
  case neg =>
    have HR := Hm (show evB (⟨k1, ao1, av1, old1, b1, a1, r1, fl1⟩ : Ev) (⟨k1, ao1, av1, old1, b2, a2, r2, fl2⟩ : Ev) = false from evB_false.2 (fun h => by injection h; contradiction))
    have q6' : (fl1 != fl2) = true := by simpa using q6
    clear q6
    go_enter Tryz.func75, Tryz.ntmps75
    go_wp2
    go_ret
    exact ⟨ret_bool HR.out.symm, by exact eX⟩
  subst q6
  by_cases hn : r1.length = r2.length
  case neg =>
    have hn' : (((r1.length : Nat) : Int) != ((r2.length : Nat) : Int)) = true := by simp; omega
    have HR := Hm (show evB (⟨k1, ao1, av1, old1, b1, a1, r1, fl1⟩ : Ev) (⟨k1, ao1, av1, old1, b2, a2, r2, fl1⟩ : Ev) = false from evB_false.2 (fun h => by injection h with _ _ _ _ _ _ e1; exact hn (by rw [e1])))
    clear hn
    go_enter Tryz.func75, Tryz.ntmps75
    go_wp2
    go_ret
    exact ⟨ret_bool HR.out.symm, by exact eX⟩
  have hn' : (((r1.length : Nat) : Int) != ((r2.length : Nat) : Int)) = false := by simp; omega
  have HN := Hm hn
  clear hn
  go_enter Tryz.func75, Tryz.ntmps75
  go_wp2
  go_loopw [5] (fun i wr => ∃ k : Nat, k ≤ r1.length ∧ i = .int .i64 k ∧ Hid (∀ j (h1 : j < r1.length) (h2 : j < r2.length), j < k → r1[j] = r2[j]) ∧ Hid (Ext w wr) ∧ Hid (Blk wr w.heap.size #[.int .u8 k1, .int .u32 ao1, .int .u32 av1, .int .u8 old1, .slice ba1 b1.length bc1, .slice aa1 a1.length ac1, .slice ra1 r1.length rc1, .int .u8 fl1] 51) ∧ Hid (Blk wr (w.heap.size + 1) #[.int .u8 k1, .int .u32 ao1, .int .u32 av1, .int .u8 old1, .slice ba2 b2.length bc2, .slice aa2 a2.length ac2, .slice ra2 r2.length rc2, .int .u8 fl1] 51)) (fun i _ => r1.length - (intOf i).toNat)
  case atStart => exact ⟨0, Nat.zero_le _, rfl, fun j _ _ h => by omega, Hm (by exact eX), Hm ((Blk.new _ _ _).alloc _), Hm (Blk.new' _ _ (by simp))⟩
  case round =>
    obtain ⟨k, hk, rfl, hrel, hE, hX, hY⟩ := hrel
    have gx := hX.out.cell
    have gy := hY.out.cell
    have zx := hX.out.lt
    have zy := hY.out.lt
    by_cases hlt : k < r1.length
    · have hlt2 : k < r2.length := by have := HN.out; omega
      obtain ⟨o1, p1, rfl, hb1, hx1⟩ := HL.out.at_ (i := k) (by simpa using hlt)
      obtain ⟨f0, f1⟩ := Rf.at_ hlt hx1 hb1 hE.out
      obtain ⟨o2, p2, rfl, hb2, hx2⟩ := HM.out.at_ (i := k) (by simpa using hlt2)
      obtain ⟨s0, s1⟩ := Rf.at_ hlt2 hx2 hb2 hE.out
      have hbw : o1 < wr.heap.size := Nat.lt_of_lt_of_le hb1 hE.out.size
      have hbw2 : o2 < wr.heap.size := Nat.lt_of_lt_of_le hb2 hE.out.size
      have hNq := fun w => neq_rref r1[k].o r1[k].v r2[k].o r2[k].v w
      cases hA : rfB ⟨r1[k].o, r1[k].v⟩ ⟨r2[k].o, r2[k].v⟩ with
      | true =>
        rw [hA] at hNq
        have HAE := Hm (rfB_true.1 hA)
        clear hA hx1 hx2
        go_wp2
        go_region_held3 (fun w' => Ext (wr) w' ∧ (∀ b o, b < (wr).heap.size → w'.cell? ⟨b, o, none⟩ = (wr).cell? ⟨b, o, none⟩) ∧ (∀ b o, b < (wr).heap.size → w'.frozen? ⟨b, o, none⟩ = (wr).frozen? ⟨b, o, none⟩)) ((exact held_of (by exact eX))) (fail)
        go_wp2
        go_roundw
        case rel => exact ⟨k + 1, by omega, by go_num, Hm (fun j h1 h2 hjk => by
          by_cases e : j = k
          · subst e; exact HAE.out
          · exact hrel.out j h1 h2 (by omega)), Hm (hE.out.trans (by exact eX)), Hm (hX.out.ext (by exact eX)), Hm (hY.out.ext (by exact eX))⟩
        case measure => simp [intOf]; omega
      | false =>
        rw [hA] at hNq
        have HR := Hm (show evB (⟨k1, ao1, av1, old1, b1, a1, r1, fl1⟩ : Ev) (⟨k1, ao1, av1, old1, b2, a2, r2, fl1⟩ : Ev) = false from evB_false.2 (fun h => by injection h with _ _ _ _ _ _ e1; exact rfB_false.1 hA (by subst e1; rfl)))
        clear hA hx1 hx2
        go_wp2
        go_region_held3 (fun w' => Ext (wr) w' ∧ (∀ b o, b < (wr).heap.size → w'.cell? ⟨b, o, none⟩ = (wr).cell? ⟨b, o, none⟩) ∧ (∀ b o, b < (wr).heap.size → w'.frozen? ⟨b, o, none⟩ = (wr).frozen? ⟨b, o, none⟩)) ((exact held_of (by exact eX))) (fail)
        go_wp2
        go_ret
        exact ⟨ret_bool HR.out.symm, hE.out.trans (by exact eX)⟩
    · have hkk : k = r1.length := by omega
      have HRS := Hm (show r1 = r2 from List.ext_getElem HN.out (fun i h1 h2 => hrel.out i h1 h2 (by omega)))
      subst hkk
      cases hb : rowB b1 b2 with
      | false =>
        have HR := Hm (show evB (⟨k1, ao1, av1, old1, b1, a1, r1, fl1⟩ : Ev) (⟨k1, ao1, av1, old1, b2, a2, r2, fl1⟩ : Ev) = false from evB_false.2 (fun h => by injection h with _ _ _ _ e1; exact rowB_false.1 hb e1))
        rw [hb] at HB
        clear hb
        go_wp2_with (go_at_call 104; refine (HB.out _ hE.out).mono ?_; rintro e w2 ⟨rfl, hb2⟩)
        go_ret
        exact ⟨ret_bool HR.out.symm, hE.out.trans hb2⟩
      | true =>
        have HBE := Hm (rowB_true.1 hb)
        rw [hb] at HB
        clear hb
        have HR := Hm (show evB (⟨k1, ao1, av1, old1, b1, a1, r1, fl1⟩ : Ev) (⟨k1, ao1, av1, old1, b2, a2, r2, fl1⟩ : Ev) = rowB a1 a2 from by
          unfold evB rowB
          exact decide_eq_decide.2 (by simp only [Ev.mk.injEq, true_and, and_true, HBE.out, HRS.out]))
        generalize rowB a1 a2 = B at HA HR
        go_wp2_with (first
          | (go_at_call_of 104 (Value.slice ba1 b1.length bc1); (with_reducible refine (HB.out _ hE.out).mono ?_); rintro e w2 ⟨rfl, hb2⟩; have gx2 := (hX.out.ext hb2).cell; have zx2 := (hX.out.ext hb2).lt; have gy2 := (hY.out.ext hb2).cell; have zy2 := (hY.out.ext hb2).lt)
          | (go_at_call_of 104 (Value.slice aa1 a1.length ac1); refine (HA.out _ (hE.out.trans hb2)).mono ?_; rintro e w3 ⟨rfl, hb3⟩))
        go_ret
        exact ⟨ret_bool HR.out.symm, hE.out.trans (hb2.trans hb3)⟩
theorem isnan_any (x : Int) (w : World) : Calls Tryz.prog 144 #[.int .u32 x] w fun e w' => e = .returned (.bool false) ∧ w = w' := by
  go_enter Tryz.func144, Tryz.ntmps144
  go_wp2
  go_ret
  exact ⟨by simp, rfl⟩
theorem cmpu_any (a b : Int) (w : World) : Calls Tryz.prog 118 #[.int .u32 a, .int .u32 b] w fun e w' => e = .returned (.int .i64 (cmpI a b)) ∧ w = w' := by
  by_cases h1 : a < b
  · have HR := Hm (show cmpI a b = -1 by unfold cmpI; rw [if_pos h1])
    go_enter Tryz.func118, Tryz.ntmps118
    go_wp2_with (go_at_call 144; refine (isnan_any _ _).mono ?_; rintro e w1 ⟨rfl, rfl⟩)
    go_ret
    exact ⟨ret_int HR.out.symm, rfl⟩
  · by_cases h2 : b < a
    · have HR := Hm (show cmpI a b = 1 by unfold cmpI; rw [if_neg h1, if_pos h2])
      go_enter Tryz.func118, Tryz.ntmps118
      go_wp2_with (go_at_call 144; refine (isnan_any _ _).mono ?_; rintro e w1 ⟨rfl, rfl⟩)
      go_ret
      exact ⟨ret_int HR.out.symm, rfl⟩
    · have HR := Hm (show cmpI a b = 0 by unfold cmpI; rw [if_neg h1, if_neg h2])
      go_enter Tryz.func118, Tryz.ntmps118
      go_wp2_with (go_at_call 144; refine (isnan_any _ _).mono ?_; rintro e w1 ⟨rfl, rfl⟩)
      go_ret
      exact ⟨ret_int HR.out.symm, rfl⟩
def orI (a b : Int) : Int := if a ≠ 0 then a else b
theorem cmpor_any (a b : Int) (B : Nat) (w : World) (h0 : w.cell? ⟨B, 0, none⟩ = some (.int .i64 a)) (h1 : w.cell? ⟨B, 1, none⟩ = some (.int .i64 b)) (_hB : B < w.heap.size) :
    Calls Tryz.prog 117 #[.slice (some ⟨B, 0, none⟩) 2 2] w fun e w' => e = .returned (.int .i64 (orI a b)) ∧ Ext w w' := by
  by_cases ha : a = 0
  · subst ha
    by_cases hb : b = 0
    · subst hb
      go_enter Tryz.func117, Tryz.ntmps117
      go_wp2
      go_loop [8] (fun i => i = .int .i64 0 ∨ i = .int .i64 1 ∨ i = .int .i64 2) (fun i => 2 - (intOf i).toNat)
      case atStart => exact .inl rfl
      case round =>
        rcases hrel with rfl | rfl | rfl
        · go_wp2
          go_round
          case rel => exact .inr (.inl rfl)
          case measure => simp [intOf]
        · go_wp2
          go_round
          case rel => exact .inr (.inr rfl)
          case measure => simp [intOf]
        · go_wp2
          go_ret
          exact ⟨ret_int (by unfold orI; simp), by exact eX⟩
    · have hb' : (b != 0) = true := by simpa using hb
      have HR := Hm (show orI 0 b = b by unfold orI; simp)
      clear hb
      go_enter Tryz.func117, Tryz.ntmps117
      go_wp2
      go_loop [8] (fun i => i = .int .i64 0 ∨ i = .int .i64 1) (fun i => 2 - (intOf i).toNat)
      case atStart => exact .inl rfl
      case round =>
        rcases hrel with rfl | rfl
        · go_wp2
          go_round
          case rel => exact .inr rfl
          case measure => simp [intOf]
        · go_wp2
          go_ret
          exact ⟨ret_int HR.out.symm, by exact eX⟩
  · have ha' : (a != 0) = true := by simpa using ha
    have HR := Hm (show orI a b = a by unfold orI; rw [if_pos ha])
    clear ha
    go_enter Tryz.func117, Tryz.ntmps117
    go_wp2
    go_loop [8] (fun i => i = .int .i64 0) (fun _ => 0)
    case atStart => rfl
    case round =>
      subst hrel
      go_wp2
      go_ret
      exact ⟨ret_int HR.out.symm, by exact eX⟩
theorem compare_any (o1 v1 o2 v2 : Int) (w : World) :
    Calls Tryz.prog 90 #[.agg #[.int .u32 o1, .int .u32 v1], .agg #[.int .u32 o2, .int .u32 v2]] w fun e w' => e = .returned (.int .i64 (cmpR o1 v1 o2 v2)) ∧ Ext w w' := by
  have HC := Hm (fun w => cmpu_any o1 o2 w)
  have HD := Hm (fun w => cmpu_any v1 v2 w)
  have HR := Hm (show orI (cmpI o1 o2) (cmpI v1 v2) = cmpR o1 v1 o2 v2 from rfl)
  obtain ⟨A, hA⟩ : ∃ A, A = cmpI o1 o2 := ⟨_, rfl⟩
  obtain ⟨B, hB⟩ : ∃ B, B = cmpI v1 v2 := ⟨_, rfl⟩
  rw [← hA] at HC HR
  rw [← hB] at HD HR
  clear hA hB
  go_enter Tryz.func90, Tryz.ntmps90
  go_wp2
  go_region_held3 (fun w' => Ext ((w.alloc (.cells #[.int .u32 o1, .int .u32 v1] 66)).alloc (.cells #[.int .u32 o2, .int .u32 v2] 66)) w' ∧ (∀ b o, b < ((w.alloc (.cells #[.int .u32 o1, .int .u32 v1] 66)).alloc (.cells #[.int .u32 o2, .int .u32 v2] 66)).heap.size → w'.cell? ⟨b, o, none⟩ = ((w.alloc (.cells #[.int .u32 o1, .int .u32 v1] 66)).alloc (.cells #[.int .u32 o2, .int .u32 v2] 66)).cell? ⟨b, o, none⟩) ∧ (∀ b o, b < ((w.alloc (.cells #[.int .u32 o1, .int .u32 v1] 66)).alloc (.cells #[.int .u32 o2, .int .u32 v2] 66)).heap.size → w'.frozen? ⟨b, o, none⟩ = ((w.alloc (.cells #[.int .u32 o1, .int .u32 v1] 66)).alloc (.cells #[.int .u32 o2, .int .u32 v2] 66)).frozen? ⟨b, o, none⟩)) ((exact held_of (by exact eX))) (first
    | (go_at_call_of 118 (Value.int .u32 o1); refine (HC.out _).mono ?_; rintro e w1 ⟨rfl, rfl⟩)
    | (go_at_call_of 118 (Value.int .u32 v1); refine (HD.out _).mono ?_; rintro e w1 ⟨rfl, rfl⟩)
    | (go_at_call 117; refine (cmpor_any A B _ _ (by go_simp) (by go_simp) (by simp)).mono ?_; rintro e w1 ⟨rfl, hb1⟩))
  go_wp2
  go_ret
  exact ⟨ret_int HR.out, by exact eX⟩
theorem find1_any (p : RR) (o v : Int) (w : World) :
    Calls Tryz.prog 89 #[p.agg, .agg #[.int .u32 o, .int .u32 v]] w fun e w' => e = .returned (.int .i64 (cmpR p.r.oid p.r.ver o v)) ∧ Ext w w' := by
  obtain ⟨⟨oid, ver, nm, id, cols⟩, a, c⟩ := p
  unfold RR.agg
  simp only
  have HC := Hm (fun w => compare_any oid ver o v w)
  obtain ⟨A, hA⟩ : ∃ A, A = cmpR oid ver o v := ⟨_, rfl⟩
  rw [← hA] at HC ⊢
  clear hA
  go_enter Tryz.func89, Tryz.ntmps89
  go_wp2_with (go_at_call 90; refine (HC.out _).mono ?_; rintro e w1 ⟨rfl, hb1⟩)
  go_ret
  exact ⟨rfl, by exact eX⟩
theorem take_any_no {cols : List Col} {c : Col} {k : Nat} (h : ∀ i (hi : i < cols.length), i < k → cols[i].nm ≠ c.nm) : (cols.take k).any (fun o => decide (o.nm = c.nm)) = false := by
  refine any_none fun i hi => ?_
  rw [List.length_take] at hi
  rw [List.getElem_take]
  exact decide_eq_false (h i (by omega) (by omega))
theorem take_any_yes {cols : List Col} {c : Col} {k j : Nat} (hj : j < cols.length) (hk : j < k) (h : cols[j].nm = c.nm) : (cols.take k).any (fun o => decide (o.nm = c.nm)) = true := by
  have hl : j < (cols.take k).length := by rw [List.length_take]; omega
  refine any_at (k := j) hl ?_
  rw [List.getElem_take]
  exact decide_eq_true h
theorem take_key {cols : List Col} {k : Nat} (hk : k < cols.length) : (cols.take (k + 1)).any Col.key = ((cols.take k).any Col.key || cols[k].key) := by
  rw [List.take_succ_eq_append_getElem hk, List.any_append]; simp
theorem colE_un {c : Col} {l : List Col} (h : namedB c.nm = false) : colE c l = 3 := by unfold colE; rw [if_pos h]
theorem colE_ex {c : Col} {l : List Col} (h : namedB c.nm = true) (h2 : l.any (fun o => decide (o.nm = c.nm)) = true) : colE c l = 9 := by unfold colE; rw [if_neg (by rw [h]; simp), if_pos h2]
theorem colE_ty {c : Col} {l : List Col} (h : namedB c.nm = true) (h2 : l.any (fun o => decide (o.nm = c.nm)) = false) (h3 : c.ty < 1 ∨ 6 < c.ty) : colE c l = 11 := by unfold colE; rw [if_neg (by rw [h]; simp), if_neg (by rw [h2]; simp), if_pos h3]
theorem colE_ok {c : Col} {l : List Col} (h : namedB c.nm = true) (h2 : l.any (fun o => decide (o.nm = c.nm)) = false) (h3 : ¬ (c.ty < 1 ∨ 6 < c.ty)) : colE c l = 0 := by unfold colE; rw [if_neg (by rw [h]; simp), if_neg (by rw [h2]; simp), if_neg h3]
theorem rright8_big (oid ver : Int) (nm : ByteArray) (id : Int) (cols : List Col) (a : Option Addr) (cap : Nat) (w : World) (hl : Sl w (.slice a cols.length cap) 3 (cols.map Col.cells)) (hlen : cols.length ≤ 9223372036854775807)
    (hnm : nm.size ≤ 9223372036854775807) (hcs : ∀ c ∈ cols, c.nm.size ≤ 9223372036854775807) :
    Calls Tryz.prog 27 #[.agg #[.int .u32 oid, .int .u32 ver, .string nm, .int .u8 id, .slice a cols.length cap]] w fun e w' => e = .returned (.int .i64 (⟨oid, ver, nm, id, cols⟩ : Rl).right) ∧ Ext w w' := by
  have HN := Hm (fun w => rnamed_any nm w hnm)
  have HL := Hm hl
  have HCS := Hm hcs
  clear hl hcs
  by_cases h1 : oid = 0
  · have HR := Hm (show (⟨oid, ver, nm, id, cols⟩ : Rl).right = 4 by unfold Rl.right; rw [if_pos (.inl h1)])
    have e1 : (oid == 0) = true := by simpa using h1
    clear h1
    go_enter Tryz.func27, Tryz.ntmps27
    go_wp2
    go_ret
    exact ⟨ret_int HR.out.symm, by exact eX⟩
  have e1 : (oid == 0) = false := by simpa using h1
  by_cases h2 : ver = 0
  · have HR := Hm (show (⟨oid, ver, nm, id, cols⟩ : Rl).right = 4 by unfold Rl.right; rw [if_pos (.inr h2)])
    have e2 : (ver == 0) = true := by simpa using h2
    clear h2 h1
    go_enter Tryz.func27, Tryz.ntmps27
    go_wp2
    go_ret
    exact ⟨ret_int HR.out.symm, by exact eX⟩
  have e2 : (ver == 0) = false := by simpa using h2
  cases h3 : namedB nm with
  | false =>
    have HR := Hm (show (⟨oid, ver, nm, id, cols⟩ : Rl).right = 3 by unfold Rl.right; rw [if_neg (by simp only; omega), if_pos h3])
    rw [h3] at HN
    clear h3 h2 h1
    go_enter Tryz.func27, Tryz.ntmps27
    go_wp2_with (go_at_call 60; refine (HN.out _).mono ?_; rintro e w1 ⟨rfl, rfl⟩)
    go_ret
    exact ⟨ret_int HR.out.symm, by exact eX⟩
  | true =>
  by_cases h4 : 2 < id
  · have HR := Hm (show (⟨oid, ver, nm, id, cols⟩ : Rl).right = 7 by unfold Rl.right; rw [if_neg (by simp only; omega), if_neg (by simp only [h3]; simp), if_pos h4])
    rw [h3] at HN
    clear h3 h2 h1
    go_enter Tryz.func27, Tryz.ntmps27
    go_wp2_with (go_at_call 60; refine (HN.out _).mono ?_; rintro e w1 ⟨rfl, rfl⟩)
    go_ret
    exact ⟨ret_int HR.out.symm, by exact eX⟩
  by_cases h5 : cols.length < 1
  · have HR := Hm (show (⟨oid, ver, nm, id, cols⟩ : Rl).right = 17 by unfold Rl.right; rw [if_neg (by simp only; omega), if_neg (by simp only [h3]; simp), if_neg (by simp only; omega), if_pos (.inl h5)])
    have h4' : id ≤ 2 := by omega
    have hz : (((cols.length : Nat) : Int) == 0) = true := by simp; exact List.length_eq_zero_iff.1 (by omega)
    rw [h3] at HN
    clear h3 h2 h1
    go_enter Tryz.func27, Tryz.ntmps27
    go_wp2_with (go_at_call 60; refine (HN.out _).mono ?_; rintro e w1 ⟨rfl, rfl⟩)
    go_ret
    exact ⟨ret_int HR.out.symm, by exact eX⟩
  have hz : (((cols.length : Nat) : Int) == 0) = false := by
    simp; rintro rfl; simp at h5
  by_cases h6 : 16 < cols.length
  · have HR := Hm (show (⟨oid, ver, nm, id, cols⟩ : Rl).right = 17 by unfold Rl.right; rw [if_neg (by simp only; omega), if_neg (by simp only [h3]; simp), if_neg (by simp only; omega), if_pos (.inr h6)])
    have h4' : id ≤ 2 := by omega
    rw [h3] at HN
    clear h3 h2 h1
    go_enter Tryz.func27, Tryz.ntmps27
    go_wp2_with (go_at_call 60; refine (HN.out _).mono ?_; rintro e w1 ⟨rfl, rfl⟩)
    go_ret
    exact ⟨ret_int HR.out.symm, by exact eX⟩
  have HR := Hm (Rl.right_cols (r := (⟨oid, ver, nm, id, cols⟩ : Rl)) h1 h2 h3 (by simp only; omega) (by simp only; omega) (by simp only; omega))
  simp only at HR
  rw [h3] at HN
  have h4' : id ≤ 2 := by omega
  have h6' : cols.length ≤ 16 := by omega
  clear h3 h2 h1 h4 h5 h6
  go_enter Tryz.func27, Tryz.ntmps27
  go_wp2_with (go_at_call 60; refine (HN.out _).mono ?_; rintro e w1 ⟨rfl, rfl⟩)
  go_loopw [3, 4] (fun q i wr => ∃ k : Nat, k ≤ cols.length ∧ i = .int .i64 k ∧ (∃ B : Bool, q = .bool B ∧ Hid ((cols.take k).any Col.key = B)) ∧ Hid (∀ j, j < k → colAt cols j = 0) ∧ Hid (Ext (w.alloc (.cells #[.int .u32 oid, .int .u32 ver, .string nm, .int .u8 id, .slice a cols.length cap] 55)) wr)) (fun _ i _ => cols.length - (intOf i).toNat)
  case atStart => exact ⟨0, Nat.zero_le _, rfl, ⟨false, rfl, by show List.any _ _ = _; simp⟩, fun j h => by omega, Ext.refl _⟩
  case round =>
    obtain ⟨k, hk, rfl, ⟨B, rfl, hKB⟩, hrel, hE⟩ := hrel
    have HRL := hrel
    have hBx := (Blk.new w #[.int .u32 oid, .int .u32 ver, .string nm, .int .u8 id, .slice a cols.length cap] 55).ext hE.out
    have g0 := hBx.cell
    have z0 := hBx.lt
    have HBx := Hm hBx
    clear hBx
    by_cases hlt : k < cols.length
    · obtain ⟨b, o, rfl, hb, hx⟩ := HL.out.at_ (i := k) (by simpa using hlt)
      have hEw : Hid (Ext w wr) := Hm (((Ext.refl w).alloc _).trans hE.out)
      obtain ⟨f0, f1, f2⟩ := Col.at_ hlt hx hb hEw.out
      have hbw : b < wr.heap.size := Nat.lt_of_lt_of_le hb hEw.out.size
      have hAt := colAt_lt hlt
      have HNC := Hm (fun w => rnamed_any cols[k].nm w (HCS.out _ (List.getElem_mem hlt)))
      have HTK := Hm (take_key hlt)
      obtain ⟨c, hc⟩ : ∃ c, c = cols[k] := ⟨_, rfl⟩
      rw [← hc] at f0 f1 f2 hAt HNC HTK
      have HAt := Hm hAt
      have HC := Hm hc
      clear hx hAt hc
      cases hnc : namedB c.nm with
      | false =>
        rw [hnc] at HNC
        have HR2 := Hm (show (⟨oid, ver, nm, id, cols⟩ : Rl).right = 3 by rw [HR.out, firstE_at hrel.out hlt (by rw [HAt.out, colE_un hnc]; decide), HAt.out, colE_un hnc]; simp)
        clear hnc
        go_wp2_with (go_at_call 60; refine (HNC.out _).mono ?_; rintro e w1 ⟨rfl, rfl⟩)
        go_ret
        exact ⟨ret_int HR2.out.symm, hEw.out.trans (by exact eX)⟩
      | true =>
        rw [hnc] at HNC
        have HNM := Hm hnc
        clear hnc
        go_wp2_with (go_at_call 60; refine (HNC.out _).mono ?_; rintro e w1 ⟨rfl, rfl⟩)
        obtain ⟨wo, rfl⟩ : ∃ wo : World, wo = wr := ⟨_, rfl⟩
        go_loopw [6] (fun m wr => ∃ j : Nat, j ≤ k ∧ m = .int .i64 j ∧ Hid (∀ i (hi : i < cols.length), i < j → cols[i].nm ≠ c.nm) ∧ Hid (Ext (wo.alloc (.cells #[.string c.nm, .int .u8 c.ty, .bool c.key] 99)) wr)) (fun m _ => k - (intOf m).toNat)
        case atStart => exact ⟨0, Nat.zero_le _, rfl, fun i _ h => by omega, Ext.refl _⟩
        case round =>
          obtain ⟨j, hj, rfl, hno, hEi⟩ := hrel
          have hEri : Hid (Ext wo wr) := Hm (((Ext.refl wo).alloc _).trans hEi.out)
          have hBi := HBx.out.ext hEri.out
          have gi := hBi.cell
          have zi := hBi.lt
          have hCi := (Blk.new wo #[.string c.nm, .int .u8 c.ty, .bool c.key] 99).ext hEi.out
          have ci := hCi.cell
          have yi := hCi.lt
          clear hBi hCi
          by_cases hjk : j < k
          · have hjl : j < cols.length := by omega
            obtain ⟨b2, o2, e2, hb2, hx2⟩ := HL.out.at_ (i := j) (by simpa using hjl)
            obtain ⟨rfl, rfl⟩ : b2 = b ∧ o2 = o := by simp at e2; exact ⟨e2.1.symm, e2.2.symm⟩
            obtain ⟨p0, p1, p2⟩ := Col.at_ hjl hx2 hb2 (hEw.out.trans hEri.out)
            have hbi : b2 < wr.heap.size := Nat.lt_of_lt_of_le hbw hEri.out.size
            clear e2 hx2
            by_cases hnn : cols[j].nm = c.nm
            · have hEq : (cols[j].nm.toList == c.nm.toList) = true := by rw [str_beq]; exact decide_eq_true hnn
              have hAl := take_any_yes hjl hjk hnn
              have HR2 := Hm (show (⟨oid, ver, nm, id, cols⟩ : Rl).right = 9 by rw [HR.out, firstE_at HRL.out hlt (by rw [HAt.out, colE_ex HNM.out hAl]; decide), HAt.out, colE_ex HNM.out hAl]; simp)
              clear hnn hAl
              go_wp2
              go_region_held3 (fun w' => Ext (wr) w' ∧ (∀ b o, b < (wr).heap.size → w'.cell? ⟨b, o, none⟩ = (wr).cell? ⟨b, o, none⟩) ∧ (∀ b o, b < (wr).heap.size → w'.frozen? ⟨b, o, none⟩ = (wr).frozen? ⟨b, o, none⟩)) ((exact held_of (by exact eX))) (fail)
              go_wp2
              go_ret
              exact ⟨ret_int HR2.out.symm, (hEw.out.trans hEri.out).trans (by exact eX)⟩
            · have hEq : (cols[j].nm.toList == c.nm.toList) = false := by rw [str_beq]; exact decide_eq_false hnn
              have HNN := Hm hnn
              clear hnn
              go_wp2
              go_region_held3 (fun w' => Ext (wr) w' ∧ (∀ b o, b < (wr).heap.size → w'.cell? ⟨b, o, none⟩ = (wr).cell? ⟨b, o, none⟩) ∧ (∀ b o, b < (wr).heap.size → w'.frozen? ⟨b, o, none⟩ = (wr).frozen? ⟨b, o, none⟩)) ((exact held_of (by exact eX))) (fail)
              go_wp2
              go_roundw
              case rel => exact ⟨j + 1, by omega, by go_num, fun i hi hij => by
                by_cases e : i = j
                · subst e; exact HNN.out
                · exact hno.out i hi (by omega), Hm (hEi.out.trans (by exact eX))⟩
              case measure => simp [intOf]; omega
          · obtain rfl : j = k := by omega
            have HNO := Hm (take_any_no hno.out)
            by_cases ht : c.ty < 1 ∨ 6 < c.ty
            · have HR2 := Hm (show (⟨oid, ver, nm, id, cols⟩ : Rl).right = 11 by rw [HR.out, firstE_at HRL.out hlt (by rw [HAt.out, colE_ty HNM.out HNO.out ht]; decide), HAt.out, colE_ty HNM.out HNO.out ht]; simp)
              rcases ht with ht | ht
              all_goals
                (try have ht1 : 1 ≤ c.ty := by omega)
                go_wp2
                go_ret
                exact ⟨ret_int HR2.out.symm, (hEw.out.trans hEri.out).trans (by exact eX)⟩
            · have ht1 : 1 ≤ c.ty := by omega
              have ht2 : c.ty ≤ 6 := by omega
              have HA0 := Hm (HAt.out.trans (colE_ok HNM.out HNO.out ht))
              clear ht
              cases B
              all_goals
                go_wp2
                go_roundw
                case rel => exact ⟨j + 1, by omega, by go_num, ⟨_, rfl, by show List.any _ _ = _; rw [HTK.out, hKB.out]; simp⟩, fun i hi => by
                  by_cases e : i = j
                  · subst e; exact HA0.out
                  · exact HRL.out i (by omega), Hm ((hE.out.trans hEri.out).trans (by exact eX))⟩
                case measure => simp [intOf]; omega
    · have hkk : k = cols.length := by omega
      have hEw : Hid (Ext w wr) := Hm (((Ext.refl w).alloc _).trans hE.out)
      have HR2 := Hm (show (⟨oid, ver, nm, id, cols⟩ : Rl).right = if id = 1 ∧ cols.any Col.key = false then 13 else 0 by rw [HR.out, firstE_zero (fun i hi => hrel.out i (by omega)), if_neg (by simp)])
      subst hkk
      rw [List.take_length] at hKB
      rw [hKB.out] at HR2
      clear hrel HR
      by_cases h7 : id = 1
      · subst h7
        cases B
        all_goals
          go_wp2
          go_ret
          exact ⟨ret_int (by rw [HR2.out]; simp), hEw.out⟩
      · have e7 : (id == 1) = false := by simpa using h7
        have HR3 := Hm (HR2.out.trans (if_neg (fun h => h7 h.1)))
        clear h7 HR2
        go_wp2
        go_ret
        exact ⟨ret_int HR3.out.symm, hEw.out⟩
theorem rright8_any (oid ver : Int) (nm : ByteArray) (id : Int) (cols : List Col) (a : Option Addr) (cap : Nat) (w : World) (hl : Sl w (.slice a cols.length cap) 3 (cols.map Col.cells)) (hlen : cols.length ≤ 1000)
    (hnm : nm.size ≤ 9223372036854775807) (hcs : ∀ c ∈ cols, c.nm.size ≤ 9223372036854775807) :
    Calls Tryz.prog 27 #[.agg #[.int .u32 oid, .int .u32 ver, .string nm, .int .u8 id, .slice a cols.length cap]] w fun e w' => e = .returned (.int .i64 (⟨oid, ver, nm, id, cols⟩ : Rl).right) ∧ Ext w w' :=
  rright8_big oid ver nm id cols a cap w hl (by omega) hnm hcs
end Go.Proofs.YtdlhaidlokkmnaaGreatDoor
