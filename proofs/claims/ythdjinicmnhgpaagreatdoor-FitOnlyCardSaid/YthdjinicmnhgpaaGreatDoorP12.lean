/-
Whether two lists of relations are the same: the reference's, the program's.
-/
import Derived.Lib.ItoaNum
import Derived.Lib.Join
import Derived.Test.YthdjinicmnhgpaaGreatDoorP11
namespace Go.Proofs.YthdjinicmnhgpaaGreatDoor
open Go.RowKit

set_option maxRecDepth 100000 in set_option maxHeartbeats 2000000 in
theorem rsame8_any (p q : RR) (w : World) (hp : p.in w) (hq : q.in w) (hlen : p.r.cols.length ≤ 1000) (hlen2 : q.r.cols.length ≤ 9223372036854775807) :
    Calls Tryz.prog 37 #[p.agg, q.agg] w fun e w' => e = .returned (.bool (rlB p.r q.r)) ∧ Ext w w' := by
  obtain ⟨⟨o1, v1, n1, i1, c1⟩, a1, k1⟩ := p
  obtain ⟨⟨o2, v2, n2, i2, c2⟩, a2, k2⟩ := q
  unfold RR.agg
  unfold RR.in at hp hq
  simp only at hp hq hlen hlen2 ⊢
  have HL := Hid.mk' hp
  have HM := Hid.mk' hq
  have hc := rl_cases (⟨o1, v1, n1, i1, c1⟩ : Rl) (⟨o2, v2, n2, i2, c2⟩ : Rl)
  simp only at hc
  clear hp hq
  obtain ⟨R, hR⟩ : ∃ R, R = rlB (⟨o1, v1, n1, i1, c1⟩ : Rl) (⟨o2, v2, n2, i2, c2⟩ : Rl) := ⟨_, rfl⟩
  rw [← hR] at hc ⊢
  clear hR
  rcases hc with ⟨h1, h0⟩ | ⟨rfl, h1, h0⟩ | ⟨rfl, rfl, h1, h0⟩ | ⟨rfl, rfl, rfl, h1, h0⟩ | ⟨rfl, rfl, rfl, rfl, h0⟩
  · have e1 : (o1 == o2) = false := by simpa using h1
    have H0 := Hid.mk' h0
    clear h0 h1
    go_enter Tryz.func37, Tryz.ntmps37
    go_wp2
    go_ret
    exact ⟨ret_bool H0.out.symm, by (repeat (with_reducible (first | exact Ext.refl _ | assumption | exact held_left (by assumption) | apply Ext.drewN | apply Ext.drew | apply Ext.alloc | (refine Ext.setCell ?_ (by first | (simp; done) | (simp; omega) | omega) _) | (refine Ext.trans ?_ (by assumption)) | (refine Ext.trans ?_ (held_left (by assumption))))))⟩
  · have e1 : (v1 == v2) = false := by simpa using h1
    have H0 := Hid.mk' h0
    clear h0 h1
    go_enter Tryz.func37, Tryz.ntmps37
    go_wp2
    go_ret
    exact ⟨ret_bool H0.out.symm, by (repeat (with_reducible (first | exact Ext.refl _ | assumption | exact held_left (by assumption) | apply Ext.drewN | apply Ext.drew | apply Ext.alloc | (refine Ext.setCell ?_ (by first | (simp; done) | (simp; omega) | omega) _) | (refine Ext.trans ?_ (by assumption)) | (refine Ext.trans ?_ (held_left (by assumption))))))⟩
  · have e1 : (n1.toList == n2.toList) = false := by rw [str_beq2]; exact decide_eq_false h1
    have e2 : (n1.toList != n2.toList) = true := by unfold bne; rw [e1]; rfl
    have H0 := Hid.mk' h0
    clear h0 h1
    go_enter Tryz.func37, Tryz.ntmps37
    go_wp2
    go_ret
    exact ⟨ret_bool H0.out.symm, by (repeat (with_reducible (first | exact Ext.refl _ | assumption | exact held_left (by assumption) | apply Ext.drewN | apply Ext.drew | apply Ext.alloc | (refine Ext.setCell ?_ (by first | (simp; done) | (simp; omega) | omega) _) | (refine Ext.trans ?_ (by assumption)) | (refine Ext.trans ?_ (held_left (by assumption))))))⟩
  · have e1 : (i1 != i2) = true := by simpa using h1
    have H0 := Hid.mk' h0
    clear h0 h1
    go_enter Tryz.func37, Tryz.ntmps37
    go_wp2
    go_ret
    exact ⟨ret_bool H0.out.symm, by (repeat (with_reducible (first | exact Ext.refl _ | assumption | exact held_left (by assumption) | apply Ext.drewN | apply Ext.drew | apply Ext.alloc | (refine Ext.setCell ?_ (by first | (simp; done) | (simp; omega) | omega) _) | (refine Ext.trans ?_ (by assumption)) | (refine Ext.trans ?_ (held_left (by assumption))))))⟩
  by_cases hn : c1.length = c2.length
  case neg =>
    have hn' : (((c1.length : Nat) : Int) != ((c2.length : Nat) : Int)) = true := by simp; omega
    have H0 := Hid.mk' (h0.trans (colsB_false.2 (fun h => hn (by rw [h]))))
    clear h0 hn
    go_enter Tryz.func37, Tryz.ntmps37
    go_wp2
    go_ret
    exact ⟨ret_bool H0.out.symm, by (repeat (with_reducible (first | exact Ext.refl _ | assumption | exact held_left (by assumption) | apply Ext.drewN | apply Ext.drew | apply Ext.alloc | (refine Ext.setCell ?_ (by first | (simp; done) | (simp; omega) | omega) _) | (refine Ext.trans ?_ (by assumption)) | (refine Ext.trans ?_ (held_left (by assumption))))))⟩
  have hn' : (((c1.length : Nat) : Int) != ((c2.length : Nat) : Int)) = false := by simp; omega
  have H0 := Hid.mk' h0
  have HN := Hid.mk' hn
  clear h0 hn
  go_enter Tryz.func37, Tryz.ntmps37
  go_wp2
  go_loopw [5] (fun i wr => ∃ k : Nat, k ≤ c1.length ∧ i = .int .i64 k ∧ Hid (∀ j (h1 : j < c1.length) (h2 : j < c2.length), j < k → c1[j] = c2[j]) ∧ Hid (Ext ((w.alloc (.cells #[.int .u32 o1, .int .u32 v1, .string n1, .int .u8 i1, .slice a1 c1.length k1] 59)).alloc (.cells #[.int .u32 o1, .int .u32 v1, .string n1, .int .u8 i1, .slice a2 c2.length k2] 59)) wr)) (fun i _ => c1.length - (intOf i).toNat)
  case atStart => exact ⟨0, Nat.zero_le _, rfl, fun j _ _ h => by omega, Hid.mk' (Ext.refl _)⟩
  case round =>
    obtain ⟨k, hk, rfl, hrel, hE⟩ := hrel
    have HEW := Hid.mk' ((((Ext.refl w).alloc (.cells #[.int .u32 o1, .int .u32 v1, .string n1, .int .u8 i1, .slice a1 c1.length k1] 59)).alloc (.cells #[.int .u32 o1, .int .u32 v1, .string n1, .int .u8 i1, .slice a2 c2.length k2] 59)).trans hE.out)
    have HB0 := Hid.mk' (((Blk.new w #[.int .u32 o1, .int .u32 v1, .string n1, .int .u8 i1, .slice a1 c1.length k1] 59).alloc (.cells #[.int .u32 o1, .int .u32 v1, .string n1, .int .u8 i1, .slice a2 c2.length k2] 59)).ext hE.out)
    have HB1 := Hid.mk' ((Blk.new' (w := w.alloc (.cells #[.int .u32 o1, .int .u32 v1, .string n1, .int .u8 i1, .slice a1 c1.length k1] 59)) (b := w.heap.size + 1) #[.int .u32 o1, .int .u32 v1, .string n1, .int .u8 i1, .slice a2 c2.length k2] 59 (by simp)).ext hE.out)
    have g0 := HB0.out.cell
    have z0 := HB0.out.lt
    have g1 := HB1.out.cell
    have z1 := HB1.out.lt
    by_cases hlt : k < c1.length
    · have hlt2 : k < c2.length := by have := HN.out; omega
      obtain ⟨b1, q1, rfl, hb1, hx1⟩ := HL.out.at_ (i := k) (by simpa using hlt)
      obtain ⟨f0, f1, f2⟩ := Col.at_ hlt hx1 hb1 HEW.out
      obtain ⟨b2, q2, rfl, hb2, hx2⟩ := HM.out.at_ (i := k) (by simpa using hlt2)
      obtain ⟨p0, p1, p2⟩ := Col.at_ hlt2 hx2 hb2 HEW.out
      have hbw : b1 < wr.heap.size := Nat.lt_of_lt_of_le hb1 HEW.out.size
      have hbw2 : b2 < wr.heap.size := Nat.lt_of_lt_of_le hb2 HEW.out.size
      have hNq := fun w => neq_rcol c1[k] c2[k] w
      cases hA : colB c1[k] c2[k] with
      | true =>
        rw [hA] at hNq
        have HA := Hid.mk' (colB_true.1 hA)
        clear hA hx1 hx2
        go_wp2
        go_region_held3 (fun w' => Ext (wr) w' ∧ (∀ b o, b < (wr).heap.size → w'.cell? ⟨b, o, none⟩ = (wr).cell? ⟨b, o, none⟩) ∧ (∀ b o, b < (wr).heap.size → w'.frozen? ⟨b, o, none⟩ = (wr).frozen? ⟨b, o, none⟩)) ((exact held_of (by (repeat (with_reducible (first | exact Ext.refl _ | assumption | exact held_left (by assumption) | apply Ext.drewN | apply Ext.drew | apply Ext.alloc | (refine Ext.setCell ?_ (by first | (simp; done) | (simp; omega) | omega) _) | (refine Ext.trans ?_ (by assumption)) | (refine Ext.trans ?_ (held_left (by assumption))))))))) (fail)
        go_wp2
        go_roundw
        case rel => exact ⟨k + 1, by omega, by go_num, fun j h1 h2 hjk => by
          by_cases e : j = k
          · subst e; exact HA.out
          · exact hrel.out j h1 h2 (by omega), Hid.mk' (hE.out.trans (by (repeat (with_reducible (first | exact Ext.refl _ | assumption | exact held_left (by assumption) | apply Ext.drewN | apply Ext.drew | apply Ext.alloc | (refine Ext.setCell ?_ (by first | (simp; done) | (simp; omega) | omega) _) | (refine Ext.trans ?_ (by assumption)) | (refine Ext.trans ?_ (held_left (by assumption))))))))⟩
        case measure => simp [intOf]; omega
      | false =>
        rw [hA] at hNq
        have HR := Hid.mk' (H0.out.trans (show colsB c1 c2 = false from colsB_false.2 (fun h => by subst h; rw [colB_true.2 rfl] at hA; cases hA)))
        clear hA hx1 hx2
        go_wp2
        go_region_held3 (fun w' => Ext (wr) w' ∧ (∀ b o, b < (wr).heap.size → w'.cell? ⟨b, o, none⟩ = (wr).cell? ⟨b, o, none⟩) ∧ (∀ b o, b < (wr).heap.size → w'.frozen? ⟨b, o, none⟩ = (wr).frozen? ⟨b, o, none⟩)) ((exact held_of (by (repeat (with_reducible (first | exact Ext.refl _ | assumption | exact held_left (by assumption) | apply Ext.drewN | apply Ext.drew | apply Ext.alloc | (refine Ext.setCell ?_ (by first | (simp; done) | (simp; omega) | omega) _) | (refine Ext.trans ?_ (by assumption)) | (refine Ext.trans ?_ (held_left (by assumption))))))))) (fail)
        go_wp2
        go_ret
        exact ⟨ret_bool HR.out.symm, HEW.out.trans (by (repeat (with_reducible (first | exact Ext.refl _ | assumption | exact held_left (by assumption) | apply Ext.drewN | apply Ext.drew | apply Ext.alloc | (refine Ext.setCell ?_ (by first | (simp; done) | (simp; omega) | omega) _) | (refine Ext.trans ?_ (by assumption)) | (refine Ext.trans ?_ (held_left (by assumption)))))))⟩
    · have hkk : k = c1.length := by omega
      have HR := Hid.mk' (H0.out.trans (show colsB c1 c2 = true from colsB_true.2 (List.ext_getElem HN.out (fun i h1 h2 => hrel.out i h1 h2 (by omega)))))
      subst hkk
      go_wp2
      go_ret
      exact ⟨ret_bool HR.out.symm, HEW.out⟩

theorem rls_ext {a b : List RR} (h0 : a.length = b.length) (h : ∀ i (h1 : i < a.length) (h2 : i < b.length), a[i].r = b[i].r) : a.map RR.r = b.map RR.r :=
  List.ext_getElem (by simpa using h0) (fun i h1 h2 => by rw [List.getElem_map, List.getElem_map]; exact h i (by simpa using h1) (by simpa using h2))

set_option maxRecDepth 100000 in set_option maxHeartbeats 2000000 in
theorem rsame9_any (ps qs : List RR) (a b : Option Addr) (ca cb : Nat) (w : World) (hl : RL w (.slice a ps.length ca) ps) (hm : RL w (.slice b qs.length cb) qs) (hlen : ps.length ≤ 1000) (h16 : ∀ p ∈ ps, p.r.cols.length ≤ 1000) (h17 : ∀ p ∈ qs, p.r.cols.length ≤ 9223372036854775807) :
    Calls Tryz.prog 17 #[.slice a ps.length ca, .slice b qs.length cb] w fun e w' => e = .returned (.bool (rlsB (ps.map RR.r) (qs.map RR.r))) ∧ Ext w w' := by
  have HL := Hid.mk' hl
  have HM := Hid.mk' hm
  have H16 := Hid.mk' h16
  have H17 := Hid.mk' h17
  clear hl hm h16 h17
  by_cases hn : ps.length = qs.length
  case neg =>
    have hn' : (((ps.length : Nat) : Int) != ((qs.length : Nat) : Int)) = true := by simp; omega
    have HR := Hid.mk' (show rlsB (ps.map RR.r) (qs.map RR.r) = false from rlsB_false.2 (fun h => hn (by have := congrArg List.length h; simpa using this)))
    clear hn
    go_enter Tryz.func17, Tryz.ntmps17
    go_wp2
    go_ret
    exact ⟨ret_bool HR.out.symm, by (repeat (with_reducible (first | exact Ext.refl _ | assumption | exact held_left (by assumption) | apply Ext.drewN | apply Ext.drew | apply Ext.alloc | (refine Ext.setCell ?_ (by first | (simp; done) | (simp; omega) | omega) _) | (refine Ext.trans ?_ (by assumption)) | (refine Ext.trans ?_ (held_left (by assumption))))))⟩
  have hn' : (((ps.length : Nat) : Int) != ((qs.length : Nat) : Int)) = false := by simp; omega
  have HN := Hid.mk' hn
  clear hn
  go_enter Tryz.func17, Tryz.ntmps17
  go_wp2
  go_loopw [5] (fun i wr => ∃ k : Nat, k ≤ ps.length ∧ i = .int .i64 k ∧ Hid (∀ j (h1 : j < ps.length) (h2 : j < qs.length), j < k → ps[j].r = qs[j].r) ∧ Hid (Ext w wr)) (fun i _ => ps.length - (intOf i).toNat)
  case atStart => exact ⟨0, Nat.zero_le _, rfl, fun j _ _ h => by omega, Hid.mk' (Ext.refl _)⟩
  case round =>
    obtain ⟨k, hk, rfl, hrel, hE⟩ := hrel
    by_cases hlt : k < ps.length
    · have hlt2 : k < qs.length := by have := HN.out; omega
      obtain ⟨b1, q1, rfl, hb1, hx1⟩ := HL.out.row.at_ (i := k) (by simpa using hlt)
      obtain ⟨f0, f1, f2, f3, f4⟩ := RR.at_ hlt hx1 hb1 hE.out
      obtain ⟨b2, q2, rfl, hb2, hx2⟩ := HM.out.row.at_ (i := k) (by simpa using hlt2)
      obtain ⟨p0, p1, p2, p3, p4⟩ := RR.at_ hlt2 hx2 hb2 hE.out
      have hbw : b1 < wr.heap.size := Nat.lt_of_lt_of_le hb1 hE.out.size
      have hbw2 : b2 < wr.heap.size := Nat.lt_of_lt_of_le hb2 hE.out.size
      have HS := Hid.mk' (fun W (h : Ext w W) => rsame8_any ps[k] qs[k] W ((HL.out.sl _ (List.getElem_mem hlt)).ext h) ((HM.out.sl _ (List.getElem_mem hlt2)).ext h) (H16.out _ (List.getElem_mem hlt)) (H17.out _ (List.getElem_mem hlt2)))
      unfold RR.agg at HS
      cases hA : rlB ps[k].r qs[k].r with
      | true =>
        rw [hA] at HS
        have HA := Hid.mk' (rlB_true.1 hA)
        clear hA hx1 hx2
        go_wp2
        go_region_held3 (fun w' => Ext (wr) w' ∧ (∀ b o, b < (wr).heap.size → w'.cell? ⟨b, o, none⟩ = (wr).cell? ⟨b, o, none⟩) ∧ (∀ b o, b < (wr).heap.size → w'.frozen? ⟨b, o, none⟩ = (wr).frozen? ⟨b, o, none⟩)) ((exact held_of (by (repeat (with_reducible (first | exact Ext.refl _ | assumption | exact held_left (by assumption) | apply Ext.drewN | apply Ext.drew | apply Ext.alloc | (refine Ext.setCell ?_ (by first | (simp; done) | (simp; omega) | omega) _) | (refine Ext.trans ?_ (by assumption)) | (refine Ext.trans ?_ (held_left (by assumption))))))))) (first | (go_at_call 37; refine (HS.out _ (hE.out.trans (by (repeat (with_reducible (first | exact Ext.refl _ | assumption | exact held_left (by assumption) | apply Ext.drewN | apply Ext.drew | apply Ext.alloc | (refine Ext.setCell ?_ (by first | (simp; done) | (simp; omega) | omega) _) | (refine Ext.trans ?_ (by assumption)) | (refine Ext.trans ?_ (held_left (by assumption))))))))).mono ?_; rintro e w2 ⟨rfl, hb2⟩))
        go_wp2
        go_roundw
        case rel => exact ⟨k + 1, by omega, by go_num, fun j h1 h2 hjk => by
          by_cases e : j = k
          · subst e; exact HA.out
          · exact hrel.out j h1 h2 (by omega), Hid.mk' (hE.out.trans (by (repeat (with_reducible (first | exact Ext.refl _ | assumption | exact held_left (by assumption) | apply Ext.drewN | apply Ext.drew | apply Ext.alloc | (refine Ext.setCell ?_ (by first | (simp; done) | (simp; omega) | omega) _) | (refine Ext.trans ?_ (by assumption)) | (refine Ext.trans ?_ (held_left (by assumption))))))))⟩
        case measure => simp [intOf]; omega
      | false =>
        rw [hA] at HS
        have HR := Hid.mk' (show rlsB (ps.map RR.r) (qs.map RR.r) = false from rlsB_false.2 (fun h => rlB_false.1 hA (by
          have := congrArg (fun l => l[k]?) h
          simp only [List.getElem?_map, List.getElem?_eq_getElem hlt, List.getElem?_eq_getElem hlt2, Option.map_some] at this
          exact Option.some.inj this)))
        clear hA hx1 hx2
        go_wp2
        go_region_held3 (fun w' => Ext (wr) w' ∧ (∀ b o, b < (wr).heap.size → w'.cell? ⟨b, o, none⟩ = (wr).cell? ⟨b, o, none⟩) ∧ (∀ b o, b < (wr).heap.size → w'.frozen? ⟨b, o, none⟩ = (wr).frozen? ⟨b, o, none⟩)) ((exact held_of (by (repeat (with_reducible (first | exact Ext.refl _ | assumption | exact held_left (by assumption) | apply Ext.drewN | apply Ext.drew | apply Ext.alloc | (refine Ext.setCell ?_ (by first | (simp; done) | (simp; omega) | omega) _) | (refine Ext.trans ?_ (by assumption)) | (refine Ext.trans ?_ (held_left (by assumption))))))))) (first | (go_at_call 37; refine (HS.out _ (hE.out.trans (by (repeat (with_reducible (first | exact Ext.refl _ | assumption | exact held_left (by assumption) | apply Ext.drewN | apply Ext.drew | apply Ext.alloc | (refine Ext.setCell ?_ (by first | (simp; done) | (simp; omega) | omega) _) | (refine Ext.trans ?_ (by assumption)) | (refine Ext.trans ?_ (held_left (by assumption))))))))).mono ?_; rintro e w2 ⟨rfl, hb2⟩))
        go_wp2
        go_ret
        exact ⟨ret_bool HR.out.symm, hE.out.trans (by (repeat (with_reducible (first | exact Ext.refl _ | assumption | exact held_left (by assumption) | apply Ext.drewN | apply Ext.drew | apply Ext.alloc | (refine Ext.setCell ?_ (by first | (simp; done) | (simp; omega) | omega) _) | (refine Ext.trans ?_ (by assumption)) | (refine Ext.trans ?_ (held_left (by assumption)))))))⟩
    · have hkk : k = ps.length := by omega
      have HR := Hid.mk' (show rlsB (ps.map RR.r) (qs.map RR.r) = true from rlsB_true.2 (rls_ext HN.out (fun i h1 h2 => hrel.out i h1 h2 (by omega))))
      subst hkk
      go_wp2
      go_ret
      exact ⟨ret_bool HR.out.symm, hE.out⟩

set_option maxRecDepth 100000 in set_option maxHeartbeats 2000000 in
theorem eqrels_any (ps qs : List RR) (a b : Option Addr) (ca cb : Nat) (w : World) (hl : RL w (.slice a ps.length ca) ps) (hm : RL w (.slice b qs.length cb) qs) (hlen : ps.length ≤ 1000) (h16 : ∀ p ∈ ps, p.r.cols.length ≤ 1000) :
    Calls Tryz.prog 41 #[.slice a ps.length ca, .slice b qs.length cb, .func (.func 42) #[] #[]] w fun e w' => e = .returned (.bool (rlsB (ps.map RR.r) (qs.map RR.r))) ∧ Ext w w' := by
  have HL := Hid.mk' hl
  have HM := Hid.mk' hm
  have H16 := Hid.mk' h16
  clear hl hm h16
  by_cases hn : ps.length = qs.length
  case neg =>
    have hn' : (((ps.length : Nat) : Int) != ((qs.length : Nat) : Int)) = true := by simp; omega
    have HR := Hid.mk' (show rlsB (ps.map RR.r) (qs.map RR.r) = false from rlsB_false.2 (fun h => hn (by have := congrArg List.length h; simpa using this)))
    clear hn
    go_enter Tryz.func41, Tryz.ntmps41
    go_wp2
    go_ret
    exact ⟨ret_bool HR.out.symm, by (repeat (with_reducible (first | exact Ext.refl _ | assumption | exact held_left (by assumption) | apply Ext.drewN | apply Ext.drew | apply Ext.alloc | (refine Ext.setCell ?_ (by first | (simp; done) | (simp; omega) | omega) _) | (refine Ext.trans ?_ (by assumption)) | (refine Ext.trans ?_ (held_left (by assumption))))))⟩
  have hn' : (((ps.length : Nat) : Int) != ((qs.length : Nat) : Int)) = false := by simp; omega
  have HN := Hid.mk' hn
  clear hn
  go_enter Tryz.func41, Tryz.ntmps41
  go_wp2
  go_loopw [17] (fun i wr => ∃ k : Nat, k ≤ ps.length ∧ i = .int .i64 k ∧ Hid (∀ j (h1 : j < ps.length) (h2 : j < qs.length), j < k → ps[j].r = qs[j].r) ∧ Hid (Ext w wr)) (fun i _ => ps.length - (intOf i).toNat)
  case atStart => exact ⟨0, Nat.zero_le _, rfl, fun j _ _ h => by omega, Hid.mk' (Ext.refl _)⟩
  case round =>
    obtain ⟨k, hk, rfl, hrel, hE⟩ := hrel
    by_cases hlt : k < ps.length
    · have hlt2 : k < qs.length := by have := HN.out; omega
      obtain ⟨b1, q1, rfl, hb1, hx1⟩ := HL.out.row.at_ (i := k) (by simpa using hlt)
      obtain ⟨f0, f1, f2, f3, f4⟩ := RR.at_ hlt hx1 hb1 hE.out
      obtain ⟨b2, q2, rfl, hb2, hx2⟩ := HM.out.row.at_ (i := k) (by simpa using hlt2)
      obtain ⟨p0, p1, p2, p3, p4⟩ := RR.at_ hlt2 hx2 hb2 hE.out
      have hbw : b1 < wr.heap.size := Nat.lt_of_lt_of_le hb1 hE.out.size
      have hbw2 : b2 < wr.heap.size := Nat.lt_of_lt_of_le hb2 hE.out.size
      have HS := Hid.mk' (fun W (h : Ext w W) => same8_any ps[k] qs[k] W ((HL.out.sl _ (List.getElem_mem hlt)).ext h) ((HM.out.sl _ (List.getElem_mem hlt2)).ext h) (H16.out _ (List.getElem_mem hlt)))
      unfold RR.agg at HS
      cases hA : rlB ps[k].r qs[k].r with
      | true =>
        rw [hA] at HS
        have HA := Hid.mk' (rlB_true.1 hA)
        clear hA hx1 hx2
        go_wp2_with (go_at_call 42; refine (HS.out _ (hE.out.trans (by (repeat (with_reducible (first | exact Ext.refl _ | assumption | exact held_left (by assumption) | apply Ext.drewN | apply Ext.drew | apply Ext.alloc | (refine Ext.setCell ?_ (by first | (simp; done) | (simp; omega) | omega) _) | (refine Ext.trans ?_ (by assumption)) | (refine Ext.trans ?_ (held_left (by assumption))))))))).mono ?_; rintro e w2 ⟨rfl, hb2⟩; have HE2 := Hid.mk' (hE.out.trans (show Ext wr w2 by (repeat (with_reducible (first | exact Ext.refl _ | assumption | exact held_left (by assumption) | apply Ext.drewN | apply Ext.drew | apply Ext.alloc | (refine Ext.setCell ?_ (by first | (simp; done) | (simp; omega) | omega) _) | (refine Ext.trans ?_ (by assumption)) | (refine Ext.trans ?_ (held_left (by assumption)))))))))
        go_roundw
        case rel => exact ⟨k + 1, by omega, by go_num, fun j h1 h2 hjk => by
          by_cases e : j = k
          · subst e; exact HA.out
          · exact hrel.out j h1 h2 (by omega), HE2⟩
        case measure => simp [intOf]; omega
      | false =>
        rw [hA] at HS
        have HR := Hid.mk' (show rlsB (ps.map RR.r) (qs.map RR.r) = false from rlsB_false.2 (fun h => rlB_false.1 hA (by
          have := congrArg (fun l => l[k]?) h
          simp only [List.getElem?_map, List.getElem?_eq_getElem hlt, List.getElem?_eq_getElem hlt2, Option.map_some] at this
          exact Option.some.inj this)))
        clear hA hx1 hx2
        go_wp2_with (go_at_call 42; refine (HS.out _ (hE.out.trans (by (repeat (with_reducible (first | exact Ext.refl _ | assumption | exact held_left (by assumption) | apply Ext.drewN | apply Ext.drew | apply Ext.alloc | (refine Ext.setCell ?_ (by first | (simp; done) | (simp; omega) | omega) _) | (refine Ext.trans ?_ (by assumption)) | (refine Ext.trans ?_ (held_left (by assumption))))))))).mono ?_; rintro e w2 ⟨rfl, hb2⟩; have HE2 := Hid.mk' (hE.out.trans (show Ext wr w2 by (repeat (with_reducible (first | exact Ext.refl _ | assumption | exact held_left (by assumption) | apply Ext.drewN | apply Ext.drew | apply Ext.alloc | (refine Ext.setCell ?_ (by first | (simp; done) | (simp; omega) | omega) _) | (refine Ext.trans ?_ (by assumption)) | (refine Ext.trans ?_ (held_left (by assumption)))))))))
        go_ret
        exact ⟨ret_bool HR.out.symm, HE2.out⟩
    · have hkk : k = ps.length := by omega
      have HR := Hid.mk' (show rlsB (ps.map RR.r) (qs.map RR.r) = true from rlsB_true.2 (rls_ext HN.out (fun i h1 h2 => hrel.out i h1 h2 (by omega))))
      subst hkk
      go_wp2
      go_ret
      exact ⟨ret_bool HR.out.symm, hE.out⟩

set_option maxRecDepth 100000 in set_option maxHeartbeats 2000000 in
theorem csame_any (N M g k : Nat) (c d : Value) (ps qs : List RR) (w : World) (hc : Ca w N g c ps) (hd : Ca w M k d qs) :
    Calls Tryz.prog 20 #[.pointer (some ⟨g, 0, none⟩), .pointer (some ⟨k, 0, none⟩)] w fun e w' => e = .returned (.bool (rlsB (ps.map RR.r) (qs.map RR.r))) ∧ Ext w w' := by
  obtain ⟨a, ca, rfl⟩ := hc.shape
  obtain ⟨b, cb, rfl⟩ := hd.shape
  have HE := Hid.mk' (fun W (h : Ext w W) => eqrels_any ps qs a b ca cb W (hc.rl.ext h) (hd.rl.ext h) (by have := hc.n64; omega) (fun p hp => by have := hc.n16 hp; omega))
  have g0 := hc.ptr.cell
  have z0 := hc.ptr.lt
  have g1 := hd.ptr.cell
  have z1 := hd.ptr.lt
  clear hc hd
  go_enter Tryz.func20, Tryz.ntmps20
  go_wp2
  go_region_held3 (fun w' => Ext (w) w' ∧ (∀ b o, b < (w).heap.size → w'.cell? ⟨b, o, none⟩ = (w).cell? ⟨b, o, none⟩) ∧ (∀ b o, b < (w).heap.size → w'.frozen? ⟨b, o, none⟩ = (w).frozen? ⟨b, o, none⟩)) ((exact held_of (by (repeat (with_reducible (first | exact Ext.refl _ | assumption | exact held_left (by assumption) | apply Ext.drewN | apply Ext.drew | apply Ext.alloc | (refine Ext.setCell ?_ (by first | (simp; done) | (simp; omega) | omega) _) | (refine Ext.trans ?_ (by assumption)) | (refine Ext.trans ?_ (held_left (by assumption))))))))) (first | (go_at_call 41; refine (HE.out _ (by (repeat (with_reducible (first | exact Ext.refl _ | assumption | exact held_left (by assumption) | apply Ext.drewN | apply Ext.drew | apply Ext.alloc | (refine Ext.setCell ?_ (by first | (simp; done) | (simp; omega) | omega) _) | (refine Ext.trans ?_ (by assumption)) | (refine Ext.trans ?_ (held_left (by assumption)))))))).mono ?_; rintro e w2 ⟨rfl, hb2⟩))
  go_wp2
  go_ret
  exact ⟨rfl, by (repeat (with_reducible (first | exact Ext.refl _ | assumption | exact held_left (by assumption) | apply Ext.drewN | apply Ext.drew | apply Ext.alloc | (refine Ext.setCell ?_ (by first | (simp; done) | (simp; omega) | omega) _) | (refine Ext.trans ?_ (by assumption)) | (refine Ext.trans ?_ (held_left (by assumption))))))⟩

end Go.Proofs.YthdjinicmnhgpaaGreatDoor


/-
The walk of CatalogOrder.
-/
namespace Go.Proofs.YthdjinicmnhgpaaGreatDoor
open Go.RowKit

theorem mem_r {ps qs : List RR} (h : qs.map RR.r = ps.map RR.r) {q : RR} (hq : q ∈ qs) : ∃ p ∈ ps, p.r = q.r := by
  have : q.r ∈ ps.map RR.r := by rw [← h]; exact List.mem_map_of_mem hq
  obtain ⟨p, hp, e⟩ := List.mem_map.1 this
  exact ⟨p, hp, e⟩
theorem up_n16 {l : List Rl} {k : Nat} {qs : List RR} (h : qs.map RR.r = ofUp l k) : qs.length ≤ 64 ∧ ∀ q ∈ qs, q.r.cols.length ≤ 16 := by
  refine ⟨?_, fun q hq => Rl.cols_le ((ofUp_ok l k).right _ (by rw [← h]; exact List.mem_map_of_mem hq))⟩
  have := (ofUp_ok l k).n64
  rw [← h, List.length_map] at this
  exact this
/-- The laws' Own and Of, one behind the other. -/
theorem own_of {ps : List RR} {W W1 : World} {v : Value} {qs : List RR} (ho : OwnR W1 W.heap.size ps ps.length v qs) (hb : ∀ p ∈ ps, p.r.wb) : RL W1 v qs ∧ (∀ q ∈ qs, q.r.cols.length ≤ q.c) ∧ (∀ q ∈ qs, q.r.wb) ∧ qs.map RR.r = ps.map RR.r ∧ qs.length = ps.length :=
  ⟨ho.rl, ho.cap, ho.wb hb, ho.rs, ho.len⟩

end Go.Proofs.YthdjinicmnhgpaaGreatDoor


/-
The walk of CatalogKeeps.
-/
namespace Go.Proofs.YthdjinicmnhgpaaGreatDoor
open Go.RowKit

theorem upP_16k (ps : List RR) : (upP ps ps.length).length ≤ 64 ∧ ∀ q ∈ upP ps ps.length, q.r.cols.length ≤ 16 :=
  up_n16 (l := ps.map RR.r) (k := ps.length) (upP_r _ _)
theorem cget_is {N g : Nat} {c : Value} {ps : List RR} {o v : Int} {w : World} (hc : Ca w N g c ps) {x : Rl} (h : getR o v (ps.map RR.r) = some x) :
    Calls Tryz.prog 33 #[.pointer (some ⟨g, 0, none⟩), .agg #[.int .u32 o, .int .u32 v]] w fun e w' => ∃ q : RR, e = .returned (.tuple #[.agg #[.int .u32 x.oid, .int .u32 x.ver, .string x.nm, .int .u8 x.id, .slice q.a x.cols.length q.c], .bool true]) ∧ q.r = x ∧ q.owned w.heap.size w' ∧ Ext w w' := by
  refine (cget_any N g c ps o v w hc).mono fun e w' hq => ?_
  obtain ⟨q, h1, h2, h3, h4⟩ := hq
  have hh : hasR o v (ps.map RR.r) = true := by
    cases e2 : hasR o v (ps.map RR.r) with
    | true => rfl
    | false => rw [getR_none.2 e2] at h; cases h
  have hg : (getP o v ps).map RR.r = some x := (getP_map o v ps).trans h
  obtain ⟨p, hp, hpx⟩ := Option.map_eq_some_iff.1 hg
  rw [hp, Option.getD_some, hpx] at h2
  refine ⟨q, ?_, h2, h3, h4⟩
  rw [h1, hh]
  unfold RR.agg
  rw [h2]
theorem own8_is (p : RR) (x : Rl) (hx : p.r = x) (w : World) (hp : p.in w) (hn : x.cols.length ≤ 5864062014634) :
    Calls Tryz.prog 26 #[.agg #[.int .u32 x.oid, .int .u32 x.ver, .string x.nm, .int .u8 x.id, .slice p.a x.cols.length p.c]] w fun e w' => ∃ a' c', e = .returned (.agg #[.int .u32 x.oid, .int .u32 x.ver, .string x.nm, .int .u8 x.id, .slice a' x.cols.length c']) ∧ x.cols.length ≤ c' ∧ RR.in w' ⟨x, a', c'⟩ ∧ Ext w w' := by
  subst hx
  refine (own9_one p w hp hn).mono fun e w' hq => ?_
  obtain ⟨⟨r', a', c'⟩, h1, h2, h3, h4, h5⟩ := hq
  simp only at h2
  subst h2
  exact ⟨a', c', h1, h3, h4.in, h5⟩
theorem pback_is (x : Rl) (a : Option Addr) (c : Nat) (w : World) (hp : RR.in w ⟨x, a, c⟩) (hn : x.cols.length ≤ 1000) :
    Calls Tryz.prog 31 #[.agg #[.int .u32 x.oid, .int .u32 x.ver, .string x.nm, .int .u8 x.id, .slice a x.cols.length c]] w fun e w' => ∃ a' c', e = .returned (.agg #[.int .u32 x.oid, .int .u32 x.ver, .string x.nm, .int .u8 x.id, .slice a' x.cols.length c']) ∧ RR.in w' ⟨x, a', c'⟩ ∧ Ext w w' := by
  refine (pback_any ⟨x, a, c⟩ w hp hn).mono fun e w' hq => ?_
  obtain ⟨⟨r', a', c'⟩, h1, h2, h3, -, h5⟩ := hq
  simp only at h2
  subst h2
  exact ⟨a', c', h1, h3, h5⟩
theorem rsame8_is (x y : Rl) (a b : Option Addr) (c d : Nat) (w : World) (hp : RR.in w ⟨x, a, c⟩) (hq : RR.in w ⟨y, b, d⟩) (hn : x.cols.length ≤ 1000) (hn2 : y.cols.length ≤ 9223372036854775807) :
    Calls Tryz.prog 37 #[.agg #[.int .u32 x.oid, .int .u32 x.ver, .string x.nm, .int .u8 x.id, .slice a x.cols.length c], .agg #[.int .u32 y.oid, .int .u32 y.ver, .string y.nm, .int .u8 y.id, .slice b y.cols.length d]] w fun e w' => e = .returned (.bool (rlB x y)) ∧ Ext w w' :=
  rsame8_any ⟨x, a, c⟩ ⟨y, b, d⟩ w hp hq hn hn2

end Go.Proofs.YthdjinicmnhgpaaGreatDoor

/-
What is wrong with an event: the program's rowed, own, truncate, Right.
-/
namespace Go.Proofs.YthdjinicmnhgpaaGreatDoor
open Go.RowKit

def rowedB (k : Int) : Bool := decide (4 ≤ k ∧ k ≤ 6)
/-- An event that has nothing but what is its kind's. -/
def Ev.only (e : Ev) : Ev := if rowedB e.kind = true then ⟨e.kind, e.ao, e.av, e.old, e.b, e.a, [], 0⟩ else ⟨e.kind, 0, 0, 0, [], [], e.rs, e.fl⟩
noncomputable def ownB (e : Ev) : Bool := evB e e.only
noncomputable def risB (l : List Rf) : Bool := @decide (∀ i (h : i + 1 < l.length), aheadB l[i].o l[i].v l[i + 1].o l[i + 1].v = true) (Classical.propDecidable _)
theorem risB_true {l : List Rf} : risB l = true ↔ ∀ i (h : i + 1 < l.length), aheadB l[i].o l[i].v l[i + 1].o l[i + 1].v = true := by unfold risB; simp
theorem risB_no {l : List Rf} {i : Nat} (h : i + 1 < l.length) (hn : aheadB l[i].o l[i].v l[i + 1].o l[i + 1].v = false) : risB l = false := by
  cases hr : risB l with
  | false => rfl
  | true => rw [risB_true.1 hr i h] at hn; cases hn
def hasAll (rs : List Rf) (l : List Rl) : Bool := rs.all (fun x => hasR x.o x.v l)
theorem hasAll_no {rs : List Rf} {l : List Rl} {k : Nat} (hk : k < rs.length) (h : hasR rs[k].o rs[k].v l = false) : hasAll rs l = false := by
  unfold hasAll
  rw [List.all_eq_false]
  exact ⟨_, List.getElem_mem hk, by rw [h]; simp⟩
theorem hasAll_yes {rs : List Rf} {l : List Rl} (h : ∀ k (hk : k < rs.length), hasR rs[k].o rs[k].v l = true) : hasAll rs l = true := by
  unfold hasAll
  rw [List.all_eq_true]
  intro x hx
  obtain ⟨k, hk, rfl⟩ := List.getElem_of_mem hx
  exact h k hk
noncomputable def truncE (e : Ev) (l : List Rl) : Int := if e.rs.length < 1 ∨ 8 < e.rs.length then 17 else if risB e.rs = false then 15 else if hasAll e.rs l = false then 10 else if 3 < e.fl then 4 else 0
noncomputable def evE (e : Ev) (l : List Rl) : Int :=
  if e.kind < 4 ∨ 7 < e.kind then 7 else if ownB e = false then 3 else if e.kind = 7 then truncE e l else match getR e.ao e.av l with
    | none => 10
    | some r => imgE r e.kind e.old e.b e.a

set_option maxRecDepth 100000 in set_option maxHeartbeats 1600000 in
theorem rowed_any (x : EL) (w : World) : Calls Tryz.prog 76 #[x.agg] w fun e w' => e = .returned (.bool (rowedB x.e.kind)) ∧ Ext w w' := by
  obtain ⟨⟨k1, ao1, av1, old1, b1, a1, r1, fl1⟩, ba1, bc1, aa1, ac1, ra1, rc1⟩ := x
  unfold EL.agg
  simp only
  by_cases h4 : 4 ≤ k1
  · by_cases h6 : k1 ≤ 6
    · have HR := Hid.mk' (show rowedB k1 = true from decide_eq_true ⟨h4, h6⟩)
      go_enter Tryz.func76, Tryz.ntmps76
      go_wp2
      go_ret
      exact ⟨ret_bool HR.out.symm, by (repeat (with_reducible (first | exact Ext.refl _ | assumption | exact held_left (by assumption) | apply Ext.drewN | apply Ext.drew | apply Ext.alloc | (refine Ext.setCell ?_ (by first | (simp; done) | (simp; omega) | omega) _) | (refine Ext.trans ?_ (by assumption)) | (refine Ext.trans ?_ (held_left (by assumption))))))⟩
    · have HR := Hid.mk' (show rowedB k1 = false from decide_eq_false (fun h => h6 h.2))
      go_enter Tryz.func76, Tryz.ntmps76
      go_wp2
      go_ret
      exact ⟨ret_bool HR.out.symm, by (repeat (with_reducible (first | exact Ext.refl _ | assumption | exact held_left (by assumption) | apply Ext.drewN | apply Ext.drew | apply Ext.alloc | (refine Ext.setCell ?_ (by first | (simp; done) | (simp; omega) | omega) _) | (refine Ext.trans ?_ (by assumption)) | (refine Ext.trans ?_ (held_left (by assumption))))))⟩
  · have HR := Hid.mk' (show rowedB k1 = false from decide_eq_false (fun h => h4 h.1))
    go_enter Tryz.func76, Tryz.ntmps76
    go_wp2
    go_ret
    exact ⟨ret_bool HR.out.symm, by (repeat (with_reducible (first | exact Ext.refl _ | assumption | exact held_left (by assumption) | apply Ext.drewN | apply Ext.drew | apply Ext.alloc | (refine Ext.setCell ?_ (by first | (simp; done) | (simp; omega) | omega) _) | (refine Ext.trans ?_ (by assumption)) | (refine Ext.trans ?_ (held_left (by assumption))))))⟩

theorem nilRef (w : World) : Sl w (.slice none 0 0) 2 (([] : List Rf).map Rf.cells) := ⟨none, 0, rfl, .inl rfl⟩
theorem nilRowP (w : World) : Sl w (.slice none 0 0) 5 (([] : List K).map K.pc) := ⟨none, 0, rfl, .inl rfl⟩
set_option maxRecDepth 100000 in set_option maxHeartbeats 4000000 in
theorem pown13_any (x : EL) (w : World) (hx : x.at 5 K.pc w) (hs : x.e.small) : Calls Tryz.prog 77 #[x.agg] w fun e w' => e = .returned (.bool (ownB x.e)) ∧ Ext w w' := by
  have HRW := Hid.mk' (fun W => rowed_any x W)
  have HAK := Hid.mk' (fun y W (h : Ext w W) (h2 : y.at 5 K.pc W) (h3 : y.e.small) => ealike_any x y W (hx.ext h) h2 hs h3)
  have HX := Hid.mk' (And.intro hx hs)
  obtain ⟨⟨k1, ao1, av1, old1, b1, a1, r1, fl1⟩, ba1, bc1, aa1, ac1, ra1, rc1⟩ := x
  unfold EL.agg at HRW HAK ⊢
  simp only at HRW HAK ⊢
  clear hx hs
  cases hr : rowedB k1 with
  | true =>
    have HR := Hid.mk' (show ownB (⟨k1, ao1, av1, old1, b1, a1, r1, fl1⟩ : Ev) = evB (⟨k1, ao1, av1, old1, b1, a1, r1, fl1⟩ : Ev) ⟨k1, ao1, av1, old1, b1, a1, [], 0⟩ from by unfold ownB Ev.only; rw [if_pos hr])
    rw [hr] at HRW
    clear hr
    go_enter Tryz.func77, Tryz.ntmps77
    go_upto_region 3 with (go_at_call 76; refine (HRW.out _).mono ?_; rintro e w1 ⟨rfl, hb1⟩; have HB1 := Hid.mk' hb1; have hE_w1 : Ext ((w.alloc (.cells #[.int .u8 k1, .int .u32 ao1, .int .u32 av1, .int .u8 old1, .slice ba1 b1.length bc1, .slice aa1 a1.length ac1, .slice ra1 r1.length rc1, .int .u8 fl1] 83)).alloc (.cells #[.int .u8 k1, .int .u32 0, .int .u32 0, .int .u8 0, .slice none 0 0, .slice none 0 0, .slice none 0 0, .int .u8 0] 83)) w1 := (by (repeat (with_reducible (first | exact Ext.refl _ | assumption | exact held_left (by assumption) | apply Ext.drewN | apply Ext.drew | apply Ext.alloc | (refine Ext.setCell ?_ (by first | (simp; done) | (simp; omega) | omega) _) | (refine Ext.trans ?_ (by assumption)) | (refine Ext.trans ?_ (held_left (by assumption))))))); obtain ⟨hc_w1, hf_w1⟩ := hE_w1.cells; have hz_w1 := hE_w1.size)
    have HW1 := Hid.mk' (((Ext.refl (w.alloc (.cells #[.int .u8 k1, .int .u32 ao1, .int .u32 av1, .int .u8 old1, .slice ba1 b1.length bc1, .slice aa1 a1.length ac1, .slice ra1 r1.length rc1, .int .u8 fl1] 83))).alloc (.cells #[.int .u8 k1, .int .u32 0, .int .u32 0, .int .u8 0, .slice none 0 0, .slice none 0 0, .slice none 0 0, .int .u8 0] 83)).trans HB1.out)
    have hV : Blk w1 w.heap.size #[.int .u8 k1, .int .u32 ao1, .int .u32 av1, .int .u8 old1, .slice ba1 b1.length bc1, .slice aa1 a1.length ac1, .slice ra1 r1.length rc1, .int .u8 fl1] 83 := (((Blk.new w #[.int .u8 k1, .int .u32 ao1, .int .u32 av1, .int .u8 old1, .slice ba1 b1.length bc1, .slice aa1 a1.length ac1, .slice ra1 r1.length rc1, .int .u8 fl1] 83).alloc _).ext HB1.out)
    have hZ : Blk w1 (w.heap.size + 1) #[.int .u8 k1, .int .u32 0, .int .u32 0, .int .u8 0, .slice none 0 0, .slice none 0 0, .slice none 0 0, .int .u8 0] 83 := ((Blk.new' (w := w.alloc (.cells #[.int .u8 k1, .int .u32 ao1, .int .u32 av1, .int .u8 old1, .slice ba1 b1.length bc1, .slice aa1 a1.length ac1, .slice ra1 r1.length rc1, .int .u8 fl1] 83)) _ _ (by simp)).ext HB1.out)
    have HV := Hid.mk' hV
    have HZ := Hid.mk' hZ
    have gv := hV.cell
    have gz := hZ.cell
    have gzf := hZ.frozen
    have zv := hV.lt
    have zz := hZ.lt
    have hE1 := HW1.out
    clear hV hZ hE_w1 hc_w1 hf_w1 hz_w1
    go_region_held3 (fun w' => Ext (w.alloc (.cells #[.int .u8 k1, .int .u32 ao1, .int .u32 av1, .int .u8 old1, .slice ba1 b1.length bc1, .slice aa1 a1.length ac1, .slice ra1 r1.length rc1, .int .u8 fl1] 83)) w' ∧ (∀ b o, b < (w.alloc (.cells #[.int .u8 k1, .int .u32 ao1, .int .u32 av1, .int .u8 old1, .slice ba1 b1.length bc1, .slice aa1 a1.length ac1, .slice ra1 r1.length rc1, .int .u8 fl1] 83)).heap.size → w'.cell? ⟨b, o, none⟩ = (w.alloc (.cells #[.int .u8 k1, .int .u32 ao1, .int .u32 av1, .int .u8 old1, .slice ba1 b1.length bc1, .slice aa1 a1.length ac1, .slice ra1 r1.length rc1, .int .u8 fl1] 83)).cell? ⟨b, o, none⟩) ∧ (∀ b o, b < (w.alloc (.cells #[.int .u8 k1, .int .u32 ao1, .int .u32 av1, .int .u8 old1, .slice ba1 b1.length bc1, .slice aa1 a1.length ac1, .slice ra1 r1.length rc1, .int .u8 fl1] 83)).heap.size → w'.frozen? ⟨b, o, none⟩ = (w.alloc (.cells #[.int .u8 k1, .int .u32 ao1, .int .u32 av1, .int .u8 old1, .slice ba1 b1.length bc1, .slice aa1 a1.length ac1, .slice ra1 r1.length rc1, .int .u8 fl1] 83)).frozen? ⟨b, o, none⟩)) ((exact held_of (by (repeat (with_reducible (first | exact Ext.refl _ | assumption | exact held_left (by assumption) | apply Ext.drewN | apply Ext.drew | apply Ext.alloc | (refine Ext.setCell ?_ (by first | (simp; done) | (simp; omega) | omega) _) | (refine Ext.trans ?_ (by assumption)) | (refine Ext.trans ?_ (held_left (by assumption))))))))) (fail)
    have HZ2 := Hid.mk' (show Blk (((((w1.setCell ⟨w.heap.size + 1, 1, none⟩ (.int .u32 ao1)).setCell ⟨w.heap.size + 1, 2, none⟩ (.int .u32 av1)).setCell ⟨w.heap.size + 1, 3, none⟩ (.int .u8 old1)).setCell ⟨w.heap.size + 1, 4, none⟩ (.slice ba1 b1.length bc1)).setCell ⟨w.heap.size + 1, 5, none⟩ (.slice aa1 a1.length ac1)) (w.heap.size + 1) #[.int .u8 k1, .int .u32 ao1, .int .u32 av1, .int .u8 old1, .slice ba1 b1.length bc1, .slice aa1 a1.length ac1, .slice none 0 0, .int .u8 0] 83 from by
      have := ((((HZ.out.set 1 (.int .u32 ao1)).set 2 (.int .u32 av1)).set 3 (.int .u8 old1)).set 4 (.slice ba1 b1.length bc1)).set 5 (.slice aa1 a1.length ac1)
      simpa only [List.setIfInBounds_toArray, List.set_cons_zero, List.set_cons_succ] using this)
    have HE2 := Hid.mk' (show Ext (w.alloc (.cells #[.int .u8 k1, .int .u32 ao1, .int .u32 av1, .int .u8 old1, .slice ba1 b1.length bc1, .slice aa1 a1.length ac1, .slice ra1 r1.length rc1, .int .u8 fl1] 83)) (((((w1.setCell ⟨w.heap.size + 1, 1, none⟩ (.int .u32 ao1)).setCell ⟨w.heap.size + 1, 2, none⟩ (.int .u32 av1)).setCell ⟨w.heap.size + 1, 3, none⟩ (.int .u8 old1)).setCell ⟨w.heap.size + 1, 4, none⟩ (.slice ba1 b1.length bc1)).setCell ⟨w.heap.size + 1, 5, none⟩ (.slice aa1 a1.length ac1)) from by (repeat (with_reducible (first | exact Ext.refl _ | assumption | exact held_left (by assumption) | apply Ext.drewN | apply Ext.drew | apply Ext.alloc | (refine Ext.setCell ?_ (by first | (simp; done) | (simp; omega) | omega) _) | (refine Ext.trans ?_ (by assumption)) | (refine Ext.trans ?_ (held_left (by assumption)))))))
    have HD := Hid.mk' HZ2.out.drew
    have HE3 := Hid.mk' HE2.out.drew
    obtain ⟨w2, hw2⟩ : ∃ w2, w2 = (((((w1.setCell ⟨w.heap.size + 1, 1, none⟩ (.int .u32 ao1)).setCell ⟨w.heap.size + 1, 2, none⟩ (.int .u32 av1)).setCell ⟨w.heap.size + 1, 3, none⟩ (.int .u8 old1)).setCell ⟨w.heap.size + 1, 4, none⟩ (.slice ba1 b1.length bc1)).setCell ⟨w.heap.size + 1, 5, none⟩ (.slice aa1 a1.length ac1)).drew := ⟨_, rfl⟩
    rw [← hw2] at HD HE3 ⊢
    have HV2 := Hid.mk' ((Blk.new w #[.int .u8 k1, .int .u32 ao1, .int .u32 av1, .int .u8 old1, .slice ba1 b1.length bc1, .slice aa1 a1.length ac1, .slice ra1 r1.length rc1, .int .u8 fl1] 83).ext HE3.out)
    clear hw2 HZ2 HE2 gv gz gzf zv zz hE1
    have gv := HV2.out.cell
    have gz := HD.out.cell
    have zv := HV2.out.lt
    have zz := HD.out.lt
    have HEw : Hid (Ext w w2) := Hid.mk' (((Ext.refl w).alloc _).trans HE3.out)
    have HC := Hid.mk' (HAK.out ⟨⟨k1, ao1, av1, old1, b1, a1, [], 0⟩, ba1, bc1, aa1, ac1, none, 0⟩ w2 HEw.out ⟨HX.out.1.b.ext HEw.out, HX.out.1.a.ext HEw.out, nilRef _⟩ ⟨HX.out.2.b, HX.out.2.a, Nat.zero_le _⟩)
    simp only at HC
    go_wp2_with (go_at_call 94; refine HC.out.mono ?_; rintro e w3 ⟨rfl, hb3⟩)
    go_ret
    exact ⟨ret_bool HR.out.symm, HEw.out.trans hb3⟩
  | false =>
    have HR := Hid.mk' (show ownB (⟨k1, ao1, av1, old1, b1, a1, r1, fl1⟩ : Ev) = evB (⟨k1, ao1, av1, old1, b1, a1, r1, fl1⟩ : Ev) ⟨k1, 0, 0, 0, [], [], r1, fl1⟩ from by unfold ownB Ev.only; rw [if_neg (by rw [hr]; simp)])
    rw [hr] at HRW
    clear hr
    go_enter Tryz.func77, Tryz.ntmps77
    go_upto_region 4 with (go_at_call 76; refine (HRW.out _).mono ?_; rintro e w1 ⟨rfl, hb1⟩; have HB1 := Hid.mk' hb1; have hE_w1 : Ext ((w.alloc (.cells #[.int .u8 k1, .int .u32 ao1, .int .u32 av1, .int .u8 old1, .slice ba1 b1.length bc1, .slice aa1 a1.length ac1, .slice ra1 r1.length rc1, .int .u8 fl1] 83)).alloc (.cells #[.int .u8 k1, .int .u32 0, .int .u32 0, .int .u8 0, .slice none 0 0, .slice none 0 0, .slice none 0 0, .int .u8 0] 83)) w1 := (by (repeat (with_reducible (first | exact Ext.refl _ | assumption | exact held_left (by assumption) | apply Ext.drewN | apply Ext.drew | apply Ext.alloc | (refine Ext.setCell ?_ (by first | (simp; done) | (simp; omega) | omega) _) | (refine Ext.trans ?_ (by assumption)) | (refine Ext.trans ?_ (held_left (by assumption))))))); obtain ⟨hc_w1, hf_w1⟩ := hE_w1.cells; have hz_w1 := hE_w1.size)
    have HW1 := Hid.mk' (((Ext.refl (w.alloc (.cells #[.int .u8 k1, .int .u32 ao1, .int .u32 av1, .int .u8 old1, .slice ba1 b1.length bc1, .slice aa1 a1.length ac1, .slice ra1 r1.length rc1, .int .u8 fl1] 83))).alloc (.cells #[.int .u8 k1, .int .u32 0, .int .u32 0, .int .u8 0, .slice none 0 0, .slice none 0 0, .slice none 0 0, .int .u8 0] 83)).trans HB1.out)
    have hV : Blk w1 w.heap.size #[.int .u8 k1, .int .u32 ao1, .int .u32 av1, .int .u8 old1, .slice ba1 b1.length bc1, .slice aa1 a1.length ac1, .slice ra1 r1.length rc1, .int .u8 fl1] 83 := (((Blk.new w #[.int .u8 k1, .int .u32 ao1, .int .u32 av1, .int .u8 old1, .slice ba1 b1.length bc1, .slice aa1 a1.length ac1, .slice ra1 r1.length rc1, .int .u8 fl1] 83).alloc _).ext HB1.out)
    have hZ : Blk w1 (w.heap.size + 1) #[.int .u8 k1, .int .u32 0, .int .u32 0, .int .u8 0, .slice none 0 0, .slice none 0 0, .slice none 0 0, .int .u8 0] 83 := ((Blk.new' (w := w.alloc (.cells #[.int .u8 k1, .int .u32 ao1, .int .u32 av1, .int .u8 old1, .slice ba1 b1.length bc1, .slice aa1 a1.length ac1, .slice ra1 r1.length rc1, .int .u8 fl1] 83)) _ _ (by simp)).ext HB1.out)
    have HV := Hid.mk' hV
    have HZ := Hid.mk' hZ
    have gv := hV.cell
    have gz := hZ.cell
    have gzf := hZ.frozen
    have zv := hV.lt
    have zz := hZ.lt
    have hE1 := HW1.out
    clear hV hZ hE_w1 hc_w1 hf_w1 hz_w1
    go_region_held3 (fun w' => Ext (w.alloc (.cells #[.int .u8 k1, .int .u32 ao1, .int .u32 av1, .int .u8 old1, .slice ba1 b1.length bc1, .slice aa1 a1.length ac1, .slice ra1 r1.length rc1, .int .u8 fl1] 83)) w' ∧ (∀ b o, b < (w.alloc (.cells #[.int .u8 k1, .int .u32 ao1, .int .u32 av1, .int .u8 old1, .slice ba1 b1.length bc1, .slice aa1 a1.length ac1, .slice ra1 r1.length rc1, .int .u8 fl1] 83)).heap.size → w'.cell? ⟨b, o, none⟩ = (w.alloc (.cells #[.int .u8 k1, .int .u32 ao1, .int .u32 av1, .int .u8 old1, .slice ba1 b1.length bc1, .slice aa1 a1.length ac1, .slice ra1 r1.length rc1, .int .u8 fl1] 83)).cell? ⟨b, o, none⟩) ∧ (∀ b o, b < (w.alloc (.cells #[.int .u8 k1, .int .u32 ao1, .int .u32 av1, .int .u8 old1, .slice ba1 b1.length bc1, .slice aa1 a1.length ac1, .slice ra1 r1.length rc1, .int .u8 fl1] 83)).heap.size → w'.frozen? ⟨b, o, none⟩ = (w.alloc (.cells #[.int .u8 k1, .int .u32 ao1, .int .u32 av1, .int .u8 old1, .slice ba1 b1.length bc1, .slice aa1 a1.length ac1, .slice ra1 r1.length rc1, .int .u8 fl1] 83)).frozen? ⟨b, o, none⟩)) ((exact held_of (by (repeat (with_reducible (first | exact Ext.refl _ | assumption | exact held_left (by assumption) | apply Ext.drewN | apply Ext.drew | apply Ext.alloc | (refine Ext.setCell ?_ (by first | (simp; done) | (simp; omega) | omega) _) | (refine Ext.trans ?_ (by assumption)) | (refine Ext.trans ?_ (held_left (by assumption))))))))) (fail)
    have HZ2 := Hid.mk' (show Blk ((w1.setCell ⟨w.heap.size + 1, 6, none⟩ (.slice ra1 r1.length rc1)).setCell ⟨w.heap.size + 1, 7, none⟩ (.int .u8 fl1)) (w.heap.size + 1) #[.int .u8 k1, .int .u32 0, .int .u32 0, .int .u8 0, .slice none 0 0, .slice none 0 0, .slice ra1 r1.length rc1, .int .u8 fl1] 83 from by
      have := (HZ.out.set 6 (.slice ra1 r1.length rc1)).set 7 (.int .u8 fl1)
      simpa only [List.setIfInBounds_toArray, List.set_cons_zero, List.set_cons_succ] using this)
    have HE2 := Hid.mk' (show Ext (w.alloc (.cells #[.int .u8 k1, .int .u32 ao1, .int .u32 av1, .int .u8 old1, .slice ba1 b1.length bc1, .slice aa1 a1.length ac1, .slice ra1 r1.length rc1, .int .u8 fl1] 83)) ((w1.setCell ⟨w.heap.size + 1, 6, none⟩ (.slice ra1 r1.length rc1)).setCell ⟨w.heap.size + 1, 7, none⟩ (.int .u8 fl1)) from by (repeat (with_reducible (first | exact Ext.refl _ | assumption | exact held_left (by assumption) | apply Ext.drewN | apply Ext.drew | apply Ext.alloc | (refine Ext.setCell ?_ (by first | (simp; done) | (simp; omega) | omega) _) | (refine Ext.trans ?_ (by assumption)) | (refine Ext.trans ?_ (held_left (by assumption)))))))
    have HD := Hid.mk' HZ2.out.drew
    have HE3 := Hid.mk' HE2.out.drew
    obtain ⟨w2, hw2⟩ : ∃ w2, w2 = ((w1.setCell ⟨w.heap.size + 1, 6, none⟩ (.slice ra1 r1.length rc1)).setCell ⟨w.heap.size + 1, 7, none⟩ (.int .u8 fl1)).drew := ⟨_, rfl⟩
    rw [← hw2] at HD HE3 ⊢
    have HV2 := Hid.mk' ((Blk.new w #[.int .u8 k1, .int .u32 ao1, .int .u32 av1, .int .u8 old1, .slice ba1 b1.length bc1, .slice aa1 a1.length ac1, .slice ra1 r1.length rc1, .int .u8 fl1] 83).ext HE3.out)
    clear hw2 HZ2 HE2 gv gz gzf zv zz hE1
    have gv := HV2.out.cell
    have gz := HD.out.cell
    have zv := HV2.out.lt
    have zz := HD.out.lt
    have HEw : Hid (Ext w w2) := Hid.mk' (((Ext.refl w).alloc _).trans HE3.out)
    have HC := Hid.mk' (HAK.out ⟨⟨k1, 0, 0, 0, [], [], r1, fl1⟩, none, 0, none, 0, ra1, rc1⟩ w2 HEw.out ⟨nilRowP _, nilRowP _, HX.out.1.r.ext HEw.out⟩ ⟨Nat.zero_le _, Nat.zero_le _, HX.out.2.r⟩)
    simp only at HC
    go_wp2_with (go_at_call 94; refine HC.out.mono ?_; rintro e w3 ⟨rfl, hb3⟩)
    go_ret
    exact ⟨ret_bool HR.out.symm, HEw.out.trans hb3⟩

end Go.Proofs.YthdjinicmnhgpaaGreatDoor

/-
What is wrong with an event: the program's truncate.
-/
namespace Go.Proofs.YthdjinicmnhgpaaGreatDoor
open Go.RowKit

set_option maxRecDepth 100000 in set_option maxHeartbeats 4000000 in
theorem trunc_any (x : EL) (N g : Nat) (c : Value) (ps : List RR) (w : World) (hx : x.at 5 K.pc w) (hs : x.e.small) (hc : Ca w N g c ps) :
    Calls Tryz.prog 78 #[x.agg, .pointer (some ⟨g, 0, none⟩)] w fun e w' => e = .returned (.int .i64 (truncE x.e (ps.map RR.r))) ∧ Ext w w' := by
  have HL := Hid.mk' hx.r
  have HG := Hid.mk' (fun o v W (h : Ext w W) => cget_any N g c ps o v W (hc.ext h))
  have hn := hs.r
  obtain ⟨⟨k1, ao1, av1, old1, b1, a1, r1, fl1⟩, ba1, bc1, aa1, ac1, ra1, rc1⟩ := x
  unfold EL.agg
  simp only at HL hn ⊢
  clear hx hs hc
  by_cases h1 : r1.length < 1
  · have HR := Hid.mk' (show truncE (⟨k1, ao1, av1, old1, b1, a1, r1, fl1⟩ : Ev) (ps.map RR.r) = 17 from if_pos (.inl h1))
    go_enter Tryz.func78, Tryz.ntmps78
    go_wp2
    go_ret
    exact ⟨ret_int HR.out.symm, by (repeat (with_reducible (first | exact Ext.refl _ | assumption | exact held_left (by assumption) | apply Ext.drewN | apply Ext.drew | apply Ext.alloc | (refine Ext.setCell ?_ (by first | (simp; done) | (simp; omega) | omega) _) | (refine Ext.trans ?_ (by assumption)) | (refine Ext.trans ?_ (held_left (by assumption))))))⟩
  by_cases h8 : 8 < r1.length
  · have HR := Hid.mk' (show truncE (⟨k1, ao1, av1, old1, b1, a1, r1, fl1⟩ : Ev) (ps.map RR.r) = 17 from if_pos (.inr h8))
    go_enter Tryz.func78, Tryz.ntmps78
    go_wp2
    go_ret
    exact ⟨ret_int HR.out.symm, by (repeat (with_reducible (first | exact Ext.refl _ | assumption | exact held_left (by assumption) | apply Ext.drewN | apply Ext.drew | apply Ext.alloc | (refine Ext.setCell ?_ (by first | (simp; done) | (simp; omega) | omega) _) | (refine Ext.trans ?_ (by assumption)) | (refine Ext.trans ?_ (held_left (by assumption))))))⟩
  have HR0 := Hid.mk' (show truncE (⟨k1, ao1, av1, old1, b1, a1, r1, fl1⟩ : Ev) (ps.map RR.r) = if risB r1 = false then 15 else if hasAll r1 (ps.map RR.r) = false then 10 else if 3 < fl1 then 4 else 0 from if_neg (by simp only; omega))
  generalize truncE (⟨k1, ao1, av1, old1, b1, a1, r1, fl1⟩ : Ev) (ps.map RR.r) = R at HR0 ⊢
  go_enter Tryz.func78, Tryz.ntmps78
  go_wp2
  go_loopw [6] (fun i wr => ∃ k : Nat, k + 1 ≤ r1.length ∧ i = .int .i64 ((k : Int) + 1) ∧ Hid (∀ j (h : j + 1 < r1.length), j < k → aheadB r1[j].o r1[j].v r1[j + 1].o r1[j + 1].v = true) ∧ Hid (Blk wr w.heap.size #[.int .u8 k1, .int .u32 ao1, .int .u32 av1, .int .u8 old1, .slice ba1 b1.length bc1, .slice aa1 a1.length ac1, .slice ra1 r1.length rc1, .int .u8 fl1] 83) ∧ Hid (Ext w wr)) (fun i _ => r1.length - (intOf i).toNat)
  case atStart => exact ⟨0, by omega, rfl, Hid.mk' (fun j _ h => by omega), Hid.mk' (Blk.new _ _ _), Hid.mk' (by (repeat (with_reducible (first | exact Ext.refl _ | assumption | exact held_left (by assumption) | apply Ext.drewN | apply Ext.drew | apply Ext.alloc | (refine Ext.setCell ?_ (by first | (simp; done) | (simp; omega) | omega) _) | (refine Ext.trans ?_ (by assumption)) | (refine Ext.trans ?_ (held_left (by assumption)))))))⟩
  case round =>
    obtain ⟨k, hk, rfl, hrel, hX, hE⟩ := hrel
    have gv := hX.out.cell
    have zv := hX.out.lt
    by_cases hlt : k + 1 < r1.length
    · have hlt0 : k < r1.length := by omega
      obtain ⟨o1, p1, rfl, hb1, hx1⟩ := HL.out.at_ (i := k) (by simpa using hlt0)
      obtain ⟨f0, f1⟩ := Rf.at_ hlt0 hx1 hb1 hE.out
      obtain ⟨o2, p2, he2, hb2, hx2⟩ := HL.out.at_ (i := k + 1) (by simpa using hlt)
      simp only [Option.some.injEq, Addr.mk.injEq] at he2
      obtain ⟨rfl, rfl, -⟩ := he2
      obtain ⟨s0, s1⟩ := Rf.at_ hlt hx2 hb2 hE.out
      have hbw : o1 < wr.heap.size := Nat.lt_of_lt_of_le hb1 hE.out.size
      have HCP := Hid.mk' (fun W => compare_any r1[k].o r1[k].v r1[k + 1].o r1[k + 1].v W)
      have hcc := cmpR_cases r1[k].o r1[k].v r1[k + 1].o r1[k + 1].v
      have q1 : IntKind.i64.wrap (k : Int) = (k : Int) := IntWalk.i64_in _ (by omega)
      have q2 : ((k : Int) + 1).toNat = k + 1 := by omega
      have i1 : (k : Int) < (r1.length : Int) := by omega
      have i2 : (k : Int) + 1 < (r1.length : Int) := by omega
      have i3 : (0 : Int) ≤ (k : Int) + 1 := by omega
      have i4 : (0 : Int) ≤ (k : Int) := by omega
      have i5 : ((k + 1 : Nat) : Int) = (k : Int) + 1 := by omega
      clear hx1 hx2
      cases hA : aheadB r1[k].o r1[k].v r1[k + 1].o r1[k + 1].v with
      | true =>
        have HA := Hid.mk' hA
        have hneg : cmpR r1[k].o r1[k].v r1[k + 1].o r1[k + 1].v < 0 := cmpR_neg.2 (of_decide_eq_true hA)
        obtain ⟨D, hD⟩ : ∃ D, D = cmpR r1[k].o r1[k].v r1[k + 1].o r1[k + 1].v := ⟨_, rfl⟩
        rw [← hD] at HCP hneg
        have hdd : decide (0 ≤ D) = false := decide_eq_false (by omega)
        clear hA hD hcc hneg
        go_wp2
        go_region_held3 (fun w' => Ext (wr) w' ∧ (∀ b o, b < (wr).heap.size → w'.cell? ⟨b, o, none⟩ = (wr).cell? ⟨b, o, none⟩) ∧ (∀ b o, b < (wr).heap.size → w'.frozen? ⟨b, o, none⟩ = (wr).frozen? ⟨b, o, none⟩)) ((exact held_of (by (repeat (with_reducible (first | exact Ext.refl _ | assumption | exact held_left (by assumption) | apply Ext.drewN | apply Ext.drew | apply Ext.alloc | (refine Ext.setCell ?_ (by first | (simp; done) | (simp; omega) | omega) _) | (refine Ext.trans ?_ (by assumption)) | (refine Ext.trans ?_ (held_left (by assumption))))))))) ((go_at_call 56; refine (HCP.out _).mono ?_; rintro e w2 ⟨rfl, hb2⟩))
        clear q1 q2
        go_wp2
        go_roundw
        case rel => exact ⟨k + 1, by omega, by go_num, Hid.mk' (fun j h hj => by
          by_cases e : j = k
          · subst e; exact HA.out
          · exact hrel.out j h (by omega)), Hid.mk' (hX.out.ext (by (repeat (with_reducible (first | exact Ext.refl _ | assumption | exact held_left (by assumption) | apply Ext.drewN | apply Ext.drew | apply Ext.alloc | (refine Ext.setCell ?_ (by first | (simp; done) | (simp; omega) | omega) _) | (refine Ext.trans ?_ (by assumption)) | (refine Ext.trans ?_ (held_left (by assumption)))))))), Hid.mk' (hE.out.trans (by (repeat (with_reducible (first | exact Ext.refl _ | assumption | exact held_left (by assumption) | apply Ext.drewN | apply Ext.drew | apply Ext.alloc | (refine Ext.setCell ?_ (by first | (simp; done) | (simp; omega) | omega) _) | (refine Ext.trans ?_ (by assumption)) | (refine Ext.trans ?_ (held_left (by assumption))))))))⟩
        case measure => simp [intOf]; omega
      | false =>
        have HR := Hid.mk' (show R = 15 from by rw [HR0.out, if_pos (risB_no hlt hA)])
        have hneg : 0 ≤ cmpR r1[k].o r1[k].v r1[k + 1].o r1[k + 1].v := by
          by_cases h : cmpR r1[k].o r1[k].v r1[k + 1].o r1[k + 1].v < 0
          · rw [show aheadB r1[k].o r1[k].v r1[k + 1].o r1[k + 1].v = true from decide_eq_true (cmpR_neg.1 h)] at hA; cases hA
          · omega
        obtain ⟨D, hD⟩ : ∃ D, D = cmpR r1[k].o r1[k].v r1[k + 1].o r1[k + 1].v := ⟨_, rfl⟩
        rw [← hD] at HCP hneg
        have hdd : decide (0 ≤ D) = true := decide_eq_true hneg
        clear hA hD hcc hneg
        go_wp2
        go_region_held3 (fun w' => Ext (wr) w' ∧ (∀ b o, b < (wr).heap.size → w'.cell? ⟨b, o, none⟩ = (wr).cell? ⟨b, o, none⟩) ∧ (∀ b o, b < (wr).heap.size → w'.frozen? ⟨b, o, none⟩ = (wr).frozen? ⟨b, o, none⟩)) ((exact held_of (by (repeat (with_reducible (first | exact Ext.refl _ | assumption | exact held_left (by assumption) | apply Ext.drewN | apply Ext.drew | apply Ext.alloc | (refine Ext.setCell ?_ (by first | (simp; done) | (simp; omega) | omega) _) | (refine Ext.trans ?_ (by assumption)) | (refine Ext.trans ?_ (held_left (by assumption))))))))) ((go_at_call 56; refine (HCP.out _).mono ?_; rintro e w2 ⟨rfl, hb2⟩))
        clear q1 q2
        go_wp2
        go_ret
        exact ⟨ret_int HR.out.symm, hE.out.trans (by (repeat (with_reducible (first | exact Ext.refl _ | assumption | exact held_left (by assumption) | apply Ext.drewN | apply Ext.drew | apply Ext.alloc | (refine Ext.setCell ?_ (by first | (simp; done) | (simp; omega) | omega) _) | (refine Ext.trans ?_ (by assumption)) | (refine Ext.trans ?_ (held_left (by assumption)))))))⟩
    · have HR1 := Hid.mk' (show R = if hasAll r1 (ps.map RR.r) = false then 10 else if 3 < fl1 then 4 else 0 from by rw [HR0.out, if_neg (by rw [risB_true.2 (fun i h => hrel.out i h (by omega))]; simp)])
      clear HR0 hrel
      obtain ⟨wo, hwo⟩ : ∃ x, x = wr := ⟨_, rfl⟩
      subst hwo
      go_wp2
      go_loopw [41] (fun i wr => ∃ k : Nat, k ≤ r1.length ∧ i = .int .i64 k ∧ Hid (∀ j (h : j < r1.length), j < k → hasR r1[j].o r1[j].v (ps.map RR.r) = true) ∧ Hid (Ext wo wr)) (fun i _ => r1.length - (intOf i).toNat)
      case atStart => exact ⟨0, by omega, rfl, Hid.mk' (fun j _ h => by omega), Hid.mk' (by (repeat (with_reducible (first | exact Ext.refl _ | assumption | exact held_left (by assumption) | apply Ext.drewN | apply Ext.drew | apply Ext.alloc | (refine Ext.setCell ?_ (by first | (simp; done) | (simp; omega) | omega) _) | (refine Ext.trans ?_ (by assumption)) | (refine Ext.trans ?_ (held_left (by assumption)))))))⟩
      case round =>
        obtain ⟨m, hm, rfl, hrel, hF⟩ := hrel
        have gv2 := (hX.out.ext hF.out).cell
        have zv2 := (hX.out.ext hF.out).lt
        clear gv zv
        by_cases hlt2 : m < r1.length
        · obtain ⟨o1, p1, rfl, hb1, hx1⟩ := HL.out.at_ (i := m) (by simpa using hlt2)
          obtain ⟨f0, f1⟩ := Rf.at_ hlt2 hx1 hb1 (hE.out.trans hF.out)
          have hbw : o1 < wr.heap.size := Nat.lt_of_lt_of_le hb1 (hE.out.trans hF.out).size
          have HGT := Hid.mk' (fun W (h : Ext wr W) => HG.out r1[m].o r1[m].v W (hE.out.trans (hF.out.trans h)))
          clear hx1
          cases hA : hasR r1[m].o r1[m].v (ps.map RR.r) with
          | true =>
            have HA := Hid.mk' hA
            rw [hA] at HGT
            clear hA
            go_wp2_with (go_at_call 33; refine (HGT.out _ (by (repeat (with_reducible (first | exact Ext.refl _ | assumption | exact held_left (by assumption) | apply Ext.drewN | apply Ext.drew | apply Ext.alloc | (refine Ext.setCell ?_ (by first | (simp; done) | (simp; omega) | omega) _) | (refine Ext.trans ?_ (by assumption)) | (refine Ext.trans ?_ (held_left (by assumption)))))))).mono ?_; rintro e w3 ⟨⟨⟨oid, ver, nm, id, cols⟩, qa, qc⟩, rfl, -, -, hb3⟩; (try unfold RR.agg); (try simp only))
            go_roundw
            case rel => exact ⟨m + 1, by omega, by go_num, Hid.mk' (fun j h hj => by
              by_cases e : j = m
              · subst e; exact HA.out
              · exact hrel.out j h (by omega)), Hid.mk' (hF.out.trans (by (repeat (with_reducible (first | exact Ext.refl _ | assumption | exact held_left (by assumption) | apply Ext.drewN | apply Ext.drew | apply Ext.alloc | (refine Ext.setCell ?_ (by first | (simp; done) | (simp; omega) | omega) _) | (refine Ext.trans ?_ (by assumption)) | (refine Ext.trans ?_ (held_left (by assumption))))))))⟩
            case measure => simp [intOf]; omega
          | false =>
            have HR := Hid.mk' (show R = 10 from by rw [HR1.out, if_pos (hasAll_no hlt2 hA)])
            rw [hA] at HGT
            clear hA
            go_wp2_with (go_at_call 33; refine (HGT.out _ (by (repeat (with_reducible (first | exact Ext.refl _ | assumption | exact held_left (by assumption) | apply Ext.drewN | apply Ext.drew | apply Ext.alloc | (refine Ext.setCell ?_ (by first | (simp; done) | (simp; omega) | omega) _) | (refine Ext.trans ?_ (by assumption)) | (refine Ext.trans ?_ (held_left (by assumption)))))))).mono ?_; rintro e w3 ⟨⟨⟨oid, ver, nm, id, cols⟩, qa, qc⟩, rfl, -, -, hb3⟩; (try unfold RR.agg); (try simp only))
            go_ret
            exact ⟨ret_int HR.out.symm, hE.out.trans (hF.out.trans (by (repeat (with_reducible (first | exact Ext.refl _ | assumption | exact held_left (by assumption) | apply Ext.drewN | apply Ext.drew | apply Ext.alloc | (refine Ext.setCell ?_ (by first | (simp; done) | (simp; omega) | omega) _) | (refine Ext.trans ?_ (by assumption)) | (refine Ext.trans ?_ (held_left (by assumption))))))))⟩
        · have HR2 := Hid.mk' (show R = if 3 < fl1 then 4 else 0 from by rw [HR1.out, if_neg (by rw [hasAll_yes (fun i h => hrel.out i h (by omega))]; simp)])
          clear HR1 hrel
          by_cases h3 : 3 < fl1
          · have HR := Hid.mk' (show R = 4 from by rw [HR2.out, if_pos h3])
            go_wp2
            go_ret
            exact ⟨ret_int HR.out.symm, hE.out.trans hF.out⟩
          · have HR := Hid.mk' (show R = 0 from by rw [HR2.out, if_neg h3])
            go_wp2
            go_ret
            exact ⟨ret_int HR.out.symm, hE.out.trans hF.out⟩

end Go.Proofs.YthdjinicmnhgpaaGreatDoor

/-
What is wrong with an event: the program's Right.
-/
namespace Go.Proofs.YthdjinicmnhgpaaGreatDoor
open Go.RowKit

structure Ev.wk (e : Ev) : Prop where
  b : ∀ c ∈ e.b, c.wk
  a : ∀ c ∈ e.a, c.wk
  old : 0 ≤ e.old

set_option maxRecDepth 100000 in set_option maxHeartbeats 4000000 in
theorem eright_any (x : EL) (N g : Nat) (c : Value) (ps : List RR) (w : World) (hx : x.at 5 K.pc w) (hs : x.e.small) (hwk : x.e.wk) (hc : Ca w N g c ps) :
    Calls Tryz.prog 51 #[x.agg, .pointer (some ⟨g, 0, none⟩)] w fun e w' => e = .returned (.int .i64 (evE x.e (ps.map RR.r))) ∧ Ext w w' := by
  have HRW := Hid.mk' (fun W => rowed_any x W)
  have HOW := Hid.mk' (fun W (h : Ext w W) => pown13_any x W (hx.ext h) hs)
  have HTR := Hid.mk' (fun W (h : Ext w W) => trunc_any x N g c ps W (hx.ext h) hs (hc.ext h))
  have HG := Hid.mk' (fun W (h : Ext w W) => cget_any N g c ps x.e.ao x.e.av W (hc.ext h))
  have HGI := Hid.mk' (fun (r : Rl) (h : getR x.e.ao x.e.av (ps.map RR.r) = some r) W (h2 : Ext w W) => cget_is (hc.ext h2) h)
  have HIM := Hid.mk' (fun (r : Rl) (a2 : Option Addr) (c2 : Nat) (hr : r ∈ ps.map RR.r) W (h : Ext w W) (hl : Sl W (.slice a2 r.cols.length c2) 3 (r.cols.map Col.cells)) (hcp : r.cols.length ≤ c2) =>
    (show Calls Tryz.prog 79 #[.agg #[.int .u32 r.oid, .int .u32 r.ver, .string r.nm, .int .u8 r.id, .slice a2 r.cols.length c2], .int .u8 x.e.kind, .int .u8 x.e.old, .slice x.ba x.e.b.length x.bc, .slice x.aa x.e.a.length x.ac] W (fun e w' => e = .returned (.int .i64 (imgE r x.e.kind x.e.old x.e.b x.e.a)) ∧ Ext W w') from by
      obtain ⟨p, hp, rfl⟩ := List.mem_map.1 hr
      have hwb := hc.wb p hp
      exact image_any x.e.kind x.e.old x.e.b x.e.a x.ba x.aa x.bc x.ac p.r.oid p.r.ver p.r.nm p.r.id p.r.cols a2 c2 W hl hcp (by have := hc.n16 hp; omega) (hx.b.ext h) (hx.a.ext h) hs.b hs.a hwk.b hwk.a hwb.cs hwb.nm hwb.idn hwk.old))
  clear hx hs hwk hc
  obtain ⟨⟨k1, ao1, av1, old1, b1, a1, r1, fl1⟩, ba1, bc1, aa1, ac1, ra1, rc1⟩ := x
  unfold EL.agg at HRW HOW HTR ⊢
  simp only at HRW HOW HTR HG HGI HIM ⊢
  by_cases h0 : k1 < 4 ∨ 7 < k1
  · have HR := Hid.mk' (show evE (⟨k1, ao1, av1, old1, b1, a1, r1, fl1⟩ : Ev) (ps.map RR.r) = 7 from if_pos h0)
    have hr : rowedB k1 = false := decide_eq_false (by omega)
    have h7 : (k1 != 7) = true := by simp; omega
    rw [hr] at HRW
    clear hr h0
    go_enter Tryz.func51, Tryz.ntmps51
    go_wp2_with (go_at_call 76; refine (HRW.out _).mono ?_; rintro e w1 ⟨rfl, hb1⟩; have hE_w1 : Ext (w.alloc (.cells #[.int .u8 k1, .int .u32 ao1, .int .u32 av1, .int .u8 old1, .slice ba1 b1.length bc1, .slice aa1 a1.length ac1, .slice ra1 r1.length rc1, .int .u8 fl1] 83)) w1 := (by (repeat (with_reducible (first | exact Ext.refl _ | assumption | exact held_left (by assumption) | apply Ext.drewN | apply Ext.drew | apply Ext.alloc | (refine Ext.setCell ?_ (by first | (simp; done) | (simp; omega) | omega) _) | (refine Ext.trans ?_ (by assumption)) | (refine Ext.trans ?_ (held_left (by assumption))))))); obtain ⟨hc_w1, hf_w1⟩ := hE_w1.cells; have hz_w1 := hE_w1.size)
    go_ret
    exact ⟨ret_int HR.out.symm, by (repeat (with_reducible (first | exact Ext.refl _ | assumption | exact held_left (by assumption) | apply Ext.drewN | apply Ext.drew | apply Ext.alloc | (refine Ext.setCell ?_ (by first | (simp; done) | (simp; omega) | omega) _) | (refine Ext.trans ?_ (by assumption)) | (refine Ext.trans ?_ (held_left (by assumption))))))⟩
  have HR0 := Hid.mk' (show evE (⟨k1, ao1, av1, old1, b1, a1, r1, fl1⟩ : Ev) (ps.map RR.r) = _ from if_neg h0)
  simp only at HR0
  cases ho : ownB (⟨k1, ao1, av1, old1, b1, a1, r1, fl1⟩ : Ev) with
  | false =>
    have HR := Hid.mk' (show evE (⟨k1, ao1, av1, old1, b1, a1, r1, fl1⟩ : Ev) (ps.map RR.r) = 3 from by rw [HR0.out, if_pos ho])
    rw [ho] at HOW
    clear HR0 ho
    by_cases h7 : k1 = 7
    · have hr : rowedB k1 = false := decide_eq_false (by omega)
      have h7' : (k1 != 7) = false := by simp; omega
      rw [hr] at HRW
      clear hr h0 h7
      go_enter Tryz.func51, Tryz.ntmps51
      go_wp2_with (first | (go_at_call 76; refine (HRW.out _).mono ?_; rintro e w1 ⟨rfl, hb1⟩; have hE_w1 : Ext (w.alloc (.cells #[.int .u8 k1, .int .u32 ao1, .int .u32 av1, .int .u8 old1, .slice ba1 b1.length bc1, .slice aa1 a1.length ac1, .slice ra1 r1.length rc1, .int .u8 fl1] 83)) w1 := (by (repeat (with_reducible (first | exact Ext.refl _ | assumption | exact held_left (by assumption) | apply Ext.drewN | apply Ext.drew | apply Ext.alloc | (refine Ext.setCell ?_ (by first | (simp; done) | (simp; omega) | omega) _) | (refine Ext.trans ?_ (by assumption)) | (refine Ext.trans ?_ (held_left (by assumption))))))); obtain ⟨hc_w1, hf_w1⟩ := hE_w1.cells; have hz_w1 := hE_w1.size) | (go_at_call 77; refine (HOW.out _ (by (repeat (with_reducible (first | exact Ext.refl _ | assumption | exact held_left (by assumption) | apply Ext.drewN | apply Ext.drew | apply Ext.alloc | (refine Ext.setCell ?_ (by first | (simp; done) | (simp; omega) | omega) _) | (refine Ext.trans ?_ (by assumption)) | (refine Ext.trans ?_ (held_left (by assumption)))))))).mono ?_; rintro e w2 ⟨rfl, hb2⟩; (have hE_w2 : Ext (w.alloc (.cells #[.int .u8 k1, .int .u32 ao1, .int .u32 av1, .int .u8 old1, .slice ba1 b1.length bc1, .slice aa1 a1.length ac1, .slice ra1 r1.length rc1, .int .u8 fl1] 83)) w2 := (by (repeat (with_reducible (first | exact Ext.refl _ | assumption | exact held_left (by assumption) | apply Ext.drewN | apply Ext.drew | apply Ext.alloc | (refine Ext.setCell ?_ (by first | (simp; done) | (simp; omega) | omega) _) | (refine Ext.trans ?_ (by assumption)) | (refine Ext.trans ?_ (held_left (by assumption))))))); obtain ⟨hc_w2, hf_w2⟩ := hE_w2.cells; have hz_w2 := hE_w2.size)))
      go_ret
      exact ⟨ret_int HR.out.symm, by (repeat (with_reducible (first | exact Ext.refl _ | assumption | exact held_left (by assumption) | apply Ext.drewN | apply Ext.drew | apply Ext.alloc | (refine Ext.setCell ?_ (by first | (simp; done) | (simp; omega) | omega) _) | (refine Ext.trans ?_ (by assumption)) | (refine Ext.trans ?_ (held_left (by assumption))))))⟩
    · have hr : rowedB k1 = true := decide_eq_true (by omega)
      rw [hr] at HRW
      clear hr h0 h7
      go_enter Tryz.func51, Tryz.ntmps51
      go_wp2_with (first | (go_at_call 76; refine (HRW.out _).mono ?_; rintro e w1 ⟨rfl, hb1⟩; have hE_w1 : Ext (w.alloc (.cells #[.int .u8 k1, .int .u32 ao1, .int .u32 av1, .int .u8 old1, .slice ba1 b1.length bc1, .slice aa1 a1.length ac1, .slice ra1 r1.length rc1, .int .u8 fl1] 83)) w1 := (by (repeat (with_reducible (first | exact Ext.refl _ | assumption | exact held_left (by assumption) | apply Ext.drewN | apply Ext.drew | apply Ext.alloc | (refine Ext.setCell ?_ (by first | (simp; done) | (simp; omega) | omega) _) | (refine Ext.trans ?_ (by assumption)) | (refine Ext.trans ?_ (held_left (by assumption))))))); obtain ⟨hc_w1, hf_w1⟩ := hE_w1.cells; have hz_w1 := hE_w1.size) | (go_at_call 77; refine (HOW.out _ (by (repeat (with_reducible (first | exact Ext.refl _ | assumption | exact held_left (by assumption) | apply Ext.drewN | apply Ext.drew | apply Ext.alloc | (refine Ext.setCell ?_ (by first | (simp; done) | (simp; omega) | omega) _) | (refine Ext.trans ?_ (by assumption)) | (refine Ext.trans ?_ (held_left (by assumption)))))))).mono ?_; rintro e w2 ⟨rfl, hb2⟩; (have hE_w2 : Ext (w.alloc (.cells #[.int .u8 k1, .int .u32 ao1, .int .u32 av1, .int .u8 old1, .slice ba1 b1.length bc1, .slice aa1 a1.length ac1, .slice ra1 r1.length rc1, .int .u8 fl1] 83)) w2 := (by (repeat (with_reducible (first | exact Ext.refl _ | assumption | exact held_left (by assumption) | apply Ext.drewN | apply Ext.drew | apply Ext.alloc | (refine Ext.setCell ?_ (by first | (simp; done) | (simp; omega) | omega) _) | (refine Ext.trans ?_ (by assumption)) | (refine Ext.trans ?_ (held_left (by assumption))))))); obtain ⟨hc_w2, hf_w2⟩ := hE_w2.cells; have hz_w2 := hE_w2.size)))
      go_ret
      exact ⟨ret_int HR.out.symm, by (repeat (with_reducible (first | exact Ext.refl _ | assumption | exact held_left (by assumption) | apply Ext.drewN | apply Ext.drew | apply Ext.alloc | (refine Ext.setCell ?_ (by first | (simp; done) | (simp; omega) | omega) _) | (refine Ext.trans ?_ (by assumption)) | (refine Ext.trans ?_ (held_left (by assumption))))))⟩
  | true =>
  rw [ho] at HOW
  by_cases h7 : k1 = 7
  · have HR := Hid.mk' (show evE (⟨k1, ao1, av1, old1, b1, a1, r1, fl1⟩ : Ev) (ps.map RR.r) = truncE (⟨k1, ao1, av1, old1, b1, a1, r1, fl1⟩ : Ev) (ps.map RR.r) from by rw [HR0.out, if_neg (by rw [ho]; simp), if_pos h7])
    have hr : rowedB k1 = false := decide_eq_false (by omega)
    have h7' : (k1 != 7) = false := by simp; omega
    have h7'' : (k1 == 7) = true := by simp; omega
    rw [hr] at HRW
    clear hr h0 h7 HR0 ho
    go_enter Tryz.func51, Tryz.ntmps51
    go_wp2_with (first | (go_at_call 76; refine (HRW.out _).mono ?_; rintro e w1 ⟨rfl, hb1⟩; have hE_w1 : Ext (w.alloc (.cells #[.int .u8 k1, .int .u32 ao1, .int .u32 av1, .int .u8 old1, .slice ba1 b1.length bc1, .slice aa1 a1.length ac1, .slice ra1 r1.length rc1, .int .u8 fl1] 83)) w1 := (by (repeat (with_reducible (first | exact Ext.refl _ | assumption | exact held_left (by assumption) | apply Ext.drewN | apply Ext.drew | apply Ext.alloc | (refine Ext.setCell ?_ (by first | (simp; done) | (simp; omega) | omega) _) | (refine Ext.trans ?_ (by assumption)) | (refine Ext.trans ?_ (held_left (by assumption))))))); obtain ⟨hc_w1, hf_w1⟩ := hE_w1.cells; have hz_w1 := hE_w1.size) | (go_at_call 77; refine (HOW.out _ (by (repeat (with_reducible (first | exact Ext.refl _ | assumption | exact held_left (by assumption) | apply Ext.drewN | apply Ext.drew | apply Ext.alloc | (refine Ext.setCell ?_ (by first | (simp; done) | (simp; omega) | omega) _) | (refine Ext.trans ?_ (by assumption)) | (refine Ext.trans ?_ (held_left (by assumption)))))))).mono ?_; rintro e w2 ⟨rfl, hb2⟩; (have hE_w2 : Ext (w.alloc (.cells #[.int .u8 k1, .int .u32 ao1, .int .u32 av1, .int .u8 old1, .slice ba1 b1.length bc1, .slice aa1 a1.length ac1, .slice ra1 r1.length rc1, .int .u8 fl1] 83)) w2 := (by (repeat (with_reducible (first | exact Ext.refl _ | assumption | exact held_left (by assumption) | apply Ext.drewN | apply Ext.drew | apply Ext.alloc | (refine Ext.setCell ?_ (by first | (simp; done) | (simp; omega) | omega) _) | (refine Ext.trans ?_ (by assumption)) | (refine Ext.trans ?_ (held_left (by assumption))))))); obtain ⟨hc_w2, hf_w2⟩ := hE_w2.cells; have hz_w2 := hE_w2.size)) | (go_at_call 78; refine (HTR.out _ (by (repeat (with_reducible (first | exact Ext.refl _ | assumption | exact held_left (by assumption) | apply Ext.drewN | apply Ext.drew | apply Ext.alloc | (refine Ext.setCell ?_ (by first | (simp; done) | (simp; omega) | omega) _) | (refine Ext.trans ?_ (by assumption)) | (refine Ext.trans ?_ (held_left (by assumption)))))))).mono ?_; rintro e w3 ⟨rfl, hb3⟩))
    go_ret
    exact ⟨ret_int HR.out.symm, by (repeat (with_reducible (first | exact Ext.refl _ | assumption | exact held_left (by assumption) | apply Ext.drewN | apply Ext.drew | apply Ext.alloc | (refine Ext.setCell ?_ (by first | (simp; done) | (simp; omega) | omega) _) | (refine Ext.trans ?_ (by assumption)) | (refine Ext.trans ?_ (held_left (by assumption))))))⟩
  have hr : rowedB k1 = true := decide_eq_true (by omega)
  have h7' : (k1 == 7) = false := by simpa using h7
  rw [hr] at HRW
  rw [if_neg (by rw [ho]; simp), if_neg h7] at HR0
  clear hr h0 h7 ho
  cases hg : getR ao1 av1 (ps.map RR.r) with
  | none =>
    have HR := Hid.mk' (show evE (⟨k1, ao1, av1, old1, b1, a1, r1, fl1⟩ : Ev) (ps.map RR.r) = 10 from by rw [HR0.out, hg])
    have hh : hasR ao1 av1 (ps.map RR.r) = false := getR_none.1 hg
    rw [hh] at HG
    clear hg hh HR0
    go_enter Tryz.func51, Tryz.ntmps51
    go_wp2_with (first | (go_at_call 76; refine (HRW.out _).mono ?_; rintro e w1 ⟨rfl, hb1⟩; have hE_w1 : Ext (w.alloc (.cells #[.int .u8 k1, .int .u32 ao1, .int .u32 av1, .int .u8 old1, .slice ba1 b1.length bc1, .slice aa1 a1.length ac1, .slice ra1 r1.length rc1, .int .u8 fl1] 83)) w1 := (by (repeat (with_reducible (first | exact Ext.refl _ | assumption | exact held_left (by assumption) | apply Ext.drewN | apply Ext.drew | apply Ext.alloc | (refine Ext.setCell ?_ (by first | (simp; done) | (simp; omega) | omega) _) | (refine Ext.trans ?_ (by assumption)) | (refine Ext.trans ?_ (held_left (by assumption))))))); obtain ⟨hc_w1, hf_w1⟩ := hE_w1.cells; have hz_w1 := hE_w1.size) | (go_at_call 77; refine (HOW.out _ (by (repeat (with_reducible (first | exact Ext.refl _ | assumption | exact held_left (by assumption) | apply Ext.drewN | apply Ext.drew | apply Ext.alloc | (refine Ext.setCell ?_ (by first | (simp; done) | (simp; omega) | omega) _) | (refine Ext.trans ?_ (by assumption)) | (refine Ext.trans ?_ (held_left (by assumption)))))))).mono ?_; rintro e w2 ⟨rfl, hb2⟩; (have hE_w2 : Ext (w.alloc (.cells #[.int .u8 k1, .int .u32 ao1, .int .u32 av1, .int .u8 old1, .slice ba1 b1.length bc1, .slice aa1 a1.length ac1, .slice ra1 r1.length rc1, .int .u8 fl1] 83)) w2 := (by (repeat (with_reducible (first | exact Ext.refl _ | assumption | exact held_left (by assumption) | apply Ext.drewN | apply Ext.drew | apply Ext.alloc | (refine Ext.setCell ?_ (by first | (simp; done) | (simp; omega) | omega) _) | (refine Ext.trans ?_ (by assumption)) | (refine Ext.trans ?_ (held_left (by assumption))))))); obtain ⟨hc_w2, hf_w2⟩ := hE_w2.cells; have hz_w2 := hE_w2.size)) | (go_at_call 33; refine (HG.out _ (by (repeat (with_reducible (first | exact Ext.refl _ | assumption | exact held_left (by assumption) | apply Ext.drewN | apply Ext.drew | apply Ext.alloc | (refine Ext.setCell ?_ (by first | (simp; done) | (simp; omega) | omega) _) | (refine Ext.trans ?_ (by assumption)) | (refine Ext.trans ?_ (held_left (by assumption)))))))).mono ?_; rintro e w3 ⟨⟨⟨oid, ver, nm, id, cols⟩, qa, qc⟩, rfl, -, -, hb3⟩; (try unfold RR.agg); (try simp only)))
    go_ret
    exact ⟨ret_int HR.out.symm, by (repeat (with_reducible (first | exact Ext.refl _ | assumption | exact held_left (by assumption) | apply Ext.drewN | apply Ext.drew | apply Ext.alloc | (refine Ext.setCell ?_ (by first | (simp; done) | (simp; omega) | omega) _) | (refine Ext.trans ?_ (by assumption)) | (refine Ext.trans ?_ (held_left (by assumption))))))⟩
  | some r =>
    have HR := Hid.mk' (show evE (⟨k1, ao1, av1, old1, b1, a1, r1, fl1⟩ : Ev) (ps.map RR.r) = imgE r k1 old1 b1 a1 from by rw [HR0.out, hg])
    have HGI2 := Hid.mk' (HGI.out r hg)
    have HM := Hid.mk' ((getR_some hg).1)
    have HIM2 := Hid.mk' (fun a2 c2 => HIM.out r a2 c2 HM.out)
    generalize imgE r k1 old1 b1 a1 = R at HR HIM2
    obtain ⟨oid, ver, nm, id, cols⟩ := r
    simp only at HGI2 HIM2
    clear hg HR0 HGI HG
    go_enter Tryz.func51, Tryz.ntmps51
    go_wp2_with (first
      | (go_at_call 76; refine (HRW.out _).mono ?_; rintro e w1 ⟨rfl, hb1⟩; have hE_w1 : Ext (w.alloc (.cells #[.int .u8 k1, .int .u32 ao1, .int .u32 av1, .int .u8 old1, .slice ba1 b1.length bc1, .slice aa1 a1.length ac1, .slice ra1 r1.length rc1, .int .u8 fl1] 83)) w1 := (by (repeat (with_reducible (first | exact Ext.refl _ | assumption | exact held_left (by assumption) | apply Ext.drewN | apply Ext.drew | apply Ext.alloc | (refine Ext.setCell ?_ (by first | (simp; done) | (simp; omega) | omega) _) | (refine Ext.trans ?_ (by assumption)) | (refine Ext.trans ?_ (held_left (by assumption))))))); obtain ⟨hc_w1, hf_w1⟩ := hE_w1.cells; have hz_w1 := hE_w1.size)
      | (go_at_call 77; refine (HOW.out _ (by (repeat (with_reducible (first | exact Ext.refl _ | assumption | exact held_left (by assumption) | apply Ext.drewN | apply Ext.drew | apply Ext.alloc | (refine Ext.setCell ?_ (by first | (simp; done) | (simp; omega) | omega) _) | (refine Ext.trans ?_ (by assumption)) | (refine Ext.trans ?_ (held_left (by assumption)))))))).mono ?_; rintro e w2 ⟨rfl, hb2⟩; (have hE_w2 : Ext (w.alloc (.cells #[.int .u8 k1, .int .u32 ao1, .int .u32 av1, .int .u8 old1, .slice ba1 b1.length bc1, .slice aa1 a1.length ac1, .slice ra1 r1.length rc1, .int .u8 fl1] 83)) w2 := (by (repeat (with_reducible (first | exact Ext.refl _ | assumption | exact held_left (by assumption) | apply Ext.drewN | apply Ext.drew | apply Ext.alloc | (refine Ext.setCell ?_ (by first | (simp; done) | (simp; omega) | omega) _) | (refine Ext.trans ?_ (by assumption)) | (refine Ext.trans ?_ (held_left (by assumption))))))); obtain ⟨hc_w2, hf_w2⟩ := hE_w2.cells; have hz_w2 := hE_w2.size))
      | (go_at_call 33; refine (HGI2.out _ (by (repeat (with_reducible (first | exact Ext.refl _ | assumption | exact held_left (by assumption) | apply Ext.drewN | apply Ext.drew | apply Ext.alloc | (refine Ext.setCell ?_ (by first | (simp; done) | (simp; omega) | omega) _) | (refine Ext.trans ?_ (by assumption)) | (refine Ext.trans ?_ (held_left (by assumption)))))))).mono ?_; rintro e w3 ⟨⟨qr, qa, qc⟩, rfl, hqr, hqo, hb3⟩; simp only at hqr; subst hqr; have HQO := Hid.mk' hqo; (have hE_w3 : Ext (w.alloc (.cells #[.int .u8 k1, .int .u32 ao1, .int .u32 av1, .int .u8 old1, .slice ba1 b1.length bc1, .slice aa1 a1.length ac1, .slice ra1 r1.length rc1, .int .u8 fl1] 83)) w3 := (by (repeat (with_reducible (first | exact Ext.refl _ | assumption | exact held_left (by assumption) | apply Ext.drewN | apply Ext.drew | apply Ext.alloc | (refine Ext.setCell ?_ (by first | (simp; done) | (simp; omega) | omega) _) | (refine Ext.trans ?_ (by assumption)) | (refine Ext.trans ?_ (held_left (by assumption))))))); obtain ⟨hc_w3, hf_w3⟩ := hE_w3.cells; have hz_w3 := hE_w3.size); have z3 : w.heap.size < w3.heap.size := (by have := hE_w3.size; simp at this; omega); clear hqo; (try simp only))
      | (go_at_call 79; refine (HIM2.out _ _ _ (by (repeat (with_reducible (first | exact Ext.refl _ | assumption | exact held_left (by assumption) | apply Ext.drewN | apply Ext.drew | apply Ext.alloc | (refine Ext.setCell ?_ (by first | (simp; done) | (simp; omega) | omega) _) | (refine Ext.trans ?_ (by assumption)) | (refine Ext.trans ?_ (held_left (by assumption))))))) (HQO.out.in.ext (by (repeat (with_reducible (first | exact Ext.refl _ | assumption | exact held_left (by assumption) | apply Ext.drewN | apply Ext.drew | apply Ext.alloc | (refine Ext.setCell ?_ (by first | (simp; done) | (simp; omega) | omega) _) | (refine Ext.trans ?_ (by assumption)) | (refine Ext.trans ?_ (held_left (by assumption)))))))) (owns_cap HQO.out)).mono ?_; rintro e w4 ⟨rfl, hb4⟩))
    go_ret
    exact ⟨ret_int HR.out.symm, by (repeat (with_reducible (first | exact Ext.refl _ | assumption | exact held_left (by assumption) | apply Ext.drewN | apply Ext.drew | apply Ext.alloc | (refine Ext.setCell ?_ (by first | (simp; done) | (simp; omega) | omega) _) | (refine Ext.trans ?_ (by assumption)) | (refine Ext.trans ?_ (held_left (by assumption))))))⟩

end Go.Proofs.YthdjinicmnhgpaaGreatDoor

/-
What is wrong with a transaction: the program's answer.
-/
namespace Go.Proofs.YthdjinicmnhgpaaGreatDoor
open Go.RowKit

noncomputable def evAt (es : List Ev) (l : List Rl) (i : Nat) : Int := if h : i < es.length then evE es[i] l else 0
noncomputable def rtE (t : Tx) (l : List Rl) : Int := if t.xid = 0 then 4 else if 512 < t.es.length then 8 else firstE (evAt t.es l) t.es.length
noncomputable def rtP (t : Tx) (l : List Rl) : Int := if t.xid = 0 then -1 else if 512 < t.es.length then -1 else if firstE (evAt t.es l) t.es.length = 0 then -1 else (plE (evAt t.es l) t.es.length : Nat)
theorem evAt_map {es : List EL} {l : List Rl} {k : Nat} (h : k < es.length) : evAt (es.map EL.e) l k = evE es[k].e l := by
  unfold evAt
  rw [dif_pos (by simpa using h), List.getElem_map]
theorem rt_ok {t : Tx} {l : List Rl} (h0 : t.xid ≠ 0) (h1 : t.es.length ≤ 512) (hz : ∀ j, j < t.es.length → evAt t.es l j = 0) : rtE t l = 0 ∧ rtP t l = -1 := by
  have e := firstE_zero hz
  unfold rtE rtP
  rw [if_neg h0, if_neg (by omega), if_neg h0, if_neg (by omega), e, if_pos rfl]
  exact ⟨rfl, rfl⟩
theorem rt_bad {t : Tx} {l : List Rl} {k : Nat} (h0 : t.xid ≠ 0) (h1 : t.es.length ≤ 512) (hk : k < t.es.length) (hz : ∀ j, j < k → evAt t.es l j = 0) (hn : evAt t.es l k ≠ 0) : rtE t l = evAt t.es l k ∧ rtP t l = k := by
  have e := firstE_at hz hk hn
  have p := plE_at hz hn hk
  unfold rtE rtP
  rw [if_neg h0, if_neg (by omega), if_neg h0, if_neg (by omega), e, if_neg hn, p]
  exact ⟨rfl, rfl⟩

set_option maxRecDepth 100000 in set_option maxHeartbeats 4000000 in
theorem txright_any (t : TL) (N g : Nat) (c : Value) (ps : List RR) (w : World) (ht : t.at 5 K.pc w) (hn : t.es.length ≤ 1000) (hs : ∀ e ∈ t.es, e.e.small) (hwk : ∀ e ∈ t.es, e.e.wk) (hc : Ca w N g c ps) :
    Calls Tryz.prog 28 #[t.agg, .pointer (some ⟨g, 0, none⟩)] w fun e w' => e = .returned (.tuple #[.int .i64 (rtP t.t (ps.map RR.r)), .int .i64 (rtE t.t (ps.map RR.r))]) ∧ Ext w w' := by
  have HT := Hid.mk' ht
  have HER := Hid.mk' (fun x (hx : x ∈ t.es) W (h : Ext w W) => eright_any x N g c ps W ((ht.sl x hx).ext h) (hs x hx) (hwk x hx) (hc.ext h))
  clear ht hs hwk hc
  obtain ⟨xid, st, es, ta, tc⟩ := t
  unfold TL.agg TL.t
  simp only at HER hn ⊢
  have HT2 : Hid (ES 5 K.pc w (.slice ta es.length tc) es) := HT
  clear HT
  by_cases h0 : xid = 0
  · subst h0
    have HR := Hid.mk' (show rtE ⟨0, st, es.map EL.e⟩ (ps.map RR.r) = 4 ∧ rtP ⟨0, st, es.map EL.e⟩ (ps.map RR.r) = -1 from ⟨if_pos rfl, if_pos rfl⟩)
    go_enter Tryz.func28, Tryz.ntmps28
    go_wp2
    go_ret2
    exact ⟨by rw [HR.out.1, HR.out.2]; rfl, by (repeat (with_reducible (first | exact Ext.refl _ | assumption | exact held_left (by assumption) | apply Ext.drewN | apply Ext.drew | apply Ext.alloc | (refine Ext.setCell ?_ (by first | (simp; done) | (simp; omega) | omega) _) | (refine Ext.trans ?_ (by assumption)) | (refine Ext.trans ?_ (held_left (by assumption))))))⟩
  have h0' : (xid == 0) = false := by simpa using h0
  have H0 := Hid.mk' h0
  clear h0
  by_cases h5 : 512 < es.length
  · have HR := Hid.mk' (show rtE (⟨xid, st, es.map EL.e⟩ : Tx) (ps.map RR.r) = 8 ∧ rtP (⟨xid, st, es.map EL.e⟩ : Tx) (ps.map RR.r) = -1 from ⟨by unfold rtE; rw [if_neg H0.out, if_pos (by simpa using h5)], by unfold rtP; rw [if_neg H0.out, if_pos (by simpa using h5)]⟩)
    go_enter Tryz.func28, Tryz.ntmps28
    go_wp2
    go_ret2
    exact ⟨by rw [HR.out.1, HR.out.2]; rfl, by (repeat (with_reducible (first | exact Ext.refl _ | assumption | exact held_left (by assumption) | apply Ext.drewN | apply Ext.drew | apply Ext.alloc | (refine Ext.setCell ?_ (by first | (simp; done) | (simp; omega) | omega) _) | (refine Ext.trans ?_ (by assumption)) | (refine Ext.trans ?_ (held_left (by assumption))))))⟩
  have HL5 := Hid.mk' (show (⟨xid, st, es.map EL.e⟩ : Tx).es.length ≤ 512 by simp only [List.length_map]; omega)
  go_enter Tryz.func28, Tryz.ntmps28
  go_wp2
  go_loopw [21] (fun i wr => ∃ k : Nat, k ≤ es.length ∧ i = .int .i64 k ∧ Hid (∀ j, j < k → evAt (es.map EL.e) (ps.map RR.r) j = 0) ∧ Hid (Ext w wr)) (fun i _ => es.length - (intOf i).toNat)
  case atStart => exact ⟨0, Nat.zero_le _, rfl, Hid.mk' (fun j h => by omega), Hid.mk' (by (repeat (with_reducible (first | exact Ext.refl _ | assumption | exact held_left (by assumption) | apply Ext.drewN | apply Ext.drew | apply Ext.alloc | (refine Ext.setCell ?_ (by first | (simp; done) | (simp; omega) | omega) _) | (refine Ext.trans ?_ (by assumption)) | (refine Ext.trans ?_ (held_left (by assumption)))))))⟩
  case round =>
    obtain ⟨k, hk, rfl, hz, hE⟩ := hrel
    by_cases hlt : k < es.length
    · obtain ⟨b, o, rfl, hb, hx⟩ := HT2.out.row.at_ (i := k) (by simpa using hlt)
      obtain ⟨g0, g1, g2, g3, g4, g5, g6, g7⟩ := EL.at_ hlt hx hb hE.out
      have hbw : b < wr.heap.size := Nat.lt_of_lt_of_le hb hE.out.size
      have HEK := Hid.mk' (HER.out _ (List.getElem_mem hlt))
      have HAT := Hid.mk' (evAt_map (l := ps.map RR.r) hlt)
      obtain ⟨x, hxx⟩ : ∃ x, x = es[k] := ⟨_, rfl⟩
      rw [← hxx] at g0 g1 g2 g3 g4 g5 g6 g7 HEK HAT
      have HLT := Hid.mk' hlt
      clear hxx hx
      obtain ⟨⟨k1, ao1, av1, old1, b1, a1, r1, fl1⟩, ba1, bc1, aa1, ac1, ra1, rc1⟩ := x
      unfold EL.agg at HEK
      simp only at g0 g1 g2 g3 g4 g5 g6 g7 HEK HAT
      obtain ⟨E, hEE⟩ : ∃ E, E = evE ⟨k1, ao1, av1, old1, b1, a1, r1, fl1⟩ (ps.map RR.r) := ⟨_, rfl⟩
      rw [← hEE] at HEK HAT
      clear hEE
      by_cases hE0 : E = 0
      · subst hE0
        go_wp2_with (go_at_call 51; refine (HEK.out _ (hE.out.trans (by (repeat (with_reducible (first | exact Ext.refl _ | assumption | exact held_left (by assumption) | apply Ext.drewN | apply Ext.drew | apply Ext.alloc | (refine Ext.setCell ?_ (by first | (simp; done) | (simp; omega) | omega) _) | (refine Ext.trans ?_ (by assumption)) | (refine Ext.trans ?_ (held_left (by assumption))))))))).mono ?_; rintro e w2 ⟨rfl, hb2⟩)
        go_roundw
        case rel => exact ⟨k + 1, by omega, by go_num, Hid.mk' (fun j hj => by
          by_cases e : j = k
          · subst e; exact HAT.out
          · exact hz.out j (by omega)), Hid.mk' (hE.out.trans (by (repeat (with_reducible (first | exact Ext.refl _ | assumption | exact held_left (by assumption) | apply Ext.drewN | apply Ext.drew | apply Ext.alloc | (refine Ext.setCell ?_ (by first | (simp; done) | (simp; omega) | omega) _) | (refine Ext.trans ?_ (by assumption)) | (refine Ext.trans ?_ (held_left (by assumption))))))))⟩
        case measure => simp [intOf]; omega
      · have hE1 : (E != 0) = true := by simpa using hE0
        have HR := Hid.mk' (rt_bad (t := (⟨xid, st, es.map EL.e⟩ : Tx)) (l := ps.map RR.r) H0.out HL5.out (by simpa using HLT.out) hz.out (by rw [show (⟨xid, st, es.map EL.e⟩ : Tx).es = es.map EL.e from rfl, HAT.out]; exact hE0))
        rw [show (⟨xid, st, es.map EL.e⟩ : Tx).es = es.map EL.e from rfl, HAT.out] at HR
        clear hE0
        go_wp2_with (go_at_call 51; refine (HEK.out _ (hE.out.trans (by (repeat (with_reducible (first | exact Ext.refl _ | assumption | exact held_left (by assumption) | apply Ext.drewN | apply Ext.drew | apply Ext.alloc | (refine Ext.setCell ?_ (by first | (simp; done) | (simp; omega) | omega) _) | (refine Ext.trans ?_ (by assumption)) | (refine Ext.trans ?_ (held_left (by assumption))))))))).mono ?_; rintro e w2 ⟨rfl, hb2⟩)
        go_ret2
        exact ⟨by rw [HR.out.1, HR.out.2]; rfl, hE.out.trans (by (repeat (with_reducible (first | exact Ext.refl _ | assumption | exact held_left (by assumption) | apply Ext.drewN | apply Ext.drew | apply Ext.alloc | (refine Ext.setCell ?_ (by first | (simp; done) | (simp; omega) | omega) _) | (refine Ext.trans ?_ (by assumption)) | (refine Ext.trans ?_ (held_left (by assumption)))))))⟩
    · have HR := Hid.mk' (rt_ok (t := (⟨xid, st, es.map EL.e⟩ : Tx)) (l := ps.map RR.r) H0.out HL5.out (fun j hj => hz.out j (by simp at hj; omega)))
      go_wp2
      go_ret2
      exact ⟨by rw [HR.out.1, HR.out.2]; rfl, hE.out⟩

end Go.Proofs.YthdjinicmnhgpaaGreatDoor

/-
Faults' texts in plain words: numbers' texts, words joined.
-/
namespace Go.Proofs.YthdjinicmnhgpaaGreatDoor
open Go.RowKit

/-- A text of bytes. -/
def txt (l : List UInt8) : ByteArray := ⟨l.toArray⟩
theorem txt_app (a b : List UInt8) : txt a ++ txt b = txt (a ++ b) := by
  apply ByteArray.ext
  simp [txt]
theorem dec_lt {n : Nat} (h : n < 10) : Lib.decDigits n = [UInt8.ofNat (48 + n)] := by
  unfold Lib.decDigits; rw [dif_pos h]
theorem dec_ge {n : Nat} (h : ¬ n < 10) : Lib.decDigits n = Lib.decDigits (n / 10) ++ [UInt8.ofNat (48 + n % 10)] := by
  conv => lhs; unfold Lib.decDigits
  rw [dif_neg h]
theorem dec_len : ∀ (d n : Nat), n < 10 ^ d → (Lib.decDigits n).length ≤ d + 1 := by
  intro d
  induction d with
  | zero => intro n h; rw [dec_lt (by simpa using Nat.lt_of_lt_of_le h (by decide : 10 ^ 0 ≤ 10))]; simp
  | succ d ih =>
    intro n h
    by_cases h0 : n < 10
    · rw [dec_lt h0]; simp
    · rw [dec_ge h0, List.length_append]
      have h1 : n / 10 < 10 ^ d := by rw [Nat.pow_succ] at h; omega
      have := ih _ h1
      simp only [List.length_singleton]; omega
theorem dec_len64 {n : Nat} (h : n < 18446744073709551616) : (Lib.decDigits n).length ≤ 21 := by
  have e : (10 : Nat) ^ 20 = 100000000000000000000 := by decide
  exact dec_len 20 n (by omega)
theorem itoa_len {v : Int} (h0 : -9223372036854775808 ≤ v) (h1 : v ≤ 9223372036854775807) : (Lib.itoa v).length ≤ 22 := by
  have e : (10 : Nat) ^ 20 = 100000000000000000000 := by decide
  unfold Lib.itoa
  split
  · have := dec_len 20 v.natAbs (by omega)
    simp only [List.length_cons]; omega
  · have := dec_len 20 v.toNat (by omega)
    omega

/-- A fault's text. -/
def wTx : List UInt8 := [116, 114, 97, 110, 115, 97, 99, 116, 105, 111, 110]
def wEv : List UInt8 := [101, 118, 101, 110, 116]
def wEr : List UInt8 := [101, 114, 114, 111, 114]
def faultT (tx ev er : Int) : List UInt8 :=
  if er = 0 then [102, 105, 110, 101]
  else if ev = -1 then Lib.join [wTx, Lib.itoa tx, wEr, Lib.itoa er] [32]
  else Lib.join [wTx, Lib.itoa tx, wEv, Lib.itoa ev, wEr, Lib.itoa er] [32]
theorem join4 (a b c d : List UInt8) : Lib.join [a, b, c, d] [32] = a ++ [32] ++ b ++ [32] ++ c ++ [32] ++ d := by
  rw [Lib.join_cons]
  simp [Lib.joinTail]
theorem join6 (a b c d e f : List UInt8) : Lib.join [a, b, c, d, e, f] [32] = a ++ [32] ++ b ++ [32] ++ c ++ [32] ++ d ++ [32] ++ e ++ [32] ++ f := by
  rw [Lib.join_cons]
  simp [Lib.joinTail]

end Go.Proofs.YthdjinicmnhgpaaGreatDoor
