/-
Whether two lists of relations are the same: the reference's, the program's.
-/
import Derived.ProofKit
import Derived.OpenShut
import Derived.Deep.Slices
import Derived.Carry
import Derived.SizedLaws
import Derived.Test.YthdjinicmnhgpaaP6
namespace Go.Proofs.Ythdjinicmnhgpaa
open Go.RowKit

set_option maxRecDepth 100000 in set_option maxHeartbeats 2000000 in
theorem rsame8_any (p q : RR) (w : World) (hp : p.in w) (hq : q.in w) (hlen : p.r.cols.length ≤ 1000) (hlen2 : q.r.cols.length ≤ 9223372036854775807) :
    Calls Try.prog 22 #[p.agg, q.agg] w fun e w' => e = .returned (.bool (rlB p.r q.r)) ∧ Ext w w' := by
  obtain ⟨⟨o1, v1, n1, i1, c1⟩, a1, k1⟩ := p
  obtain ⟨⟨o2, v2, n2, i2, c2⟩, a2, k2⟩ := q
  unfold RR.agg
  unfold RR.in at hp hq
  simp only at hp hq hlen hlen2 ⊢
  have HL := Hid.mk' hp
  have HM := Hid.mk' hq
  have hc := rl_cases (⟨o1, v1, n1, i1, c1⟩ : Rl) (⟨o2, v2, n2, i2, c2⟩ : Rl)
  simp only at hc
  clear hp hq
  obtain ⟨R, hR⟩ : ∃ R, R = rlB (⟨o1, v1, n1, i1, c1⟩ : Rl) (⟨o2, v2, n2, i2, c2⟩ : Rl) := ⟨_, rfl⟩
  rw [← hR] at hc ⊢
  clear hR
  rcases hc with ⟨h1, h0⟩ | ⟨rfl, h1, h0⟩ | ⟨rfl, rfl, h1, h0⟩ | ⟨rfl, rfl, rfl, h1, h0⟩ | ⟨rfl, rfl, rfl, rfl, h0⟩
  · have e1 : (o1 == o2) = false := by simpa using h1
    have H0 := Hid.mk' h0
    clear h0 h1
    go_enter Try.func22, Try.ntmps22
    go_wp2
    go_ret
    exact ⟨ret_bool H0.out.symm, by (repeat (with_reducible (first | exact Ext.refl _ | assumption | exact held_left (by assumption) | apply Ext.drewN | apply Ext.drew | apply Ext.alloc | (refine Ext.setCell ?_ (by first | (simp; done) | (simp; omega) | omega) _) | (refine Ext.trans ?_ (by assumption)) | (refine Ext.trans ?_ (held_left (by assumption))))))⟩
  · have e1 : (v1 == v2) = false := by simpa using h1
    have H0 := Hid.mk' h0
    clear h0 h1
    go_enter Try.func22, Try.ntmps22
    go_wp2
    go_ret
    exact ⟨ret_bool H0.out.symm, by (repeat (with_reducible (first | exact Ext.refl _ | assumption | exact held_left (by assumption) | apply Ext.drewN | apply Ext.drew | apply Ext.alloc | (refine Ext.setCell ?_ (by first | (simp; done) | (simp; omega) | omega) _) | (refine Ext.trans ?_ (by assumption)) | (refine Ext.trans ?_ (held_left (by assumption))))))⟩
  · have e1 : (n1.toList == n2.toList) = false := by rw [str_beq2]; exact decide_eq_false h1
    have e2 : (n1.toList != n2.toList) = true := by unfold bne; rw [e1]; rfl
    have H0 := Hid.mk' h0
    clear h0 h1
    go_enter Try.func22, Try.ntmps22
    go_wp2
    go_ret
    exact ⟨ret_bool H0.out.symm, by (repeat (with_reducible (first | exact Ext.refl _ | assumption | exact held_left (by assumption) | apply Ext.drewN | apply Ext.drew | apply Ext.alloc | (refine Ext.setCell ?_ (by first | (simp; done) | (simp; omega) | omega) _) | (refine Ext.trans ?_ (by assumption)) | (refine Ext.trans ?_ (held_left (by assumption))))))⟩
  · have e1 : (i1 != i2) = true := by simpa using h1
    have H0 := Hid.mk' h0
    clear h0 h1
    go_enter Try.func22, Try.ntmps22
    go_wp2
    go_ret
    exact ⟨ret_bool H0.out.symm, by (repeat (with_reducible (first | exact Ext.refl _ | assumption | exact held_left (by assumption) | apply Ext.drewN | apply Ext.drew | apply Ext.alloc | (refine Ext.setCell ?_ (by first | (simp; done) | (simp; omega) | omega) _) | (refine Ext.trans ?_ (by assumption)) | (refine Ext.trans ?_ (held_left (by assumption))))))⟩
  by_cases hn : c1.length = c2.length
  case neg =>
    have hn' : (((c1.length : Nat) : Int) != ((c2.length : Nat) : Int)) = true := by simp; omega
    have H0 := Hid.mk' (h0.trans (colsB_false.2 (fun h => hn (by rw [h]))))
    clear h0 hn
    go_enter Try.func22, Try.ntmps22
    go_wp2
    go_ret
    exact ⟨ret_bool H0.out.symm, by (repeat (with_reducible (first | exact Ext.refl _ | assumption | exact held_left (by assumption) | apply Ext.drewN | apply Ext.drew | apply Ext.alloc | (refine Ext.setCell ?_ (by first | (simp; done) | (simp; omega) | omega) _) | (refine Ext.trans ?_ (by assumption)) | (refine Ext.trans ?_ (held_left (by assumption))))))⟩
  have hn' : (((c1.length : Nat) : Int) != ((c2.length : Nat) : Int)) = false := by simp; omega
  have H0 := Hid.mk' h0
  have HN := Hid.mk' hn
  clear h0 hn
  go_enter Try.func22, Try.ntmps22
  go_wp2
  go_loopw [5] (fun i wr => ∃ k : Nat, k ≤ c1.length ∧ i = .int .i64 k ∧ Hid (∀ j (h1 : j < c1.length) (h2 : j < c2.length), j < k → c1[j] = c2[j]) ∧ Hid (Ext ((w.alloc (.cells #[.int .u32 o1, .int .u32 v1, .string n1, .int .u8 i1, .slice a1 c1.length k1] 49)).alloc (.cells #[.int .u32 o1, .int .u32 v1, .string n1, .int .u8 i1, .slice a2 c2.length k2] 49)) wr)) (fun i _ => c1.length - (intOf i).toNat)
  case atStart => exact ⟨0, Nat.zero_le _, rfl, fun j _ _ h => by omega, Hid.mk' (Ext.refl _)⟩
  case round =>
    obtain ⟨k, hk, rfl, hrel, hE⟩ := hrel
    have HEW := Hid.mk' ((((Ext.refl w).alloc (.cells #[.int .u32 o1, .int .u32 v1, .string n1, .int .u8 i1, .slice a1 c1.length k1] 49)).alloc (.cells #[.int .u32 o1, .int .u32 v1, .string n1, .int .u8 i1, .slice a2 c2.length k2] 49)).trans hE.out)
    have HB0 := Hid.mk' (((Blk.new w #[.int .u32 o1, .int .u32 v1, .string n1, .int .u8 i1, .slice a1 c1.length k1] 49).alloc (.cells #[.int .u32 o1, .int .u32 v1, .string n1, .int .u8 i1, .slice a2 c2.length k2] 49)).ext hE.out)
    have HB1 := Hid.mk' ((Blk.new' (w := w.alloc (.cells #[.int .u32 o1, .int .u32 v1, .string n1, .int .u8 i1, .slice a1 c1.length k1] 49)) (b := w.heap.size + 1) #[.int .u32 o1, .int .u32 v1, .string n1, .int .u8 i1, .slice a2 c2.length k2] 49 (by simp)).ext hE.out)
    have g0 := HB0.out.cell
    have z0 := HB0.out.lt
    have g1 := HB1.out.cell
    have z1 := HB1.out.lt
    by_cases hlt : k < c1.length
    · have hlt2 : k < c2.length := by have := HN.out; omega
      obtain ⟨b1, q1, rfl, hb1, hx1⟩ := HL.out.at_ (i := k) (by simpa using hlt)
      obtain ⟨f0, f1, f2⟩ := Col.at_ hlt hx1 hb1 HEW.out
      obtain ⟨b2, q2, rfl, hb2, hx2⟩ := HM.out.at_ (i := k) (by simpa using hlt2)
      obtain ⟨p0, p1, p2⟩ := Col.at_ hlt2 hx2 hb2 HEW.out
      have hbw : b1 < wr.heap.size := Nat.lt_of_lt_of_le hb1 HEW.out.size
      have hbw2 : b2 < wr.heap.size := Nat.lt_of_lt_of_le hb2 HEW.out.size
      have hNq := fun w => neq_rcol c1[k] c2[k] w
      cases hA : colB c1[k] c2[k] with
      | true =>
        rw [hA] at hNq
        have HA := Hid.mk' (colB_true.1 hA)
        clear hA hx1 hx2
        go_wp2
        go_region_held3 (fun w' => Ext (wr) w' ∧ (∀ b o, b < (wr).heap.size → w'.cell? ⟨b, o, none⟩ = (wr).cell? ⟨b, o, none⟩) ∧ (∀ b o, b < (wr).heap.size → w'.frozen? ⟨b, o, none⟩ = (wr).frozen? ⟨b, o, none⟩)) ((exact held_of (by (repeat (with_reducible (first | exact Ext.refl _ | assumption | exact held_left (by assumption) | apply Ext.drewN | apply Ext.drew | apply Ext.alloc | (refine Ext.setCell ?_ (by first | (simp; done) | (simp; omega) | omega) _) | (refine Ext.trans ?_ (by assumption)) | (refine Ext.trans ?_ (held_left (by assumption))))))))) (fail)
        go_wp2
        go_roundw
        case rel => exact ⟨k + 1, by omega, by go_num, fun j h1 h2 hjk => by
          by_cases e : j = k
          · subst e; exact HA.out
          · exact hrel.out j h1 h2 (by omega), Hid.mk' (hE.out.trans (by (repeat (with_reducible (first | exact Ext.refl _ | assumption | exact held_left (by assumption) | apply Ext.drewN | apply Ext.drew | apply Ext.alloc | (refine Ext.setCell ?_ (by first | (simp; done) | (simp; omega) | omega) _) | (refine Ext.trans ?_ (by assumption)) | (refine Ext.trans ?_ (held_left (by assumption))))))))⟩
        case measure => simp [intOf]; omega
      | false =>
        rw [hA] at hNq
        have HR := Hid.mk' (H0.out.trans (show colsB c1 c2 = false from colsB_false.2 (fun h => by subst h; rw [colB_true.2 rfl] at hA; cases hA)))
        clear hA hx1 hx2
        go_wp2
        go_region_held3 (fun w' => Ext (wr) w' ∧ (∀ b o, b < (wr).heap.size → w'.cell? ⟨b, o, none⟩ = (wr).cell? ⟨b, o, none⟩) ∧ (∀ b o, b < (wr).heap.size → w'.frozen? ⟨b, o, none⟩ = (wr).frozen? ⟨b, o, none⟩)) ((exact held_of (by (repeat (with_reducible (first | exact Ext.refl _ | assumption | exact held_left (by assumption) | apply Ext.drewN | apply Ext.drew | apply Ext.alloc | (refine Ext.setCell ?_ (by first | (simp; done) | (simp; omega) | omega) _) | (refine Ext.trans ?_ (by assumption)) | (refine Ext.trans ?_ (held_left (by assumption))))))))) (fail)
        go_wp2
        go_ret
        exact ⟨ret_bool HR.out.symm, HEW.out.trans (by (repeat (with_reducible (first | exact Ext.refl _ | assumption | exact held_left (by assumption) | apply Ext.drewN | apply Ext.drew | apply Ext.alloc | (refine Ext.setCell ?_ (by first | (simp; done) | (simp; omega) | omega) _) | (refine Ext.trans ?_ (by assumption)) | (refine Ext.trans ?_ (held_left (by assumption)))))))⟩
    · have hkk : k = c1.length := by omega
      have HR := Hid.mk' (H0.out.trans (show colsB c1 c2 = true from colsB_true.2 (List.ext_getElem HN.out (fun i h1 h2 => hrel.out i h1 h2 (by omega)))))
      subst hkk
      go_wp2
      go_ret
      exact ⟨ret_bool HR.out.symm, HEW.out⟩

theorem rls_ext {a b : List RR} (h0 : a.length = b.length) (h : ∀ i (h1 : i < a.length) (h2 : i < b.length), a[i].r = b[i].r) : a.map RR.r = b.map RR.r :=
  List.ext_getElem (by simpa using h0) (fun i h1 h2 => by rw [List.getElem_map, List.getElem_map]; exact h i (by simpa using h1) (by simpa using h2))

set_option maxRecDepth 100000 in set_option maxHeartbeats 2000000 in
theorem rsame9_any (ps qs : List RR) (a b : Option Addr) (ca cb : Nat) (w : World) (hl : RL w (.slice a ps.length ca) ps) (hm : RL w (.slice b qs.length cb) qs) (hlen : ps.length ≤ 1000) (h16 : ∀ p ∈ ps, p.r.cols.length ≤ 1000) (h17 : ∀ p ∈ qs, p.r.cols.length ≤ 9223372036854775807) :
    Calls Try.prog 17 #[.slice a ps.length ca, .slice b qs.length cb] w fun e w' => e = .returned (.bool (rlsB (ps.map RR.r) (qs.map RR.r))) ∧ Ext w w' := by
  have HL := Hid.mk' hl
  have HM := Hid.mk' hm
  have H16 := Hid.mk' h16
  have H17 := Hid.mk' h17
  clear hl hm h16 h17
  by_cases hn : ps.length = qs.length
  case neg =>
    have hn' : (((ps.length : Nat) : Int) != ((qs.length : Nat) : Int)) = true := by simp; omega
    have HR := Hid.mk' (show rlsB (ps.map RR.r) (qs.map RR.r) = false from rlsB_false.2 (fun h => hn (by have := congrArg List.length h; simpa using this)))
    clear hn
    go_enter Try.func17, Try.ntmps17
    go_wp2
    go_ret
    exact ⟨ret_bool HR.out.symm, by (repeat (with_reducible (first | exact Ext.refl _ | assumption | exact held_left (by assumption) | apply Ext.drewN | apply Ext.drew | apply Ext.alloc | (refine Ext.setCell ?_ (by first | (simp; done) | (simp; omega) | omega) _) | (refine Ext.trans ?_ (by assumption)) | (refine Ext.trans ?_ (held_left (by assumption))))))⟩
  have hn' : (((ps.length : Nat) : Int) != ((qs.length : Nat) : Int)) = false := by simp; omega
  have HN := Hid.mk' hn
  clear hn
  go_enter Try.func17, Try.ntmps17
  go_wp2
  go_loopw [5] (fun i wr => ∃ k : Nat, k ≤ ps.length ∧ i = .int .i64 k ∧ Hid (∀ j (h1 : j < ps.length) (h2 : j < qs.length), j < k → ps[j].r = qs[j].r) ∧ Hid (Ext w wr)) (fun i _ => ps.length - (intOf i).toNat)
  case atStart => exact ⟨0, Nat.zero_le _, rfl, fun j _ _ h => by omega, Hid.mk' (Ext.refl _)⟩
  case round =>
    obtain ⟨k, hk, rfl, hrel, hE⟩ := hrel
    by_cases hlt : k < ps.length
    · have hlt2 : k < qs.length := by have := HN.out; omega
      obtain ⟨b1, q1, rfl, hb1, hx1⟩ := HL.out.row.at_ (i := k) (by simpa using hlt)
      obtain ⟨f0, f1, f2, f3, f4⟩ := RR.at_ hlt hx1 hb1 hE.out
      obtain ⟨b2, q2, rfl, hb2, hx2⟩ := HM.out.row.at_ (i := k) (by simpa using hlt2)
      obtain ⟨p0, p1, p2, p3, p4⟩ := RR.at_ hlt2 hx2 hb2 hE.out
      have hbw : b1 < wr.heap.size := Nat.lt_of_lt_of_le hb1 hE.out.size
      have hbw2 : b2 < wr.heap.size := Nat.lt_of_lt_of_le hb2 hE.out.size
      have HS := Hid.mk' (fun W (h : Ext w W) => rsame8_any ps[k] qs[k] W ((HL.out.sl _ (List.getElem_mem hlt)).ext h) ((HM.out.sl _ (List.getElem_mem hlt2)).ext h) (H16.out _ (List.getElem_mem hlt)) (H17.out _ (List.getElem_mem hlt2)))
      unfold RR.agg at HS
      cases hA : rlB ps[k].r qs[k].r with
      | true =>
        rw [hA] at HS
        have HA := Hid.mk' (rlB_true.1 hA)
        clear hA hx1 hx2
        go_wp2
        go_region_held3 (fun w' => Ext (wr) w' ∧ (∀ b o, b < (wr).heap.size → w'.cell? ⟨b, o, none⟩ = (wr).cell? ⟨b, o, none⟩) ∧ (∀ b o, b < (wr).heap.size → w'.frozen? ⟨b, o, none⟩ = (wr).frozen? ⟨b, o, none⟩)) ((exact held_of (by (repeat (with_reducible (first | exact Ext.refl _ | assumption | exact held_left (by assumption) | apply Ext.drewN | apply Ext.drew | apply Ext.alloc | (refine Ext.setCell ?_ (by first | (simp; done) | (simp; omega) | omega) _) | (refine Ext.trans ?_ (by assumption)) | (refine Ext.trans ?_ (held_left (by assumption))))))))) (first | (go_at_call 22; refine (HS.out _ (hE.out.trans (by (repeat (with_reducible (first | exact Ext.refl _ | assumption | exact held_left (by assumption) | apply Ext.drewN | apply Ext.drew | apply Ext.alloc | (refine Ext.setCell ?_ (by first | (simp; done) | (simp; omega) | omega) _) | (refine Ext.trans ?_ (by assumption)) | (refine Ext.trans ?_ (held_left (by assumption))))))))).mono ?_; rintro e w2 ⟨rfl, hb2⟩))
        go_wp2
        go_roundw
        case rel => exact ⟨k + 1, by omega, by go_num, fun j h1 h2 hjk => by
          by_cases e : j = k
          · subst e; exact HA.out
          · exact hrel.out j h1 h2 (by omega), Hid.mk' (hE.out.trans (by (repeat (with_reducible (first | exact Ext.refl _ | assumption | exact held_left (by assumption) | apply Ext.drewN | apply Ext.drew | apply Ext.alloc | (refine Ext.setCell ?_ (by first | (simp; done) | (simp; omega) | omega) _) | (refine Ext.trans ?_ (by assumption)) | (refine Ext.trans ?_ (held_left (by assumption))))))))⟩
        case measure => simp [intOf]; omega
      | false =>
        rw [hA] at HS
        have HR := Hid.mk' (show rlsB (ps.map RR.r) (qs.map RR.r) = false from rlsB_false.2 (fun h => rlB_false.1 hA (by
          have := congrArg (fun l => l[k]?) h
          simp only [List.getElem?_map, List.getElem?_eq_getElem hlt, List.getElem?_eq_getElem hlt2, Option.map_some] at this
          exact Option.some.inj this)))
        clear hA hx1 hx2
        go_wp2
        go_region_held3 (fun w' => Ext (wr) w' ∧ (∀ b o, b < (wr).heap.size → w'.cell? ⟨b, o, none⟩ = (wr).cell? ⟨b, o, none⟩) ∧ (∀ b o, b < (wr).heap.size → w'.frozen? ⟨b, o, none⟩ = (wr).frozen? ⟨b, o, none⟩)) ((exact held_of (by (repeat (with_reducible (first | exact Ext.refl _ | assumption | exact held_left (by assumption) | apply Ext.drewN | apply Ext.drew | apply Ext.alloc | (refine Ext.setCell ?_ (by first | (simp; done) | (simp; omega) | omega) _) | (refine Ext.trans ?_ (by assumption)) | (refine Ext.trans ?_ (held_left (by assumption))))))))) (first | (go_at_call 22; refine (HS.out _ (hE.out.trans (by (repeat (with_reducible (first | exact Ext.refl _ | assumption | exact held_left (by assumption) | apply Ext.drewN | apply Ext.drew | apply Ext.alloc | (refine Ext.setCell ?_ (by first | (simp; done) | (simp; omega) | omega) _) | (refine Ext.trans ?_ (by assumption)) | (refine Ext.trans ?_ (held_left (by assumption))))))))).mono ?_; rintro e w2 ⟨rfl, hb2⟩))
        go_wp2
        go_ret
        exact ⟨ret_bool HR.out.symm, hE.out.trans (by (repeat (with_reducible (first | exact Ext.refl _ | assumption | exact held_left (by assumption) | apply Ext.drewN | apply Ext.drew | apply Ext.alloc | (refine Ext.setCell ?_ (by first | (simp; done) | (simp; omega) | omega) _) | (refine Ext.trans ?_ (by assumption)) | (refine Ext.trans ?_ (held_left (by assumption)))))))⟩
    · have hkk : k = ps.length := by omega
      have HR := Hid.mk' (show rlsB (ps.map RR.r) (qs.map RR.r) = true from rlsB_true.2 (rls_ext HN.out (fun i h1 h2 => hrel.out i h1 h2 (by omega))))
      subst hkk
      go_wp2
      go_ret
      exact ⟨ret_bool HR.out.symm, hE.out⟩

set_option maxRecDepth 100000 in set_option maxHeartbeats 2000000 in
theorem eqrels_any (ps qs : List RR) (a b : Option Addr) (ca cb : Nat) (w : World) (hl : RL w (.slice a ps.length ca) ps) (hm : RL w (.slice b qs.length cb) qs) (hlen : ps.length ≤ 1000) (h16 : ∀ p ∈ ps, p.r.cols.length ≤ 1000) :
    Calls Try.prog 58 #[.slice a ps.length ca, .slice b qs.length cb, .func (.func 59) #[] #[]] w fun e w' => e = .returned (.bool (rlsB (ps.map RR.r) (qs.map RR.r))) ∧ Ext w w' := by
  have HL := Hid.mk' hl
  have HM := Hid.mk' hm
  have H16 := Hid.mk' h16
  clear hl hm h16
  by_cases hn : ps.length = qs.length
  case neg =>
    have hn' : (((ps.length : Nat) : Int) != ((qs.length : Nat) : Int)) = true := by simp; omega
    have HR := Hid.mk' (show rlsB (ps.map RR.r) (qs.map RR.r) = false from rlsB_false.2 (fun h => hn (by have := congrArg List.length h; simpa using this)))
    clear hn
    go_enter Try.func58, Try.ntmps58
    go_wp2
    go_ret
    exact ⟨ret_bool HR.out.symm, by (repeat (with_reducible (first | exact Ext.refl _ | assumption | exact held_left (by assumption) | apply Ext.drewN | apply Ext.drew | apply Ext.alloc | (refine Ext.setCell ?_ (by first | (simp; done) | (simp; omega) | omega) _) | (refine Ext.trans ?_ (by assumption)) | (refine Ext.trans ?_ (held_left (by assumption))))))⟩
  have hn' : (((ps.length : Nat) : Int) != ((qs.length : Nat) : Int)) = false := by simp; omega
  have HN := Hid.mk' hn
  clear hn
  go_enter Try.func58, Try.ntmps58
  go_wp2
  go_loopw [17] (fun i wr => ∃ k : Nat, k ≤ ps.length ∧ i = .int .i64 k ∧ Hid (∀ j (h1 : j < ps.length) (h2 : j < qs.length), j < k → ps[j].r = qs[j].r) ∧ Hid (Ext w wr)) (fun i _ => ps.length - (intOf i).toNat)
  case atStart => exact ⟨0, Nat.zero_le _, rfl, fun j _ _ h => by omega, Hid.mk' (Ext.refl _)⟩
  case round =>
    obtain ⟨k, hk, rfl, hrel, hE⟩ := hrel
    by_cases hlt : k < ps.length
    · have hlt2 : k < qs.length := by have := HN.out; omega
      obtain ⟨b1, q1, rfl, hb1, hx1⟩ := HL.out.row.at_ (i := k) (by simpa using hlt)
      obtain ⟨f0, f1, f2, f3, f4⟩ := RR.at_ hlt hx1 hb1 hE.out
      obtain ⟨b2, q2, rfl, hb2, hx2⟩ := HM.out.row.at_ (i := k) (by simpa using hlt2)
      obtain ⟨p0, p1, p2, p3, p4⟩ := RR.at_ hlt2 hx2 hb2 hE.out
      have hbw : b1 < wr.heap.size := Nat.lt_of_lt_of_le hb1 hE.out.size
      have hbw2 : b2 < wr.heap.size := Nat.lt_of_lt_of_le hb2 hE.out.size
      have HS := Hid.mk' (fun W (h : Ext w W) => same8_any ps[k] qs[k] W ((HL.out.sl _ (List.getElem_mem hlt)).ext h) ((HM.out.sl _ (List.getElem_mem hlt2)).ext h) (H16.out _ (List.getElem_mem hlt)))
      unfold RR.agg at HS
      cases hA : rlB ps[k].r qs[k].r with
      | true =>
        rw [hA] at HS
        have HA := Hid.mk' (rlB_true.1 hA)
        clear hA hx1 hx2
        go_wp2_with (go_at_call 59; refine (HS.out _ (hE.out.trans (by (repeat (with_reducible (first | exact Ext.refl _ | assumption | exact held_left (by assumption) | apply Ext.drewN | apply Ext.drew | apply Ext.alloc | (refine Ext.setCell ?_ (by first | (simp; done) | (simp; omega) | omega) _) | (refine Ext.trans ?_ (by assumption)) | (refine Ext.trans ?_ (held_left (by assumption))))))))).mono ?_; rintro e w2 ⟨rfl, hb2⟩; have HE2 := Hid.mk' (hE.out.trans (show Ext wr w2 by (repeat (with_reducible (first | exact Ext.refl _ | assumption | exact held_left (by assumption) | apply Ext.drewN | apply Ext.drew | apply Ext.alloc | (refine Ext.setCell ?_ (by first | (simp; done) | (simp; omega) | omega) _) | (refine Ext.trans ?_ (by assumption)) | (refine Ext.trans ?_ (held_left (by assumption)))))))))
        go_roundw
        case rel => exact ⟨k + 1, by omega, by go_num, fun j h1 h2 hjk => by
          by_cases e : j = k
          · subst e; exact HA.out
          · exact hrel.out j h1 h2 (by omega), HE2⟩
        case measure => simp [intOf]; omega
      | false =>
        rw [hA] at HS
        have HR := Hid.mk' (show rlsB (ps.map RR.r) (qs.map RR.r) = false from rlsB_false.2 (fun h => rlB_false.1 hA (by
          have := congrArg (fun l => l[k]?) h
          simp only [List.getElem?_map, List.getElem?_eq_getElem hlt, List.getElem?_eq_getElem hlt2, Option.map_some] at this
          exact Option.some.inj this)))
        clear hA hx1 hx2
        go_wp2_with (go_at_call 59; refine (HS.out _ (hE.out.trans (by (repeat (with_reducible (first | exact Ext.refl _ | assumption | exact held_left (by assumption) | apply Ext.drewN | apply Ext.drew | apply Ext.alloc | (refine Ext.setCell ?_ (by first | (simp; done) | (simp; omega) | omega) _) | (refine Ext.trans ?_ (by assumption)) | (refine Ext.trans ?_ (held_left (by assumption))))))))).mono ?_; rintro e w2 ⟨rfl, hb2⟩; have HE2 := Hid.mk' (hE.out.trans (show Ext wr w2 by (repeat (with_reducible (first | exact Ext.refl _ | assumption | exact held_left (by assumption) | apply Ext.drewN | apply Ext.drew | apply Ext.alloc | (refine Ext.setCell ?_ (by first | (simp; done) | (simp; omega) | omega) _) | (refine Ext.trans ?_ (by assumption)) | (refine Ext.trans ?_ (held_left (by assumption)))))))))
        go_ret
        exact ⟨ret_bool HR.out.symm, HE2.out⟩
    · have hkk : k = ps.length := by omega
      have HR := Hid.mk' (show rlsB (ps.map RR.r) (qs.map RR.r) = true from rlsB_true.2 (rls_ext HN.out (fun i h1 h2 => hrel.out i h1 h2 (by omega))))
      subst hkk
      go_wp2
      go_ret
      exact ⟨ret_bool HR.out.symm, hE.out⟩

set_option maxRecDepth 100000 in set_option maxHeartbeats 2000000 in
theorem csame_any (N M g k : Nat) (c d : Value) (ps qs : List RR) (w : World) (hc : Ca w N g c ps) (hd : Ca w M k d qs) :
    Calls Try.prog 32 #[.pointer (some ⟨g, 0, none⟩), .pointer (some ⟨k, 0, none⟩)] w fun e w' => e = .returned (.bool (rlsB (ps.map RR.r) (qs.map RR.r))) ∧ Ext w w' := by
  obtain ⟨a, ca, rfl⟩ := hc.shape
  obtain ⟨b, cb, rfl⟩ := hd.shape
  have HE := Hid.mk' (fun W (h : Ext w W) => eqrels_any ps qs a b ca cb W (hc.rl.ext h) (hd.rl.ext h) (by have := hc.n64; omega) (fun p hp => by have := hc.n16 hp; omega))
  have g0 := hc.ptr.cell
  have z0 := hc.ptr.lt
  have g1 := hd.ptr.cell
  have z1 := hd.ptr.lt
  clear hc hd
  go_enter Try.func32, Try.ntmps32
  go_wp2
  go_region_held3 (fun w' => Ext (w) w' ∧ (∀ b o, b < (w).heap.size → w'.cell? ⟨b, o, none⟩ = (w).cell? ⟨b, o, none⟩) ∧ (∀ b o, b < (w).heap.size → w'.frozen? ⟨b, o, none⟩ = (w).frozen? ⟨b, o, none⟩)) ((exact held_of (by (repeat (with_reducible (first | exact Ext.refl _ | assumption | exact held_left (by assumption) | apply Ext.drewN | apply Ext.drew | apply Ext.alloc | (refine Ext.setCell ?_ (by first | (simp; done) | (simp; omega) | omega) _) | (refine Ext.trans ?_ (by assumption)) | (refine Ext.trans ?_ (held_left (by assumption))))))))) (first | (go_at_call 58; refine (HE.out _ (by (repeat (with_reducible (first | exact Ext.refl _ | assumption | exact held_left (by assumption) | apply Ext.drewN | apply Ext.drew | apply Ext.alloc | (refine Ext.setCell ?_ (by first | (simp; done) | (simp; omega) | omega) _) | (refine Ext.trans ?_ (by assumption)) | (refine Ext.trans ?_ (held_left (by assumption)))))))).mono ?_; rintro e w2 ⟨rfl, hb2⟩))
  go_wp2
  go_ret
  exact ⟨rfl, by (repeat (with_reducible (first | exact Ext.refl _ | assumption | exact held_left (by assumption) | apply Ext.drewN | apply Ext.drew | apply Ext.alloc | (refine Ext.setCell ?_ (by first | (simp; done) | (simp; omega) | omega) _) | (refine Ext.trans ?_ (by assumption)) | (refine Ext.trans ?_ (held_left (by assumption))))))⟩

end Go.Proofs.Ythdjinicmnhgpaa

/-
The walk of CatalogOrder.
-/
namespace Go.Proofs.Ythdjinicmnhgpaa
open Go.RowKit

theorem mem_r {ps qs : List RR} (h : qs.map RR.r = ps.map RR.r) {q : RR} (hq : q ∈ qs) : ∃ p ∈ ps, p.r = q.r := by
  have : q.r ∈ ps.map RR.r := by rw [← h]; exact List.mem_map_of_mem hq
  obtain ⟨p, hp, e⟩ := List.mem_map.1 this
  exact ⟨p, hp, e⟩
theorem up_n16 {l : List Rl} {k : Nat} {qs : List RR} (h : qs.map RR.r = ofUp l k) : qs.length ≤ 64 ∧ ∀ q ∈ qs, q.r.cols.length ≤ 16 := by
  refine ⟨?_, fun q hq => Rl.cols_le ((ofUp_ok l k).right _ (by rw [← h]; exact List.mem_map_of_mem hq))⟩
  have := (ofUp_ok l k).n64
  rw [← h, List.length_map] at this
  exact this
/-- The laws' Own and Of, one behind the other. -/
theorem own_of {ps : List RR} {W W1 : World} {v : Value} {qs : List RR} (ho : OwnR W1 W.heap.size ps ps.length v qs) (hb : ∀ p ∈ ps, p.r.wb) : RL W1 v qs ∧ (∀ q ∈ qs, q.r.cols.length ≤ q.c) ∧ (∀ q ∈ qs, q.r.wb) ∧ qs.map RR.r = ps.map RR.r ∧ qs.length = ps.length :=
  ⟨ho.rl, ho.cap, ho.wb hb, ho.rs, ho.len⟩

set_option maxRecDepth 100000 in set_option maxHeartbeats 4000000 in
theorem catorder_any (ps : List RR) (a : Option Addr) (cap : Nat) (w : World) (hl : RL w (.slice a ps.length cap) ps) (hb : ∀ p ∈ ps, p.r.wb) (hlen : ps.length ≤ 9223372036854775807) :
    Calls Try.prog 7 #[.slice a ps.length cap] w fun e w' => e = .returned (.bool true) ∧ Ext w w' := by
  have HRO := Hid.mk' (fun W (h : Ext w W) => rof_any ps a cap W (hl.ext h) hb hlen)
  unfold ROfPost at HRO
  have HL := Hid.mk' hl
  have HB := Hid.mk' hb
  clear hl hb
  obtain ⟨E, hE⟩ : ∃ E, E = ofE (ps.map RR.r) := ⟨_, rfl⟩
  rw [← hE] at HRO
  by_cases h60 : 60 < ps.length
  · clear hE
    go_enter Try.func7, Try.ntmps7
    go_wp2_with (go_at_call 12; refine (HRO.out _ (Ext.refl _)).mono ?_; rintro e w1 ⟨a', c', n, rfl, -, -, hb1⟩)
    go_ret
    exact ⟨rfl, by (repeat (with_reducible (first | exact Ext.refl _ | assumption | exact held_left (by assumption) | apply Ext.drewN | apply Ext.drew | apply Ext.alloc | (refine Ext.setCell ?_ (by first | (simp; done) | (simp; omega) | omega) _) | (refine Ext.trans ?_ (by assumption)) | (refine Ext.trans ?_ (held_left (by assumption))))))⟩
  by_cases h0 : E = 0
  case neg =>
    have h0' : (E != 0) = true := by simpa using h0
    clear hE h0
    go_enter Try.func7, Try.ntmps7
    go_wp2_with (go_at_call 12; refine (HRO.out _ (Ext.refl _)).mono ?_; rintro e w1 ⟨a', c', n, rfl, -, -, hb1⟩)
    go_ret
    exact ⟨rfl, by (repeat (with_reducible (first | exact Ext.refl _ | assumption | exact held_left (by assumption) | apply Ext.drewN | apply Ext.drew | apply Ext.alloc | (refine Ext.setCell ?_ (by first | (simp; done) | (simp; omega) | omega) _) | (refine Ext.trans ?_ (by assumption)) | (refine Ext.trans ?_ (held_left (by assumption))))))⟩
  subst h0
  have hn60 : ps.length ≤ 60 := by omega
  have HZ := Hid.mk' hE.symm
  have hat : ∀ j, j < (ps.map RR.r).length → ofAt (ps.map RR.r) j = 0 := firstE_all hE.symm
  have hfine := ofAt_fine hat
  have HSAME : Hid (ofUp (ps.reverse.map RR.r) (ps.reverse.map RR.r).length = ofUp (ps.map RR.r) (ps.map RR.r).length) := Hid.mk' (by
    have e : ps.reverse.map RR.r = (ps.map RR.r).reverse := by rw [List.map_reverse]
    rw [e]
    exact Fine.same hfine.rev hfine (fun x => List.mem_reverse))
  have HREV : Hid (ofE (ps.reverse.map RR.r) = 0) := Hid.mk' (by
    have e : ps.reverse.map RR.r = (ps.map RR.r).reverse := by rw [List.map_reverse]
    rw [e]
    exact firstE_zero (hfine.rev.at_ _ (Nat.le_refl _)))
  obtain ⟨i0, hi, hz0, hz1, hz2⟩ := info_parts Try.infoRRel
  have HOW := Hid.mk' (fun W (h : Ext w W) => own9_any ps a cap W (HL.out.ext h) (by omega) HB.out)
  clear hE hat hfine h60
  go_enter Try.func7, Try.ntmps7
  go_wp2_with (go_at_call 12; refine (HRO.out _ (Ext.refl _)).mono ?_; rintro e w1 ⟨aw, cw, n, rfl, h1, -, hb1⟩; obtain ⟨rfl, hrl⟩ := h1 rfl; have HW := Hid.mk' hrl; have HE1 := Hid.mk' hb1; clear h1 hrl hb1)
  go_loopw [6, 7] (fun v i wr => ∃ (k : Nat), k ≤ ps.length ∧ i = .int .i64 ((ps.length : Int) - 1 - k) ∧ Hid (wr.ownsRow w1.heap.size 49 5 v k ((ps.reverse.take k).map RR.cells).flatten) ∧ Hid (Ext w1 wr)) (fun _ i _ => (intOf i + 1).toNat)
  case atStart => exact ⟨0, Nat.zero_le _, by go_num, Hid.mk' (World.ownsRow_nil _ _ _ _), Hid.mk' (Ext.refl _)⟩
  case round =>
    obtain ⟨k, hk, rfl, hown, hE⟩ := hrel
    have HEW := Hid.mk' (HE1.out.trans hE.out)
    by_cases hlt : k < ps.length
    · obtain ⟨m, hm⟩ : ∃ m : Nat, m = ps.length - 1 - k := ⟨_, rfl⟩
      have hmp : m < ps.length := by omega
      have e0 : (ps.length : Int) - 1 - (k : Int) = (m : Int) := by omega
      rw [e0]
      obtain ⟨b, o, rfl, hb, hx⟩ := HL.out.row.at_ (i := m) (by simpa using hmp)
      obtain ⟨f0, f1, f2, f3, f4⟩ := RR.at_ hmp hx hb HEW.out
      have hbw : b < wr.heap.size := Nat.lt_of_lt_of_le hb HEW.out.size
      have HT : Hid (ps.reverse.take (k + 1) = ps.reverse.take k ++ [ps[m]]) := Hid.mk' (by
        rw [List.take_succ_eq_append_getElem (by simpa using hlt), List.getElem_reverse]
        congr 3; exact hm.symm)
      obtain ⟨p, hp⟩ : ∃ p, p = ps[m] := ⟨_, rfl⟩
      rw [← hp] at f0 f1 f2 f3 f4 HT
      have HM := Hid.mk' hm
      have hz := hE.out.size
      clear hx hp hm
      go_wp2_with (at_builtin; refine wpList_append_own _ rfl _ _ 22 rfl w1.heap.size 49 i0 _ 5 56 Try.underlying22 hi hz0 hz1 hz2 rfl (by decide) _ _ _ rfl (owns_ext hown.out (by (repeat (with_reducible (first | exact Ext.refl _ | assumption | exact held_left (by assumption) | apply Ext.drewN | apply Ext.drew | apply Ext.alloc | (refine Ext.setCell ?_ (by first | (simp; done) | (simp; omega) | omega) _) | (refine Ext.trans ?_ (by assumption)) | (refine Ext.trans ?_ (held_left (by assumption)))))))) ⟨_, 0, none⟩ 1 1 p.cells rfl rfl (cells_new _ #[.int .u32 p.r.oid, .int .u32 p.r.ver, .string p.r.nm, .int .u8 p.r.id, .slice p.a p.r.cols.length p.c] _) (by intro u hu; simp [RR.cells] at hu; rcases hu with rfl | rfl | rfl | rfl | rfl <;> rfl) (by unfold maxLen; omega) (by omega) (by simp; omega) ?_)
      intro v' w4 hown' hgrow _
      have HX4 : Hid (Ext w1 w4) := Hid.mk' (Ext.grown (hE.out.alloc _) (owns_ext hown.out ((Ext.refl wr).alloc _)) hgrow)
      have HO4 := Hid.mk' hown'
      clear hown' hgrow
      go_wp2
      go_roundw
      case rel => exact ⟨k + 1, by omega, by (have := HM.out); first | go_num | (congr 1; omega), Hid.mk' (by rw [HT.out, List.map_append, List.flatten_append]; simpa using HO4.out), HX4⟩
      case measure => have := HM.out; simp [intOf]; try omega
    · obtain rfl : k = ps.length := by omega
      obtain ⟨ab, cb, rfl⟩ := owns_shape hown.out
      have hrt : ps.reverse.take ps.length = ps.reverse := List.take_of_length_le (by simp)
      rw [hrt] at hown
      have hrlB : RL wr (.slice ab ps.reverse.length cb) ps.reverse := ⟨by rw [List.length_reverse]; exact Sl.of_owns (base := w1.heap.size) (e := 49) (by rw [List.length_map, List.length_reverse]; exact hown.out) (RR.len _), fun p hp => (HL.out.sl p (List.mem_reverse.1 hp)).ext HEW.out⟩
      have HOB := Hid.mk' (fun W (h : Ext wr W) => own9_any ps.reverse ab cb W (hrlB.ext h) (by rw [List.length_reverse]; omega) (fun p hp => HB.out p (List.mem_reverse.1 hp)))
      rw [List.length_reverse] at HOB
      have HW2 := Hid.mk' (HW.out.ext hE.out)
      clear hrlB hrt hown
      go_upto_region 10 with (first
        | (go_at_call 13; refine (HOW.out _ HEW.out).mono ?_; rintro e w2 ⟨a2, c2, qs2, rfl, ho2, hb2⟩; have HO2 := Hid.mk' ho2; have HB2 := Hid.mk' hb2; have HOF := Hid.mk' (cof_any qs2 a2 c2 w2 (by rw [ho2.len]; exact ho2.rl) ho2.cap (ho2.wb HB.out) (by rw [ho2.len]; omega)); rw [ho2.rs, ho2.len] at HOF; clear ho2 hb2)
        | (go_at_call 14; refine HOF.out.mono ?_; rintro e w3 ⟨pv, rfl, h1, -, hb3⟩; obtain ⟨rfl, cc, qc, hcc, hqc⟩ := h1 HZ.out; have HCC := Hid.mk' hcc; have HQC := Hid.mk' hqc; have HB3 := Hid.mk' (HB2.out.trans hb3); clear h1 hcc hqc hb3))
      clear HOF HO2
      go_upto_region 11 with (first
        | (go_at_call 13; refine (HOB.out _ HB3.out).mono ?_; rintro e w4 ⟨a4, c4, qs4, rfl, ho4, hb4⟩; rw [show ps.length = ps.reverse.length by rw [List.length_reverse]] at ho4; have HO4 := Hid.mk' ho4; have HB4 := Hid.mk' hb4; have HOG := Hid.mk' (cof_any qs4 a4 c4 w4 (by rw [ho4.len]; exact ho4.rl) ho4.cap (ho4.wb (fun p hp => HB.out p (List.mem_reverse.1 hp))) (by rw [ho4.len, List.length_reverse]; omega)); rw [ho4.rs, ho4.len, List.length_reverse] at HOG; clear ho4 hb4)
        | (go_at_call 14; refine HOG.out.mono ?_; rintro e w5 ⟨pv, rfl, h1, -, hb5⟩; obtain ⟨rfl, dd, qd, hdd, hqd⟩ := h1 HREV.out; have HDD := Hid.mk' hdd; have HQD := Hid.mk' hqd; have HB5 := Hid.mk' (HB4.out.trans hb5); clear h1 hdd hqd hb5))
      have HEC : Hid (qc.map RR.r = qd.map RR.r) := Hid.mk' (by rw [HQC.out, HQD.out]; exact HSAME.out.symm)
      have HEW' : Hid (qc.map RR.r = (upP ps ps.length).map RR.r) := Hid.mk' (by rw [HQC.out, upP_r, List.length_map])
      have HCC5 := Hid.mk' (HCC.out.ext HB5.out)
      have HBK := Hid.mk' (fun W (h : Ext w5 W) => back9_any _ _ cc qc W (HCC5.out.ext h))
      have HS1 := Hid.mk' (fun W (h : Ext w5 W) => csame_any _ _ _ _ cc dd qc qd W (HCC5.out.ext h) (HDD.out.ext h))
      have HS2 := Hid.mk' (fun W (h : Ext w5 W) => csame_any _ _ _ _ dd cc qd qc W (HDD.out.ext h) (HCC5.out.ext h))
      rw [HEC.out, rlsB_true.2 rfl] at HS1
      rw [HEC.out, rlsB_true.2 rfl] at HS2
      have HW5 : Hid (RL w5 (.slice aw (upP ps ps.length).length cw) (upP ps ps.length)) := Hid.mk' (HW2.out.ext (HB3.out.trans HB5.out))
      have HEWW : Hid (Ext w w5) := Hid.mk' (HEW.out.trans (HB3.out.trans HB5.out))
      have H16 := Hid.mk' (up_n16 HQC.out)
      have H17 : Hid (∀ p ∈ upP ps ps.length, p.r.cols.length ≤ 9223372036854775807) := Hid.mk' (fun p hp => by have := (HB.out p (upP_mem hp)).n; omega)
      clear HCC HW2 HRO HOW HOB HOG HO4
      go_upto_region 14 with (go_at_call 16; refine (HBK.out _ (Ext.refl _)).mono ?_; rintro e w6 ⟨a6, c6, rs, rfl, hbk, hb6⟩; have HBK6 := Hid.mk' hbk; have HB6 := Hid.mk' hb6; clear hbk hb6)
      have HR9 := Hid.mk' (fun W (h : Ext w6 W) => rsame9_any rs (upP ps ps.length) a6 aw c6 cw W (HBK6.out.rl.ext h) (HW5.out.ext (HB6.out.trans h)) (by have := congrArg List.length HBK6.out.r; simp only [List.length_map] at this; have := H16.out.1; omega) (fun p hp => by
        obtain ⟨q, hq, e⟩ := mem_r HBK6.out.r hp
        rw [← e]; have := H16.out.2 q hq; omega) H17.out)
      rw [HBK6.out.r, HEW'.out, rlsB_true.2 rfl] at HR9
      clear HBK
      go_wp2_with (first
        | (go_at_call_of 32 (Value.pointer (some ⟨w2.heap.size, 0, none⟩)); (fail_if_success have _ := HB7); refine (HS1.out _ HB6.out).mono ?_; rintro e w7 ⟨rfl, hb7⟩; have HB7 := Hid.mk' hb7; clear hb7)
        | (go_at_call 32; refine (HS2.out _ (HB6.out.trans HB7.out)).mono ?_; rintro e w8 ⟨rfl, hb8⟩; have HB8 := Hid.mk' (HB7.out.trans hb8); clear hb8)
        | (go_at_call 17; refine (HR9.out _ HB8.out).mono ?_; rintro e w9 ⟨rfl, hb9⟩; have HB9 := Hid.mk' (HB8.out.trans hb9); clear hb9)
        | (go_at_call 18; refine (awake9_any _).mono ?_; rintro e w10 ⟨rfl, hb10⟩; have HB10 := Hid.mk' (HB9.out.trans hb10); clear hb10))
      go_ret
      exact ⟨rfl, HEWW.out.trans (HB6.out.trans HB10.out)⟩

end Go.Proofs.Ythdjinicmnhgpaa

/-
Opening any arguments by their types (structs and arrays laid flat; slices), and closing a law's row: true, and all reads as it did.
-/
namespace Go.Proofs.Ythdjinicmnhgpaa
open Go.RowKit Go.ChangeShapes Go.WideShapes Go.ChangeAt

section
variable {H : Type} {enc : TypeId × Value → H} {P : Program} {w : World} {base : Nat} {spare : Nat → Bool} {held : Bool}

/-- A cell of some type. -/
def Lf (enc : TypeId × Value → H) (P : Program) (w : World) (base : Nat) (spare : Nat → Bool) (held : Bool) (t : TypeId) (c : Value) : Prop := ∃ n x, DataW.trod enc P w base spare held n t [c] = some x

def Lfs (enc : TypeId × Value → H) (P : Program) (w : World) (base : Nat) (spare : Nat → Bool) (held : Bool) : List TypeId → List Value → Prop
  | [], [] => True
  | t :: ts, c :: cs => Lf enc P w base spare held t c ∧ Lfs enc P w base spare held ts cs
  | _, _ => False

theorem Lfs.append : ∀ (ts us : List TypeId) (cs : List Value), Lfs enc P w base spare held ts (cs.take ts.length) → Lfs enc P w base spare held us (cs.drop ts.length) → Lfs enc P w base spare held (ts ++ us) cs
  | [], us, cs, _, h => by simpa using h
  | t :: ts, us, [], h, _ => by simp [Lfs] at h
  | t :: ts, us, c :: cs, h, h' => by
    simp only [List.length_cons, List.take_succ_cons, Lfs] at h
    exact ⟨h.1, Lfs.append ts us cs h.2 (by simpa using h')⟩

def offs (P : Program) : Nat → List Field → List (List TypeId) → Bool
  | _, [], [] => true
  | o, f :: fs, l :: ls => f.offset == o && P.cellsOf f.type == l.length && offs P (o + l.length) fs ls
  | _, _, _ => false

/-- The types of a type's cells. -/
def flat (P : Program) : Nat → TypeId → Option (List TypeId)
  | 0, _ => none
  | k + 1, t =>
    match P.underlying t with
    | some (.struct fs) => (fs.toList.mapM fun f => flat P k f.type).bind fun ls => if offs P 0 fs.toList ls && P.cellsOf t == ls.flatten.length then some ls.flatten else none
    | some (.array n e) => (flat P k e).bind fun l => if P.cellsOf e == l.length && P.cellsOf t == n * l.length then some (List.replicate n l).flatten else none
    | _ => some [t]

theorem trod_single {n : Nat} {t : TypeId} {cs : List Value} {x : DataW H × List MemPlace} (h : DataW.trod enc P w base spare held n t cs = some x)
    (h1 : ∀ fs, P.underlying t ≠ some (.struct fs)) (h2 : ∀ n e, P.underlying t ≠ some (.array n e)) : ∃ c, cs = [c] := by
  cases n with
  | zero => simp [DataW.trod] at h
  | succ n =>
    unfold DataW.trod at h
    split at h
    all_goals first
      | exact ⟨_, rfl⟩
      | (rename_i h3; exact absurd h3 (h1 _))
      | (rename_i h3; exact absurd h3 (h2 _ _))
      | simp at h

theorem offs_open (k : Nat) (ih : ∀ (t : TypeId) (ts : List TypeId) (n : Nat) (cs : List Value) (x : DataW H × List MemPlace), flat P k t = some ts → DataW.trod enc P w base spare held n t cs = some x → Lfs enc P w base spare held ts cs)
    (n : Nat) (cs : List Value) : ∀ (fs : List Field) (ls : List (List TypeId)) (o : Nat), offs P o fs ls = true → (fs.mapM fun f => flat P k f.type) = some ls →
    cs.length = o + ls.flatten.length →
    (∀ f ∈ fs, ∃ y, DataW.trod enc P w base spare held n f.type ((cs.drop f.offset).take (P.cellsOf f.type)) = some y) → Lfs enc P w base spare held ls.flatten (cs.drop o) := by
  intro fs
  induction fs with
  | nil =>
    intro ls o ho hm hl _
    cases ls with
    | nil => simp at hl; rw [List.drop_eq_nil_of_le (by omega)]; trivial
    | cons l ls => simp [offs] at ho
  | cons f fs ih2 =>
    intro ls o ho hm hl hf
    cases ls with
    | nil => simp [offs] at ho
    | cons l ls =>
      simp only [offs, Bool.and_eq_true, beq_iff_eq] at ho
      obtain ⟨⟨ho1, ho2⟩, ho3⟩ := ho
      simp only [List.mapM_cons, Option.bind_eq_bind, Option.bind_eq_some_iff, Option.pure_def, Option.some.injEq, List.cons.injEq] at hm
      obtain ⟨l', h1, ls', h2, rfl, rfl⟩ := hm
      obtain ⟨y, hy⟩ := hf f (by simp)
      rw [ho1, ho2] at hy
      have a1 := ih f.type l' n _ y h1 hy
      simp only [List.flatten_cons, List.length_append] at hl
      have a2 := ih2 ls' (o + l'.length) ho3 h2 (by omega) (fun g hg => hf g (by simp [hg]))
      rw [List.flatten_cons]
      exact Lfs.append l' ls'.flatten _ a1 (by rw [List.drop_drop]; exact a2)

theorem arr_open (l : List TypeId) (e : TypeId) (n : Nat) (he : P.cellsOf e = l.length) (h1 : ∀ cs x, DataW.trod enc P w base spare held n e cs = some x → Lfs enc P w base spare held l cs) (cs : List Value) :
    ∀ (m i : Nat), cs.length = (i + m) * l.length → (∀ j, i ≤ j → j < i + m → ∃ y, DataW.trod enc P w base spare held n e ((cs.drop (j * P.cellsOf e)).take (P.cellsOf e)) = some y) →
    Lfs enc P w base spare held (List.replicate m l).flatten (cs.drop (i * l.length)) := by
  intro m
  induction m with
  | zero => intro i hl _; rw [List.drop_eq_nil_of_le (by simp at hl; omega)]; simp [Lfs]
  | succ m ih =>
    intro i hl hf
    obtain ⟨y, hy⟩ := hf i (by omega) (by omega)
    rw [he] at hy
    have a1 := h1 _ y hy
    have a2 := ih (i + 1) (by rw [hl]; congr 1; omega) (fun j h1 h2 => hf j (by omega) (by omega))
    rw [List.replicate_succ, List.flatten_cons]
    refine Lfs.append l _ _ a1 ?_
    rw [List.drop_drop, ← Nat.succ_mul]
    exact a2

theorem flat_open (k : Nat) : ∀ (t : TypeId) (ts : List TypeId) (n : Nat) (cs : List Value) (x : DataW H × List MemPlace), flat P k t = some ts → DataW.trod enc P w base spare held n t cs = some x → Lfs enc P w base spare held ts cs := by
  induction k with
  | zero => intro t ts n cs x h; simp [flat] at h
  | succ k ih =>
    intro t ts n cs x h hx
    unfold flat at h
    split at h
    · rename_i fs hu
      obtain ⟨xs, m, _, rfl, hlen, hxl, hf⟩ := DataW.trod_struct hu hx
      simp only [Option.bind_eq_some_iff] at h
      obtain ⟨ls, hm, h⟩ := h
      split at h
      · rename_i hc
        rw [Bool.and_eq_true, beq_iff_eq] at hc
        cases h
        have := offs_open k ih m cs fs.toList ls 0 hc.1 hm (by rw [hlen, hc.2, Nat.zero_add]) (fun f hfm => by
          obtain ⟨i, hi, hif⟩ := List.mem_iff_getElem.1 hfm
          have hi' : i < fs.size := by simpa using hi
          have g : fs[i]? = some f := by rw [← hif]; simp [hi']
          have := hf i f g
          rw [List.getElem?_eq_getElem (by omega)] at this
          exact ⟨_, this⟩)
        simpa using this
      · cases h
    · rename_i m e hu
      obtain ⟨xs, q, _, rfl, hlen, hxl, hf⟩ := DataW.trod_array hu hx
      simp only [Option.bind_eq_some_iff] at h
      obtain ⟨l, hl, h⟩ := h
      split at h
      · rename_i hc
        rw [Bool.and_eq_true, beq_iff_eq, beq_iff_eq] at hc
        cases h
        have := arr_open (enc := enc) (P := P) (w := w) (base := base) (spare := spare) (held := held) l e q hc.1 (fun cs y hy => ih e l q cs y hl hy) cs m 0 (by rw [hlen, hc.2, Nat.zero_add]) (fun j _ hj => by
          have := hf j (by omega)
          rw [List.getElem?_eq_getElem (by omega)] at this
          exact ⟨_, this⟩)
        simpa using this
      · cases h
    · rename_i h1 h2
      cases h
      obtain ⟨c, rfl⟩ := trod_single hx (fun fs e => h1 fs e) (fun n e he => h2 n e he)
      exact ⟨⟨n, x, hx⟩, trivial⟩

theorem Lf.int {t : TypeId} {c : Value} {k : IntKind} (h : Lf enc P w base spare held t c) (ht : P.underlying t = some (.int k)) : ∃ n, c = .int k n ∧ (Lit.int k n).wf = true := by
  obtain ⟨m, x, h⟩ := h
  obtain ⟨n, h1, _, h3⟩ := DataW.trod_int ht h
  cases h1
  exact ⟨n, rfl, h3⟩
theorem Lf.string {t : TypeId} {c : Value} (h : Lf enc P w base spare held t c) (ht : P.underlying t = some .string) : ∃ s : ByteArray, c = .string s ∧ s.size ≤ 9223372036854775807 := by
  obtain ⟨m, x, h⟩ := h
  obtain ⟨n, h1, _, h3⟩ := DataW.trod_string ht h
  cases h1
  exact ⟨n, rfl, h3⟩
theorem Lf.bool {t : TypeId} {c : Value} (h : Lf enc P w base spare held t c) (ht : P.underlying t = some .bool) : ∃ b : Bool, c = .bool b := by
  obtain ⟨m, x, h⟩ := h
  obtain ⟨n, h1, _⟩ := DataW.trod_bool ht h
  cases h1
  exact ⟨n, rfl⟩

/-- A slice, opened: its elements' cells, and what each reads as. -/
theorem trod_sl {T E : TypeId} {k n : Nat} {cs : List Value} {x : DataW H × List MemPlace} (ht : P.underlying T = some (.slice E)) (hk : P.cellsOf E = k) (hk0 : 0 < k) (h : DataW.trod enc P w base spare held n T cs = some x) :
    ∃ v xss, cs = [v] ∧ Sl w v k xss ∧ xss.length ≤ 9223372036854775807 ∧ ∀ xs ∈ xss, xs.length = k ∧ ∃ n x, DataW.trod enc P w base spare held n E xs = some x := by
  rcases Go.Deep.open_slice ht h with ⟨rfl, _⟩ | ⟨a, len, cap, m, q, D, Pl, rfl, hb, hl, hm, hmm, _, hx⟩
  · exact ⟨_, [], rfl, ⟨none, 0, rfl, .inl rfl⟩, by simp, by simp⟩
  · have hlm : len ≤ m := by rw [hmm]; split <;> omega
    have hall : ∀ i, i < len → ∃ cs', w.cells? base (a.add (i * k)) k = some cs' ∧ DataW.trod enc P w base spare held q E cs' = some (D i, Pl i) := fun i hi => by
      have := hx i (by omega); rwa [hk] at this
    obtain ⟨C, hC⟩ := Go.Deep.choose_lt hall
    have hcl : cap ≤ 9223372036854775807 := hm
    refine ⟨_, (List.range len).map C, rfl, ?_, by simp; omega, ?_⟩
    · refine ⟨some a, cap, by simp, ?_⟩
      by_cases h0 : len = 0
      · subst h0; exact .inl rfl
      · right
        have hc0 := (World.cells?_some (hC 0 (by omega)).1)
        have e0 : (a.add (0 * k)).add 0 = a := by unfold Addr.add; simp
        have hcell : (w.cell? a).isSome = true := by
          have := hc0.2.2 0 hk0
          rw [e0] at this
          rw [this, List.getElem?_eq_getElem (by omega)]; rfl
        have hsp : a.spot = none := by
          unfold World.cell? at hcell
          split at hcell
          · split at hcell
            · simp at hcell
            · rename_i hs; simpa using hs
          · simp at hcell
        have hlt : a.block < w.heap.size := by
          unfold World.cell? at hcell
          rcases Nat.lt_or_ge a.block w.heap.size with h1 | h1
          · exact h1
          · rw [Array.getElem?_eq_none h1] at hcell; simp at hcell
        refine ⟨a.block, a.off, by cases a; simp at hsp; subst hsp; rfl, hlt, ?_⟩
        intro i hi j hj
        simp only [List.length_map, List.length_range] at hi
        have h2 := (World.cells?_some (hC i hi).1).2.2 j hj
        rw [Go.Deep.add_add] at h2
        have e : a.add (i * k + j) = ⟨a.block, a.off + i * k + j, none⟩ := by
          unfold Addr.add
          split
          · rename_i hz
            have h3 : i * k = 0 := by omega
            have h4 : j = 0 := by omega
            cases a; simp at hsp; subst hsp; simp [h3, h4]
          · cases a; simp at hsp; subst hsp; simp
        rw [e] at h2
        rw [h2]
        simp [hi]
    · intro xs hxs
      simp only [List.mem_map, List.mem_range] at hxs
      obtain ⟨i, hi, rfl⟩ := hxs
      exact ⟨(World.cells?_some (hC i hi).1).2.1, _, _, (hC i hi).2⟩

theorem exists_map {α β : Type} {f : α → β} {p : α → Prop} : ∀ (l : List β), (∀ y ∈ l, ∃ x, y = f x ∧ p x) → ∃ l' : List α, l = l'.map f ∧ ∀ x ∈ l', p x
  | [], _ => ⟨[], rfl, by simp⟩
  | y :: l, h => by
    obtain ⟨x, hx, hp⟩ := h y (by simp)
    obtain ⟨l', hl, hl'⟩ := exists_map l (fun z hz => h z (by simp [hz]))
    exact ⟨x :: l', by rw [hx, hl]; rfl, by intro z hz; rcases List.mem_cons.1 hz with rfl | hz; exact hp; exact hl' z hz⟩

/-- All arguments read as they did. -/
theorem trodAll_stays {W W' : World} (hl : laidOutB P = true) (hE : Ext W W') : ∀ (ts : List TypeId) (vs : List Value) (ds : List (DataW H)) (ps : List MemPlace), (∀ t ∈ ts, P.readableRec t = true ∧ t < P.types.size) →
    DataW.TrodAll enc P W 0 (fun _ => true) true ts vs ds ps → (∀ x ∈ ps, x.block < W.heap.size) → DataW.TrodAll enc P W' 0 (fun b => decide (b < W.heap.size)) true ts vs ds ps
  | [], [], [], ps, _, h, _ => h
  | t :: ts, v :: vs, d :: ds, ps, hr, h, hlt => by
    obtain ⟨p, q, h1, h2, rfl⟩ := h
    refine ⟨p, q, Below.trod hl (hr t (by simp)).1 (hr t (by simp)).2 h1 hE (fun x hx => hlt x (by simp [hx])), ?_, rfl⟩
    exact trodAll_stays hl hE ts vs ds q (fun u hu => hr u (by simp [hu])) h2 (fun x hx => hlt x (by simp [hx]))
  | [], _ :: _, _, _, _, h, _ => by simp [DataW.TrodAll] at h
  | [], [], _ :: _, _, _, h, _ => by simp [DataW.TrodAll] at h
  | _ :: _, [], _, _, _, h, _ => by simp [DataW.TrodAll] at h
  | _ :: _, _ :: _, [], _, _, h, _ => by simp [DataW.TrodAll] at h

/-- A law's row: it answered true; what was there is as it was. -/
theorem post_law {f : Func} {s : ChangeSpec} {apart : Bool} {W W' : World} {args : Array Value} {ds gs : List (DataW H)} {before : List MemPlace} {tb : TypeId}
    (hl : laidOutB P = true) (hb : P.underlying tb = some .bool) (hrt : f.resultTypes = #[tb]) (hr : f.params.toList.all (fun t => P.readableRec t && decide (t < P.types.size)) = true) (hv : s.vars = [])
    (hW : DataW.Whole enc P f.params.toList s.vars apart W args.toList ds gs before)
    (h1 : (s.fn H (ds ++ gs)).results = [.lit (.bool true)]) (h2 : (s.fn H (ds ++ gs)).args = ds) (h3 : (s.fn H (ds ++ gs)).vars = []) (hE : Ext W W') :
    s.post enc P f apart true false false W args (.bool true) W' := by
  have hW' := hW
  have hlt := hW.lt
  obtain ⟨p, q, hA, hV, rfl, _, _⟩ := hW
  refine ⟨ds, gs, p ++ q, [], p, [], hW', ?_, ?_, ?_, Below.frame hE _, fun h => by cases h⟩
  · rw [h1, hrt]
    exact trodAll_mk1 (shut_bool hb true)
  · rw [h2]
    refine trodAll_stays hl hE _ _ _ _ (fun t ht => ?_) hA (fun x hx => by simpa using hlt x (by simp [hx]))
    have := List.all_eq_true.1 hr t ht
    simpa using this
  · rw [hv, h3]; rfl
end

end Go.Proofs.Ythdjinicmnhgpaa

/-
Arguments of the common types, opened: numbers, strings, slices of anything.
-/
namespace Go.Proofs.Ythdjinicmnhgpaa
open Go.RowKit Go.ChangeShapes Go.WideShapes Go.ChangeAt

theorem Try.ownG : ownKnob Try.prog.godebug = none := by kernel_rfl
theorem Try.laidOutG : laidOutB Try.prog = true := by kernel_rfl

theorem wfG_u8 {n : Int} (h : (Lit.int .u8 n).wf = true) : 0 ≤ n ∧ n < 256 := by
  simp [Lit.wf, IntKind.min, IntKind.max, IntKind.signed, IntKind.bits] at h; omega
theorem wfG_u16 {n : Int} (h : (Lit.int .u16 n).wf = true) : 0 ≤ n ∧ n < 65536 := by
  simp [Lit.wf, IntKind.min, IntKind.max, IntKind.signed, IntKind.bits] at h; omega
theorem wfG_u32 {n : Int} (h : (Lit.int .u32 n).wf = true) : 0 ≤ n ∧ n < 4294967296 := by
  simp [Lit.wf, IntKind.min, IntKind.max, IntKind.signed, IntKind.bits] at h; omega
theorem wfG_u64 {n : Int} (h : (Lit.int .u64 n).wf = true) : 0 ≤ n ∧ n < 18446744073709551616 := by
  simp [Lit.wf, IntKind.min, IntKind.max, IntKind.signed, IntKind.bits] at h; omega
theorem wfG_i64 {n : Int} (h : (Lit.int .i64 n).wf = true) : -9223372036854775808 ≤ n ∧ n < 9223372036854775808 := by
  simp [Lit.wf, IntKind.min, IntKind.max, IntKind.signed, IntKind.bits] at h; omega

section
variable {H : Type} {enc : TypeId × Value → H} {w : World} {base : Nat} {spare : Nat → Bool} {held : Bool} {r : Reach} {base2 : Nat} {v : Value} {d : DataW H} {ps : List MemPlace}

theorem openG_int {P : Program} {t : TypeId} {k : IntKind} (ht : P.underlying t = some (.int k)) (h : DataW.Trod enc P w base spare held t v d ps) (hv : Value.okWide P w r base2 t v) : ∃ n, v = .int k n ∧ (Lit.int k n).wf = true := by
  obtain ⟨m, rfl⟩ := okWide_int ht hv
  obtain ⟨n, hn⟩ := h
  have hl : Lf enc P w base spare held t (.int k m) := ⟨n, _, hn⟩
  obtain ⟨q, hq, hw⟩ := hl.int ht
  cases hq
  exact ⟨m, rfl, hw⟩
theorem openG_string {P : Program} {t : TypeId} (ht : P.underlying t = some .string) (h : DataW.Trod enc P w base spare held t v d ps) (hv : Value.okWide P w r base2 t v) : ∃ s : ByteArray, v = .string s ∧ s.size ≤ 9223372036854775807 := by
  obtain ⟨m, rfl⟩ := okWide_string ht hv
  obtain ⟨n, hn⟩ := h
  have hl : Lf enc P w base spare held t (.string m) := ⟨n, _, hn⟩
  obtain ⟨q, hq, hw⟩ := hl.string ht
  cases hq
  exact ⟨m, rfl, hw⟩
/-- A slice of anything, opened by its element. -/
theorem openG_slice {α : Type} {f : α → List Value} {p : α → Prop} {P : Program} {T E : TypeId} {k : Nat} (ht : P.underlying T = some (.slice E)) (hk : P.cellsOf E = k) (hk0 : 0 < k)
    (ho : ∀ n xs x, DataW.trod enc P w base spare held n E xs = some x → ∃ a, xs = f a ∧ p a)
    (h : DataW.Trod enc P w base spare held T v d ps) (hv : Value.okWide P w r base2 T v) : ∃ l : List α, Sl w v k (l.map f) ∧ l.length ≤ 9223372036854775807 ∧ ∀ a ∈ l, p a := by
  obtain ⟨a, len, cap, rfl⟩ := okWide_slice ht hv
  obtain ⟨n, hn⟩ := h
  obtain ⟨v', xss, hcs, hsl, hlen, hx⟩ := trod_sl ht hk hk0 hn
  have e : v' = .slice a len cap := by simpa [Value.cells] using hcs.symm
  obtain ⟨l, rfl, hl⟩ := exists_map (f := f) (p := p) xss (fun xs hxs => by
    obtain ⟨_, n, x, h⟩ := hx xs hxs
    exact ho n xs x h)
  rw [e] at hsl
  exact ⟨l, hsl, by simpa using hlen, hl⟩
/-- A nil slice of the arguments is the nil one. -/
theorem openG_nil {P : Program} {T E : TypeId} (ht : P.underlying T = some (.slice E)) (h : DataW.Trod enc P w base spare held T v d ps) (hv : Value.okWide P w r base2 T v) : ∀ len cap, v = .slice none len cap → v = .slice none 0 0 := by
  obtain ⟨a, len, cap, rfl⟩ := okWide_slice ht hv
  obtain ⟨n, hn⟩ := h
  intro l c he
  rcases Go.Deep.open_slice ht hn with ⟨e, _⟩ | ⟨a', len', cap', m, q, D, Pl, e, _⟩
  · simpa [Value.cells] using e
  · simp [Value.cells] at e; obtain ⟨rfl, _⟩ := e; simp at he
end

end Go.Proofs.Ythdjinicmnhgpaa

/-
The flat types of relations and columns.
-/
namespace Go.Proofs.Ythdjinicmnhgpaa
open Go.RowKit Go.ChangeShapes Go.WideShapes Go.ChangeAt

theorem Try.flatColG : flat Try.prog 4 122 = some [9, 5, 4] := by kernel_rfl
theorem Try.flatRelG : flat Try.prog 4 49 = some [31, 31, 9, 5, 47] := by kernel_rfl
theorem Try.cellsColG : Try.prog.cellsOf 122 = 3 := by kernel_rfl

end Go.Proofs.Ythdjinicmnhgpaa

/-
Relations of the arguments, opened: none has more columns than a slice may have.
-/
namespace Go.Proofs.Ythdjinicmnhgpaa
open Go.RowKit Go.ChangeShapes Go.WideShapes Go.ChangeAt

section
variable {H : Type} {enc : TypeId × Value → H} {P : Program} {w : World} {base : Nat} {spare : Nat → Bool} {held : Bool}
theorem weightsAll_mem {e : TypeId} : ∀ {l : List (DataW H)} {d : DataW H}, d ∈ l → ∀ n ∈ d.weights P e, n ∈ DataW.weightsAll P e l
  | d' :: r, d, hd, n, hn => by
    simp only [DataW.weightsAll, List.mem_append]
    rcases List.mem_cons.1 hd with rfl | h
    · exact Or.inl hn
    · exact Or.inr (weightsAll_mem h n hn)
/-- A slice, opened: its elements' cells, what each reads as, and what it weighs. -/
theorem trod_slW {T E : TypeId} {k n : Nat} {cs : List Value} {x : DataW H × List MemPlace} (ht : P.underlying T = some (.slice E)) (hk : P.cellsOf E = k) (hk0 : 0 < k) (h : DataW.trod enc P w base spare held n T cs = some x) :
    ∃ v xss, cs = [v] ∧ Sl w v k xss ∧ xss.length ≤ 9223372036854775807 ∧ (xss = [] ∨ ∃ q ∈ x.1.weights P T, xss.length * P.bytesOf E ≤ q) ∧ ∀ xs ∈ xss, xs.length = k ∧ ∃ n y, DataW.trod enc P w base spare held n E xs = some y ∧ ∀ q ∈ y.1.weights P E, q ∈ x.1.weights P T := by
  rcases Go.Deep.open_slice ht h with ⟨rfl, rfl⟩ | ⟨a, len, cap, m, q, D, Pl, rfl, hb, hl, hm, hmm, hxx, hx⟩
  · exact ⟨_, [], rfl, ⟨none, 0, rfl, .inl rfl⟩, by simp, .inl rfl, by simp⟩
  · have hlm : len ≤ m := by rw [hmm]; split <;> omega
    have hw : ∀ i, i < len → ∀ q ∈ (D i).weights P E, q ∈ x.1.weights P T := fun i hi q hq => by
      rw [hxx]
      simp only [DataW.weights, ht, List.mem_cons, List.mem_append]
      exact .inr (.inl (weightsAll_mem (List.mem_map.2 ⟨i, List.mem_range.2 hi, rfl⟩) q hq))
    have hall : ∀ i, i < len → ∃ cs', w.cells? base (a.add (i * k)) k = some cs' ∧ DataW.trod enc P w base spare held q E cs' = some (D i, Pl i) := fun i hi => by
      have := hx i (by omega); rwa [hk] at this
    obtain ⟨C, hC⟩ := Go.Deep.choose_lt hall
    have hcl : cap ≤ 9223372036854775807 := hm
    refine ⟨_, (List.range len).map C, rfl, ?_, by simp; omega, .inr ⟨(len + (m - len)) * P.bytesOf E, ?_, ?_⟩, ?_⟩
    · refine ⟨some a, cap, by simp, ?_⟩
      by_cases h0 : len = 0
      · subst h0; exact .inl rfl
      · right
        have hc0 := (World.cells?_some (hC 0 (by omega)).1)
        have e0 : (a.add (0 * k)).add 0 = a := by unfold Addr.add; simp
        have hcell : (w.cell? a).isSome = true := by
          have := hc0.2.2 0 hk0
          rw [e0] at this
          rw [this, List.getElem?_eq_getElem (by omega)]; rfl
        have hsp : a.spot = none := by
          unfold World.cell? at hcell
          split at hcell
          · split at hcell
            · simp at hcell
            · rename_i hs; simpa using hs
          · simp at hcell
        have hlt : a.block < w.heap.size := by
          unfold World.cell? at hcell
          rcases Nat.lt_or_ge a.block w.heap.size with h1 | h1
          · exact h1
          · rw [Array.getElem?_eq_none h1] at hcell; simp at hcell
        refine ⟨a.block, a.off, by cases a; simp at hsp; subst hsp; rfl, hlt, ?_⟩
        intro i hi j hj
        simp only [List.length_map, List.length_range] at hi
        have h2 := (World.cells?_some (hC i hi).1).2.2 j hj
        rw [Go.Deep.add_add] at h2
        have e : a.add (i * k + j) = ⟨a.block, a.off + i * k + j, none⟩ := by
          unfold Addr.add
          split
          · rename_i hz
            have h3 : i * k = 0 := by omega
            have h4 : j = 0 := by omega
            cases a; simp at hsp; subst hsp; simp [h3, h4]
          · cases a; simp at hsp; subst hsp; simp
        rw [e] at h2
        rw [h2]
        simp [hi]
    · rw [hxx]
      simp only [DataW.weights, ht, List.mem_cons, List.length_map, List.length_range, true_or]
    · rw [List.length_map, List.length_range]
      exact Nat.mul_le_mul_right _ (by omega)
    · intro xs hxs
      simp only [List.mem_map, List.mem_range] at hxs
      obtain ⟨i, hi, rfl⟩ := hxs
      exact ⟨(World.cells?_some (hC i hi).1).2.1, _, _, (hC i hi).2, hw i hi⟩
end

theorem Try.cellsRelG : Try.prog.cellsOf 49 = 5 := by kernel_rfl
theorem Try.cellsColsG : Try.prog.cellsOf 47 = 1 := by kernel_rfl
theorem Try.bytesColG : Try.prog.bytesOf 122 = 24 := by kernel_rfl
section
variable {H : Type} {enc : TypeId × Value → H} {w : World} {base : Nat} {spare : Nat → Bool} {held : Bool} {r : Reach} {base2 : Nat} {v : Value} {d : DataW H} {ps : List MemPlace}
set_option maxRecDepth 20000 in
theorem openR_one {n : Nat} {cs : List Value} {x : DataW H × List MemPlace} (h : DataW.trod enc Try.prog w base spare held n 49 cs = some x) (hwt : ∀ q ∈ x.1.weights Try.prog 49, q ≤ reachBytes) :
    ∃ p : RR, cs = p.cells ∧ p.in w ∧ p.r.wb := by
  have hl := flat_open 4 _ _ n cs x Try.flatRelG h
  obtain ⟨xs, m, _, rfl, hlen, hxl, hf⟩ := DataW.trod_struct Try.underlying49 h
  match cs, hl with
  | [c0, c1, c2, c3, c4], ⟨l0, l1, l2, l3, l4, _⟩ =>
    obtain ⟨oid, rfl, h0⟩ := l0.int Try.underlying31
    obtain ⟨ver, rfl, h1⟩ := l1.int Try.underlying31
    obtain ⟨nm, rfl, h2⟩ := l2.string Try.underlying9
    obtain ⟨id, rfl, h3⟩ := l3.int Try.underlying5
    have h4 : DataW.trod enc Try.prog w base spare held m 47 ((([Value.int .u32 oid, .int .u32 ver, .string nm, .int .u8 id, c4] : List Value).drop 4).take (Try.prog.cellsOf 47)) = xs[3]? := (hf 3 _ rfl).trans rfl
    rw [Try.cellsColsG] at h4
    simp only [List.drop_succ_cons, List.drop_zero, List.take_succ_cons, List.take_zero] at h4
    have h3l : 3 < xs.length := by rw [hxl]; decide
    rw [List.getElem?_eq_getElem h3l] at h4
    have hwt2 : ∀ q ∈ (xs[3]).1.weights Try.prog 47, q ≤ reachBytes := fun q hq => by
      refine hwt q ?_
      simp only [DataW.weights, Try.underlying49]
      refine DataW.weights_mem_each (j := 3) (t := 47) (d := (xs[3]).1) rfl (by rw [List.getElem?_map, List.getElem?_eq_getElem h3l]; rfl) q hq
    obtain ⟨v', xss, hcs, hsl, hlen2, hw2, hx⟩ := trod_slW Try.underlying47 Try.cellsColG (by decide) h4
    obtain rfl : c4 = v' := by simpa using hcs
    obtain ⟨cols, rfl, hcl⟩ := exists_map (f := Col.cells) (p := fun c => c.nm.size ≤ 9223372036854775807) xss (fun xs hxs => by
      obtain ⟨_, n, x, h, _⟩ := hx xs hxs
      have hl := flat_open 4 _ _ n xs x Try.flatColG h
      match xs, hl with
      | [d0, d1, d2], ⟨m0, m1, m2, _⟩ =>
        obtain ⟨s, rfl, hs⟩ := m0.string Try.underlying9
        obtain ⟨ty, rfl, _⟩ := m1.int Try.underlying5
        obtain ⟨b, rfl⟩ := m2.bool Try.underlying4
        exact ⟨⟨s, ty, b⟩, rfl, hs⟩)
    obtain ⟨a, cap, rfl, hshape⟩ := hsl.shape (n := cols.length) (by simp)
    refine ⟨⟨⟨oid, ver, nm, id, cols⟩, a, cap⟩, rfl, hsl, ⟨h2, hcl, ?_, (wfG_u8 h3).1⟩⟩
    rcases hw2 with h0 | ⟨q, hq, hle⟩
    · have : cols = [] := by simpa using h0
      simp [this]
    · have h5 := hwt2 q hq
      rw [Try.bytesColG, List.length_map] at hle
      have h6 : reachBytes = 140737488351232 := rfl
      show cols.length ≤ 5864062014634
      omega
set_option maxRecDepth 20000 in
theorem openG_rels (h : DataW.Trod enc Try.prog w base spare held 22 v d ps) (hv : Value.okWide Try.prog w r base2 22 v) (hwt : ∀ q ∈ d.weights Try.prog 22, q ≤ reachBytes) :
    ∃ (l : List RR) (a : Option Addr) (cap : Nat), v = .slice a l.length cap ∧ RL w (.slice a l.length cap) l ∧ l.length ≤ 9223372036854775807 ∧ ∀ p ∈ l, p.r.wb := by
  obtain ⟨a, len, cap, rfl⟩ := okWide_slice Try.underlying22 hv
  obtain ⟨n, hn⟩ := h
  obtain ⟨v', xss, hcs, hsl, hlen, _, hx⟩ := trod_slW Try.underlying22 Try.cellsRelG (by decide) hn
  have e : v' = .slice a len cap := by simpa [Value.cells] using hcs.symm
  obtain ⟨l, rfl, hl⟩ := exists_map (f := RR.cells) (p := fun p => p.in w ∧ p.r.wb) xss (fun xs hxs => by
    obtain ⟨_, n, y, h, hq⟩ := hx xs hxs
    exact openR_one h (fun q hm => hwt q (hq q hm)))
  rw [e] at hsl
  obtain ⟨a', cap', he, hshape⟩ := hsl.shape (n := l.length) (by simp)
  simp only [Value.slice.injEq] at he
  obtain ⟨rfl, rfl, rfl⟩ := he
  exact ⟨l, a, cap, rfl, ⟨hsl, fun p hp => (hl p hp).1⟩, by simpa using hlen, fun p hp => (hl p hp).2⟩
set_option maxRecDepth 20000 in
theorem openG_rel1 (h : DataW.Trod enc Try.prog w base spare held 49 v d ps) (hv : Value.okWide Try.prog w r base2 49 v) (hwt : ∀ q ∈ d.weights Try.prog 49, q ≤ reachBytes) :
    ∃ p : RR, v = p.agg ∧ p.in w ∧ p.r.wb := by
  obtain ⟨cs, rfl, _⟩ := okWide_struct Try.underlying49 hv
  obtain ⟨n, hn⟩ := h
  obtain ⟨p, h1, h2, h3⟩ := openR_one hn hwt
  exact ⟨p, by unfold RR.agg; rw [show cs = #[.int .u32 p.r.oid, .int .u32 p.r.ver, .string p.r.nm, .int .u8 p.r.id, .slice p.a p.r.cols.length p.c] from Array.toList_inj.1 h1], h2, h3⟩
theorem Try.flatRefG : flat Try.prog 4 46 = some [31, 31] := by kernel_rfl
theorem Try.cellsRefG : Try.prog.cellsOf 46 = 2 := by kernel_rfl
set_option maxRecDepth 20000 in
theorem openG_refs (h : DataW.Trod enc Try.prog w base spare held 57 v d ps) (hv : Value.okWide Try.prog w r base2 57 v) :
    ∃ (l : List Rf) (a : Option Addr) (cap : Nat), v = .slice a l.length cap ∧ Sl w (.slice a l.length cap) 2 (l.map Rf.cells) ∧ l.length ≤ 9223372036854775807 := by
  obtain ⟨l, hsl, hl, hx⟩ := openG_slice (f := Rf.cells) (p := fun _ => True) Try.underlying57 Try.cellsRefG (by decide) (fun n xs x hx => by
    have hl := flat_open 4 _ _ n xs x Try.flatRefG hx
    match xs, hl with
    | [c0, c1], ⟨l0, l1, _⟩ =>
      obtain ⟨c, rfl, _⟩ := l0.int Try.underlying31
      obtain ⟨m, rfl, _⟩ := l1.int Try.underlying31
      exact ⟨⟨c, m⟩, rfl, trivial⟩) h hv
  obtain ⟨a, cap, rfl, hshape⟩ := hsl.shape (n := l.length) (by simp)
  exact ⟨l, a, cap, rfl, hsl, hl⟩
set_option maxRecDepth 20000 in
theorem openG_ref (h : DataW.Trod enc Try.prog w base spare held 46 v d ps) (hv : Value.okWide Try.prog w r base2 46 v) : ∃ o u : Int, v = .agg #[.int .u32 o, .int .u32 u] := by
  obtain ⟨cs, rfl, _⟩ := okWide_struct Try.underlying46 hv
  obtain ⟨n, hn⟩ := h
  have hl := flat_open 4 _ _ n _ _ Try.flatRefG hn
  have hl' : Lfs enc Try.prog w base spare held [31, 31] cs.toList := hl
  obtain ⟨cl, hcl2⟩ : ∃ cl, cs.toList = cl := ⟨_, rfl⟩
  rw [hcl2] at hl'
  match cl, hl' with
  | [c0, c1], ⟨l0, l1, _⟩ =>
    obtain ⟨o, rfl, _⟩ := l0.int Try.underlying31
    obtain ⟨u, rfl, _⟩ := l1.int Try.underlying31
    exact ⟨o, u, by rw [show cs = #[.int .u32 o, .int .u32 u] from Array.toList_inj.1 hcl2]⟩
end

end Go.Proofs.Ythdjinicmnhgpaa
