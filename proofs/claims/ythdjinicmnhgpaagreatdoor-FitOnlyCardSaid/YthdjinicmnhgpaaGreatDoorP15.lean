/-
What is wrong with an event: the reference's Right.
-/
import Derived.Test.YthdjinicmnhgpaaGreatDoorP14
namespace Go.Proofs.YthdjinicmnhgpaaGreatDoor
open Go.RowKit

theorem own_trunc {e : Ev} (hk : rowedB e.kind = false) : ownB e = true ↔ (rfB ⟨e.ao, e.av⟩ ⟨0, 0⟩ = true ∧ e.old = 0 ∧ e.b = [] ∧ e.a = []) := by
  unfold ownB Ev.only
  rw [if_neg (by rw [hk]; simp), evB_true, rfB_true]
  obtain ⟨k, ao, av, old, b, a, rs, fl⟩ := e
  simp only [Ev.mk.injEq, Rf.mk.injEq, true_and, and_true]
  constructor
  · rintro ⟨h1, h2, h3, h4, h5⟩; exact ⟨⟨h1, h2⟩, h3, h4, h5⟩
  · rintro ⟨⟨h1, h2⟩, h3, h4, h5⟩; exact ⟨h1, h2, h3, h4, h5⟩
theorem own_row {e : Ev} (hk : rowedB e.kind = true) : ownB e = true ↔ (e.rs = [] ∧ e.fl = 0) := by
  unfold ownB Ev.only
  rw [if_pos hk, evB_true]
  obtain ⟨k, ao, av, old, b, a, rs, fl⟩ := e
  simp only [Ev.mk.injEq, true_and]
theorem bool_ff {b : Bool} {p : Prop} (h : b = true ↔ p) (hn : ¬ p) : b = false := by
  cases b with
  | false => rfl
  | true => exact absurd (h.1 rfl) hn
theorem len_pos {α : Type} {l : List α} (h : 0 < l.length) : l ≠ [] := by rintro rfl; exact absurd h (by simp)

/-- The relations of the reference's catalog. -/
structure RCat (ps : List RR) : Prop where
  ok : CatOk (ps.map RR.r)
  wb : ∀ p ∈ ps, p.r.wb
theorem RCat.n16 {ps : List RR} (h : RCat ps) {p : RR} (hp : p ∈ ps) : p.r.cols.length ≤ 16 := Rl.cols_le (h.ok.right _ (List.mem_map_of_mem hp))

set_option maxRecDepth 100000 in set_option maxHeartbeats 4000000 in
theorem reright_any (x : EL) (ps : List RR) (a : Option Addr) (cap : Nat) (w : World) (hx : x.at 6 K.rc w) (hs : x.e.small) (hwk : x.e.wk) (hl : RL w (.slice a ps.length cap) ps) (hc : RCat ps) :
    Calls Tryz.prog 52 #[x.agg, .slice a ps.length cap] w fun e w' => e = .returned (.int .i64 (evE x.e (ps.map RR.r))) ∧ Ext w w' := by
  have HL := Hid.mk' hx.r
  have hn := hs.r
  have hpl : ps.length ≤ 1000 := by have := hc.ok.n64; rw [List.length_map] at this; omega
  have HG := Hid.mk' (fun o v W (h : Ext w W) => rget_any ps a cap o v W (hl.ext h) hpl)
  have HIM := Hid.mk' (fun (p : RR) (hp : p ∈ ps) W (h : Ext w W) =>
    (show Calls Tryz.prog 80 #[p.agg, .int .u8 x.e.kind, .int .u8 x.e.old, .slice x.ba x.e.b.length x.bc, .slice x.aa x.e.a.length x.ac] W (fun e w' => e = .returned (.int .i64 (imgE p.r x.e.kind x.e.old x.e.b x.e.a)) ∧ Ext W w') from
      rimage_any x.e.kind x.e.old x.e.b x.e.a x.ba x.aa x.bc x.ac p.r.oid p.r.ver p.r.nm p.r.id p.r.cols p.a p.c W ((hl.ext h).sl p hp) (by have := hc.n16 hp; omega) (hx.b.ext h) (hx.a.ext h) hs.b hs.a hwk.b hwk.a (hc.wb p hp).cs (hc.wb p hp).nm (hc.wb p hp).idn hwk.old))
  clear hx hs hwk hc hl
  obtain ⟨⟨k1, ao1, av1, old1, b1, a1, r1, fl1⟩, ba1, bc1, aa1, ac1, ra1, rc1⟩ := x
  unfold EL.agg
  simp only at HL hn HIM ⊢
  by_cases h0 : k1 < 4
  · have HR := Hid.mk' (show evE (⟨k1, ao1, av1, old1, b1, a1, r1, fl1⟩ : Ev) (ps.map RR.r) = 7 from if_pos (.inl h0))
    go_enter Tryz.func52, Tryz.ntmps52
    go_wp2
    go_ret
    exact ⟨ret_int HR.out.symm, by (repeat (with_reducible (first | exact Ext.refl _ | assumption | exact held_left (by assumption) | apply Ext.drewN | apply Ext.drew | apply Ext.alloc | (refine Ext.setCell ?_ (by first | (simp; done) | (simp; omega) | omega) _) | (refine Ext.trans ?_ (by assumption)) | (refine Ext.trans ?_ (held_left (by assumption))))))⟩
  by_cases h1 : 7 < k1
  · have HR := Hid.mk' (show evE (⟨k1, ao1, av1, old1, b1, a1, r1, fl1⟩ : Ev) (ps.map RR.r) = 7 from if_pos (.inr h1))
    go_enter Tryz.func52, Tryz.ntmps52
    go_wp2
    go_ret
    exact ⟨ret_int HR.out.symm, by (repeat (with_reducible (first | exact Ext.refl _ | assumption | exact held_left (by assumption) | apply Ext.drewN | apply Ext.drew | apply Ext.alloc | (refine Ext.setCell ?_ (by first | (simp; done) | (simp; omega) | omega) _) | (refine Ext.trans ?_ (by assumption)) | (refine Ext.trans ?_ (held_left (by assumption))))))⟩
  have HR0 := Hid.mk' (show evE (⟨k1, ao1, av1, old1, b1, a1, r1, fl1⟩ : Ev) (ps.map RR.r) = _ from if_neg (by simp only; omega))
  simp only at HR0
  by_cases h7 : k1 = 7
  · subst h7
    have hrow : rowedB 7 = false := rfl
    have hown := own_trunc (e := ⟨7, ao1, av1, old1, b1, a1, r1, fl1⟩) hrow
    simp only at hown
    cases hq : rfB ⟨ao1, av1⟩ ⟨0, 0⟩ with
    | false =>
      have HR := Hid.mk' (show evE ⟨7, ao1, av1, old1, b1, a1, r1, fl1⟩ (ps.map RR.r) = 3 from by rw [HR0.out, if_pos (bool_ff hown (fun h => by rw [h.1] at hq; cases hq))])
      have hQ := fun w => neq_rref ao1 av1 0 0 w
      rw [hq] at hQ
      clear hq hown HR0 hrow
      go_enter Tryz.func52, Tryz.ntmps52
      go_wp2
      go_ret
      exact ⟨ret_int HR.out.symm, by (repeat (with_reducible (first | exact Ext.refl _ | assumption | exact held_left (by assumption) | apply Ext.drewN | apply Ext.drew | apply Ext.alloc | (refine Ext.setCell ?_ (by first | (simp; done) | (simp; omega) | omega) _) | (refine Ext.trans ?_ (by assumption)) | (refine Ext.trans ?_ (held_left (by assumption))))))⟩
    | true =>
    have hQ := fun w => neq_rref ao1 av1 0 0 w
    rw [hq] at hQ
    by_cases ho : old1 = 0
    case neg =>
      have HR := Hid.mk' (show evE ⟨7, ao1, av1, old1, b1, a1, r1, fl1⟩ (ps.map RR.r) = 3 from by rw [HR0.out, if_pos (bool_ff hown (fun h => ho h.2.1))])
      have ho' : (old1 != 0) = true := by simpa using ho
      clear hq hown HR0 hrow ho
      go_enter Tryz.func52, Tryz.ntmps52
      go_wp2
      go_ret
      exact ⟨ret_int HR.out.symm, by (repeat (with_reducible (first | exact Ext.refl _ | assumption | exact held_left (by assumption) | apply Ext.drewN | apply Ext.drew | apply Ext.alloc | (refine Ext.setCell ?_ (by first | (simp; done) | (simp; omega) | omega) _) | (refine Ext.trans ?_ (by assumption)) | (refine Ext.trans ?_ (held_left (by assumption))))))⟩
    subst ho
    by_cases hb : 0 < b1.length
    · have HR := Hid.mk' (show evE ⟨7, ao1, av1, 0, b1, a1, r1, fl1⟩ (ps.map RR.r) = 3 from by rw [HR0.out, if_pos (bool_ff hown (fun h => len_pos hb h.2.2.1))])
      clear hq hown HR0 hrow
      go_enter Tryz.func52, Tryz.ntmps52
      go_wp2
      go_ret
      exact ⟨ret_int HR.out.symm, by (repeat (with_reducible (first | exact Ext.refl _ | assumption | exact held_left (by assumption) | apply Ext.drewN | apply Ext.drew | apply Ext.alloc | (refine Ext.setCell ?_ (by first | (simp; done) | (simp; omega) | omega) _) | (refine Ext.trans ?_ (by assumption)) | (refine Ext.trans ?_ (held_left (by assumption))))))⟩
    obtain rfl : b1 = [] := List.length_eq_zero_iff.1 (by omega)
    by_cases ha : 0 < a1.length
    · have HR := Hid.mk' (show evE ⟨7, ao1, av1, 0, [], a1, r1, fl1⟩ (ps.map RR.r) = 3 from by rw [HR0.out, if_pos (bool_ff hown (fun h => len_pos ha h.2.2.2))])
      clear hq hown HR0 hrow hb
      go_enter Tryz.func52, Tryz.ntmps52
      go_wp2
      go_ret
      exact ⟨ret_int HR.out.symm, by (repeat (with_reducible (first | exact Ext.refl _ | assumption | exact held_left (by assumption) | apply Ext.drewN | apply Ext.drew | apply Ext.alloc | (refine Ext.setCell ?_ (by first | (simp; done) | (simp; omega) | omega) _) | (refine Ext.trans ?_ (by assumption)) | (refine Ext.trans ?_ (held_left (by assumption))))))⟩
    obtain rfl : a1 = [] := List.length_eq_zero_iff.1 (by omega)
    have HRT := Hid.mk' (show evE ⟨7, ao1, av1, 0, [], [], r1, fl1⟩ (ps.map RR.r) = truncE ⟨7, ao1, av1, 0, [], [], r1, fl1⟩ (ps.map RR.r) from by
      rw [HR0.out, if_neg (by rw [hown.2 ⟨hq, rfl, rfl, rfl⟩]; simp), if_pos rfl])
    clear hq hown HR0 hrow hb ha
    generalize evE ⟨7, ao1, av1, 0, [], [], r1, fl1⟩ (ps.map RR.r) = R at HRT ⊢
    by_cases hz : r1.length = 0
    · have HR := Hid.mk' (show R = 17 from by rw [HRT.out]; exact if_pos (.inl (by simp only; omega)))
      obtain rfl : r1 = [] := List.length_eq_zero_iff.1 hz
      clear HRT
      go_enter Tryz.func52, Tryz.ntmps52
      go_wp2
      go_ret
      exact ⟨ret_int HR.out.symm, by (repeat (with_reducible (first | exact Ext.refl _ | assumption | exact held_left (by assumption) | apply Ext.drewN | apply Ext.drew | apply Ext.alloc | (refine Ext.setCell ?_ (by first | (simp; done) | (simp; omega) | omega) _) | (refine Ext.trans ?_ (by assumption)) | (refine Ext.trans ?_ (held_left (by assumption))))))⟩
    have hz' : (((r1.length : Nat) : Int) == 0) = false := by simp; intro e; exact hz (by rw [e]; rfl)
    have HLP := Hid.mk' (show 0 < r1.length by omega)
    clear hz
    by_cases h8 : 8 < r1.length
    · have HR := Hid.mk' (show R = 17 from by rw [HRT.out]; exact if_pos (.inr h8))
      clear HRT
      go_enter Tryz.func52, Tryz.ntmps52
      go_wp2
      go_ret
      exact ⟨ret_int HR.out.symm, by (repeat (with_reducible (first | exact Ext.refl _ | assumption | exact held_left (by assumption) | apply Ext.drewN | apply Ext.drew | apply Ext.alloc | (refine Ext.setCell ?_ (by first | (simp; done) | (simp; omega) | omega) _) | (refine Ext.trans ?_ (by assumption)) | (refine Ext.trans ?_ (held_left (by assumption))))))⟩
    have HRR := Hid.mk' (show R = if risB r1 = false then 15 else if hasAll r1 (ps.map RR.r) = false then 10 else if 3 < fl1 then 4 else 0 from by rw [HRT.out]; exact if_neg (by have := HLP.out; simp only; omega))
    clear HRT
    go_enter Tryz.func52, Tryz.ntmps52
    go_wp2
    go_loopw [5] (fun i wr => ∃ k : Nat, k + 1 ≤ r1.length ∧ i = .int .i64 ((k : Int) + 1) ∧ Hid (∀ j (h : j + 1 < r1.length), j < k → aheadB r1[j].o r1[j].v r1[j + 1].o r1[j + 1].v = true) ∧ Hid (Blk wr w.heap.size #[.int .u8 7, .int .u32 ao1, .int .u32 av1, .int .u8 0, .slice ba1 0 bc1, .slice aa1 0 ac1, .slice ra1 r1.length rc1, .int .u8 fl1] 67) ∧ Hid (Ext w wr)) (fun i _ => r1.length - (intOf i).toNat)
    case atStart => exact ⟨0, HLP.out, rfl, Hid.mk' (fun j _ h => by omega), Hid.mk' (Blk.new _ _ _), Hid.mk' (by (repeat (with_reducible (first | exact Ext.refl _ | assumption | exact held_left (by assumption) | apply Ext.drewN | apply Ext.drew | apply Ext.alloc | (refine Ext.setCell ?_ (by first | (simp; done) | (simp; omega) | omega) _) | (refine Ext.trans ?_ (by assumption)) | (refine Ext.trans ?_ (held_left (by assumption)))))))⟩
    case round =>
      obtain ⟨k, hk, rfl, hrel, hX, hE⟩ := hrel
      have gv := hX.out.cell
      have zv := hX.out.lt
      by_cases hlt : k + 1 < r1.length
      · have hlt0 : k < r1.length := by omega
        obtain ⟨o1, p1, rfl, hb1, hx1⟩ := HL.out.at_ (i := k) (by simpa using hlt0)
        obtain ⟨f0, f1⟩ := Rf.at_ hlt0 hx1 hb1 hE.out
        obtain ⟨o2, p2, he2, hb2, hx2⟩ := HL.out.at_ (i := k + 1) (by simpa using hlt)
        simp only [Option.some.injEq, Addr.mk.injEq] at he2
        obtain ⟨rfl, rfl, -⟩ := he2
        obtain ⟨s0, s1⟩ := Rf.at_ hlt hx2 hb2 hE.out
        have hbw : o1 < wr.heap.size := Nat.lt_of_lt_of_le hb1 hE.out.size
        have HCP := Hid.mk' (fun W => rahead_any r1[k].o r1[k].v r1[k + 1].o r1[k + 1].v W)
        have q1 : IntKind.i64.wrap (k : Int) = (k : Int) := IntWalk.i64_in _ (by omega)
        have q2 : ((k : Int) + 1).toNat = k + 1 := by omega
        have i1 : (k : Int) < (r1.length : Int) := by omega
        have i2 : (k : Int) + 1 < (r1.length : Int) := by omega
        have i3 : (0 : Int) ≤ (k : Int) + 1 := by omega
        have i4 : (0 : Int) ≤ (k : Int) := by omega
        clear hx1 hx2
        cases hA : aheadB r1[k].o r1[k].v r1[k + 1].o r1[k + 1].v with
        | true =>
          have HA := Hid.mk' hA
          rw [hA] at HCP
          clear hA
          go_wp2
          go_region_held3 (fun w' => Ext (wr) w' ∧ (∀ b o, b < (wr).heap.size → w'.cell? ⟨b, o, none⟩ = (wr).cell? ⟨b, o, none⟩) ∧ (∀ b o, b < (wr).heap.size → w'.frozen? ⟨b, o, none⟩ = (wr).frozen? ⟨b, o, none⟩)) ((exact held_of (by (repeat (with_reducible (first | exact Ext.refl _ | assumption | exact held_left (by assumption) | apply Ext.drewN | apply Ext.drew | apply Ext.alloc | (refine Ext.setCell ?_ (by first | (simp; done) | (simp; omega) | omega) _) | (refine Ext.trans ?_ (by assumption)) | (refine Ext.trans ?_ (held_left (by assumption))))))))) ((go_at_call 44; refine (HCP.out _).mono ?_; rintro e w2 ⟨rfl, hb2⟩))
          clear q1 q2
          go_wp2
          go_roundw
          case rel => exact ⟨k + 1, by omega, by go_num, Hid.mk' (fun j h hj => by
            by_cases e : j = k
            · subst e; exact HA.out
            · exact hrel.out j h (by omega)), Hid.mk' (hX.out.ext (by (repeat (with_reducible (first | exact Ext.refl _ | assumption | exact held_left (by assumption) | apply Ext.drewN | apply Ext.drew | apply Ext.alloc | (refine Ext.setCell ?_ (by first | (simp; done) | (simp; omega) | omega) _) | (refine Ext.trans ?_ (by assumption)) | (refine Ext.trans ?_ (held_left (by assumption)))))))), Hid.mk' (hE.out.trans (by (repeat (with_reducible (first | exact Ext.refl _ | assumption | exact held_left (by assumption) | apply Ext.drewN | apply Ext.drew | apply Ext.alloc | (refine Ext.setCell ?_ (by first | (simp; done) | (simp; omega) | omega) _) | (refine Ext.trans ?_ (by assumption)) | (refine Ext.trans ?_ (held_left (by assumption))))))))⟩
          case measure => simp [intOf]; omega
        | false =>
          have HR := Hid.mk' (show R = 15 from by rw [HRR.out, if_pos (risB_no hlt hA)])
          rw [hA] at HCP
          clear hA
          go_wp2
          go_region_held3 (fun w' => Ext (wr) w' ∧ (∀ b o, b < (wr).heap.size → w'.cell? ⟨b, o, none⟩ = (wr).cell? ⟨b, o, none⟩) ∧ (∀ b o, b < (wr).heap.size → w'.frozen? ⟨b, o, none⟩ = (wr).frozen? ⟨b, o, none⟩)) ((exact held_of (by (repeat (with_reducible (first | exact Ext.refl _ | assumption | exact held_left (by assumption) | apply Ext.drewN | apply Ext.drew | apply Ext.alloc | (refine Ext.setCell ?_ (by first | (simp; done) | (simp; omega) | omega) _) | (refine Ext.trans ?_ (by assumption)) | (refine Ext.trans ?_ (held_left (by assumption))))))))) ((go_at_call 44; refine (HCP.out _).mono ?_; rintro e w2 ⟨rfl, hb2⟩))
          clear q1 q2
          go_wp2
          go_ret
          exact ⟨ret_int HR.out.symm, hE.out.trans (by (repeat (with_reducible (first | exact Ext.refl _ | assumption | exact held_left (by assumption) | apply Ext.drewN | apply Ext.drew | apply Ext.alloc | (refine Ext.setCell ?_ (by first | (simp; done) | (simp; omega) | omega) _) | (refine Ext.trans ?_ (by assumption)) | (refine Ext.trans ?_ (held_left (by assumption)))))))⟩
      · have HR1 := Hid.mk' (show R = if hasAll r1 (ps.map RR.r) = false then 10 else if 3 < fl1 then 4 else 0 from by rw [HRR.out, if_neg (by rw [risB_true.2 (fun i h => hrel.out i h (by omega))]; simp)])
        clear HRR hrel
        obtain ⟨wo, hwo⟩ : ∃ x, x = wr := ⟨_, rfl⟩
        subst hwo
        go_wp2
        go_loopw [6] (fun i wr => ∃ k : Nat, k ≤ r1.length ∧ i = .int .i64 k ∧ Hid (∀ j (h : j < r1.length), j < k → hasR r1[j].o r1[j].v (ps.map RR.r) = true) ∧ Hid (Ext wo wr)) (fun i _ => r1.length - (intOf i).toNat)
        case atStart => exact ⟨0, by omega, rfl, Hid.mk' (fun j _ h => by omega), Hid.mk' (by (repeat (with_reducible (first | exact Ext.refl _ | assumption | exact held_left (by assumption) | apply Ext.drewN | apply Ext.drew | apply Ext.alloc | (refine Ext.setCell ?_ (by first | (simp; done) | (simp; omega) | omega) _) | (refine Ext.trans ?_ (by assumption)) | (refine Ext.trans ?_ (held_left (by assumption)))))))⟩
        case round =>
          obtain ⟨m, hm, rfl, hrel, hF⟩ := hrel
          have gv2 := (hX.out.ext hF.out).cell
          have zv2 := (hX.out.ext hF.out).lt
          clear gv zv
          by_cases hlt2 : m < r1.length
          · obtain ⟨o1, p1, rfl, hb1, hx1⟩ := HL.out.at_ (i := m) (by simpa using hlt2)
            obtain ⟨f0, f1⟩ := Rf.at_ hlt2 hx1 hb1 (hE.out.trans hF.out)
            have hbw : o1 < wr.heap.size := Nat.lt_of_lt_of_le hb1 (hE.out.trans hF.out).size
            have HGT := Hid.mk' (fun W (h : Ext wr W) => HG.out r1[m].o r1[m].v W (hE.out.trans (hF.out.trans h)))
            rw [getP_is] at HGT
            obtain ⟨q, hq⟩ : ∃ q, q = (getP r1[m].o r1[m].v ps).getD RR.zero := ⟨_, rfl⟩
            rw [← hq] at HGT
            obtain ⟨⟨oid, ver, nm, id, cols⟩, qa, qc⟩ := q
            unfold RR.agg at HGT
            simp only at HGT
            clear hx1 hq
            cases hA : hasR r1[m].o r1[m].v (ps.map RR.r) with
            | true =>
              have HA := Hid.mk' hA
              rw [hA] at HGT
              clear hA
              go_wp2_with (go_at_call 39; refine (HGT.out _ (by (repeat (with_reducible (first | exact Ext.refl _ | assumption | exact held_left (by assumption) | apply Ext.drewN | apply Ext.drew | apply Ext.alloc | (refine Ext.setCell ?_ (by first | (simp; done) | (simp; omega) | omega) _) | (refine Ext.trans ?_ (by assumption)) | (refine Ext.trans ?_ (held_left (by assumption)))))))).mono ?_; rintro e w3 ⟨rfl, hb3⟩)
              go_roundw
              case rel => exact ⟨m + 1, by omega, by go_num, Hid.mk' (fun j h hj => by
                by_cases e : j = m
                · subst e; exact HA.out
                · exact hrel.out j h (by omega)), Hid.mk' (hF.out.trans (by (repeat (with_reducible (first | exact Ext.refl _ | assumption | exact held_left (by assumption) | apply Ext.drewN | apply Ext.drew | apply Ext.alloc | (refine Ext.setCell ?_ (by first | (simp; done) | (simp; omega) | omega) _) | (refine Ext.trans ?_ (by assumption)) | (refine Ext.trans ?_ (held_left (by assumption))))))))⟩
              case measure => simp [intOf]; omega
            | false =>
              have HR := Hid.mk' (show R = 10 from by rw [HR1.out, if_pos (hasAll_no hlt2 hA)])
              rw [hA] at HGT
              clear hA
              go_wp2_with (go_at_call 39; refine (HGT.out _ (by (repeat (with_reducible (first | exact Ext.refl _ | assumption | exact held_left (by assumption) | apply Ext.drewN | apply Ext.drew | apply Ext.alloc | (refine Ext.setCell ?_ (by first | (simp; done) | (simp; omega) | omega) _) | (refine Ext.trans ?_ (by assumption)) | (refine Ext.trans ?_ (held_left (by assumption)))))))).mono ?_; rintro e w3 ⟨rfl, hb3⟩)
              go_ret
              exact ⟨ret_int HR.out.symm, hE.out.trans (hF.out.trans (by (repeat (with_reducible (first | exact Ext.refl _ | assumption | exact held_left (by assumption) | apply Ext.drewN | apply Ext.drew | apply Ext.alloc | (refine Ext.setCell ?_ (by first | (simp; done) | (simp; omega) | omega) _) | (refine Ext.trans ?_ (by assumption)) | (refine Ext.trans ?_ (held_left (by assumption))))))))⟩
          · have HR2 := Hid.mk' (show R = if 3 < fl1 then 4 else 0 from by rw [HR1.out, if_neg (by rw [hasAll_yes (fun i h => hrel.out i h (by omega))]; simp)])
            clear HR1 hrel
            by_cases h3 : 3 < fl1
            · have HR := Hid.mk' (show R = 4 from by rw [HR2.out, if_pos h3])
              go_wp2
              go_ret
              exact ⟨ret_int HR.out.symm, hE.out.trans hF.out⟩
            · have HR := Hid.mk' (show R = 0 from by rw [HR2.out, if_neg h3])
              go_wp2
              go_ret
              exact ⟨ret_int HR.out.symm, hE.out.trans hF.out⟩
  · have hrow : rowedB k1 = true := decide_eq_true (by omega)
    have hown := own_row (e := (⟨k1, ao1, av1, old1, b1, a1, r1, fl1⟩ : Ev)) hrow
    simp only at hown
    have h7' : (k1 == 7) = false := by simpa using h7
    by_cases hb : 0 < r1.length
    · have HR := Hid.mk' (show evE (⟨k1, ao1, av1, old1, b1, a1, r1, fl1⟩ : Ev) (ps.map RR.r) = 3 from by rw [HR0.out, if_pos (bool_ff hown (fun h => len_pos hb h.1))])
      clear hown HR0 hrow h7
      go_enter Tryz.func52, Tryz.ntmps52
      go_wp2
      go_ret
      exact ⟨ret_int HR.out.symm, by (repeat (with_reducible (first | exact Ext.refl _ | assumption | exact held_left (by assumption) | apply Ext.drewN | apply Ext.drew | apply Ext.alloc | (refine Ext.setCell ?_ (by first | (simp; done) | (simp; omega) | omega) _) | (refine Ext.trans ?_ (by assumption)) | (refine Ext.trans ?_ (held_left (by assumption))))))⟩
    obtain rfl : r1 = [] := List.length_eq_zero_iff.1 (by omega)
    by_cases hf : fl1 = 0
    case neg =>
      have HR := Hid.mk' (show evE ⟨k1, ao1, av1, old1, b1, a1, [], fl1⟩ (ps.map RR.r) = 3 from by rw [HR0.out, if_pos (bool_ff hown (fun h => hf h.2))])
      have hf' : (fl1 != 0) = true := by simpa using hf
      clear hown HR0 hrow h7 hf hb
      go_enter Tryz.func52, Tryz.ntmps52
      go_wp2
      go_ret
      exact ⟨ret_int HR.out.symm, by (repeat (with_reducible (first | exact Ext.refl _ | assumption | exact held_left (by assumption) | apply Ext.drewN | apply Ext.drew | apply Ext.alloc | (refine Ext.setCell ?_ (by first | (simp; done) | (simp; omega) | omega) _) | (refine Ext.trans ?_ (by assumption)) | (refine Ext.trans ?_ (held_left (by assumption))))))⟩
    subst hf
    have HR1 := Hid.mk' (show evE ⟨k1, ao1, av1, old1, b1, a1, [], 0⟩ (ps.map RR.r) = _ from by rw [HR0.out, if_neg (by rw [hown.2 ⟨rfl, rfl⟩]; simp), if_neg h7])
    generalize evE ⟨k1, ao1, av1, old1, b1, a1, [], 0⟩ (ps.map RR.r) = R at HR1 ⊢
    clear hown HR0 hrow h7 hb
    have HGT := Hid.mk' (fun W (h : Ext w W) => HG.out ao1 av1 W h)
    rw [getP_is] at HGT
    cases hg : getP ao1 av1 ps with
    | none =>
      have hgr : getR ao1 av1 (ps.map RR.r) = none := by rw [← getP_map, hg]; rfl
      have hh := getR_none.1 hgr
      have HR := Hid.mk' (show R = 10 from by rw [HR1.out, hgr])
      rw [hg, hh] at HGT
      clear hg hgr hh HR1
      simp only [Option.getD_none] at HGT
      unfold RR.agg RR.zero at HGT
      go_enter Tryz.func52, Tryz.ntmps52
      go_wp2_with (go_at_call 39; refine (HGT.out _ (by (repeat (with_reducible (first | exact Ext.refl _ | assumption | exact held_left (by assumption) | apply Ext.drewN | apply Ext.drew | apply Ext.alloc | (refine Ext.setCell ?_ (by first | (simp; done) | (simp; omega) | omega) _) | (refine Ext.trans ?_ (by assumption)) | (refine Ext.trans ?_ (held_left (by assumption)))))))).mono ?_; rintro e w3 ⟨rfl, hb3⟩)
      go_ret
      exact ⟨ret_int HR.out.symm, by (repeat (with_reducible (first | exact Ext.refl _ | assumption | exact held_left (by assumption) | apply Ext.drewN | apply Ext.drew | apply Ext.alloc | (refine Ext.setCell ?_ (by first | (simp; done) | (simp; omega) | omega) _) | (refine Ext.trans ?_ (by assumption)) | (refine Ext.trans ?_ (held_left (by assumption))))))⟩
    | some p =>
      have hgr : getR ao1 av1 (ps.map RR.r) = some p.r := by rw [← getP_map, hg]; rfl
      have hh : hasR ao1 av1 (ps.map RR.r) = true := by rw [← getP_is, hg]; rfl
      have HR := Hid.mk' (show R = imgE p.r k1 old1 b1 a1 from by rw [HR1.out, hgr])
      have HI := Hid.mk' (HIM.out p (getP_some hg).1)
      rw [hg, hh] at HGT
      rw [← HR.out] at HI
      clear hg hgr hh HR1 HR HIM
      simp only [Option.getD_some] at HGT
      obtain ⟨⟨oid, ver, nm, id, cols⟩, qa, qc⟩ := p
      unfold RR.agg at HGT HI
      simp only at HGT HI
      go_enter Tryz.func52, Tryz.ntmps52
      go_wp2_with (first
        | (go_at_call 39; refine (HGT.out _ (by (repeat (with_reducible (first | exact Ext.refl _ | assumption | exact held_left (by assumption) | apply Ext.drewN | apply Ext.drew | apply Ext.alloc | (refine Ext.setCell ?_ (by first | (simp; done) | (simp; omega) | omega) _) | (refine Ext.trans ?_ (by assumption)) | (refine Ext.trans ?_ (held_left (by assumption)))))))).mono ?_; rintro e w3 ⟨rfl, hb3⟩; (have hE_w3 : Ext (w.alloc (.cells #[.int .u8 k1, .int .u32 ao1, .int .u32 av1, .int .u8 old1, .slice ba1 b1.length bc1, .slice aa1 a1.length ac1, .slice ra1 0 rc1, .int .u8 0] 67)) w3 := (by (repeat (with_reducible (first | exact Ext.refl _ | assumption | exact held_left (by assumption) | apply Ext.drewN | apply Ext.drew | apply Ext.alloc | (refine Ext.setCell ?_ (by first | (simp; done) | (simp; omega) | omega) _) | (refine Ext.trans ?_ (by assumption)) | (refine Ext.trans ?_ (held_left (by assumption))))))); obtain ⟨hc_w3, hf_w3⟩ := hE_w3.cells; have hz_w3 := hE_w3.size); have z3 : w.heap.size < w3.heap.size := (by have := hE_w3.size; simp at this; omega))
        | (go_at_call 80; refine (HI.out _ (by (repeat (with_reducible (first | exact Ext.refl _ | assumption | exact held_left (by assumption) | apply Ext.drewN | apply Ext.drew | apply Ext.alloc | (refine Ext.setCell ?_ (by first | (simp; done) | (simp; omega) | omega) _) | (refine Ext.trans ?_ (by assumption)) | (refine Ext.trans ?_ (held_left (by assumption)))))))).mono ?_; rintro e w4 ⟨rfl, hb4⟩))
      go_ret
      exact ⟨rfl, by (repeat (with_reducible (first | exact Ext.refl _ | assumption | exact held_left (by assumption) | apply Ext.drewN | apply Ext.drew | apply Ext.alloc | (refine Ext.setCell ?_ (by first | (simp; done) | (simp; omega) | omega) _) | (refine Ext.trans ?_ (by assumption)) | (refine Ext.trans ?_ (held_left (by assumption))))))⟩

end Go.Proofs.YthdjinicmnhgpaaGreatDoor


/-
Whether two transactions are alike, the program's answer and the reference's; what is wrong with one, the reference's answer.
-/
namespace Go.Proofs.YthdjinicmnhgpaaGreatDoor
open Go.RowKit

noncomputable def esB (l m : List Ev) : Bool := @decide (l = m) (Classical.propDecidable _)
noncomputable def txB (l m : Tx) : Bool := @decide (l = m) (Classical.propDecidable _)
theorem esB_true {l m : List Ev} : esB l m = true ↔ l = m := by unfold esB; simp
theorem esB_false {l m : List Ev} : esB l m = false ↔ l ≠ m := by unfold esB; simp
theorem txB_true {l m : Tx} : txB l m = true ↔ l = m := by unfold txB; simp
theorem txB_false {l m : Tx} : txB l m = false ↔ l ≠ m := by unfold txB; simp
theorem esB_at {l m : List EL} {k : Nat} (h1 : k < l.length) (h2 : k < m.length) (h : evB l[k].e m[k].e = false) : esB (l.map EL.e) (m.map EL.e) = false := esB_false.2 (fun e => evB_false.1 h (by
  have h3 := congrArg (fun z => z[k]?) e
  simpa [h1, h2] using h3))
theorem esB_len {l m : List EL} (h : l.length ≠ m.length) : esB (l.map EL.e) (m.map EL.e) = false := esB_false.2 (fun e => h (by have := congrArg List.length e; simpa using this))
theorem esB_all {l m : List EL} (h0 : l.length = m.length) (h : ∀ i (h1 : i < l.length) (h2 : i < m.length), evB l[i].e m[i].e = true) : esB (l.map EL.e) (m.map EL.e) = true :=
  esB_true.2 (List.ext_getElem (by simpa using h0) (fun i h1 h2 => by
    have := evB_true.1 (h i (by simpa using h1) (by simpa using h2))
    simpa using this))
theorem txB_eq {x1 s1 x2 s2 : Int} {l m : List Ev} : txB ⟨x1, s1, l⟩ ⟨x2, s2, m⟩ = (decide (x1 = x2) && decide (s1 = s2) && esB l m) := by
  rw [Bool.eq_iff_iff, txB_true, Bool.and_eq_true, Bool.and_eq_true, decide_eq_true_iff, decide_eq_true_iff, esB_true]
  constructor
  · intro h
    injection h with a b c
    exact ⟨⟨a, b⟩, c⟩
  · rintro ⟨⟨rfl, rfl⟩, rfl⟩; rfl

set_option maxRecDepth 100000 in set_option maxHeartbeats 4000000 in
theorem rrighttx_any (t : TL) (ps : List RR) (a : Option Addr) (cap : Nat) (w : World) (ht : t.at 6 K.rc w) (hn : t.es.length ≤ 1000) (hs : ∀ e ∈ t.es, e.e.small) (hwk : ∀ e ∈ t.es, e.e.wk) (hl : RL w (.slice a ps.length cap) ps) (hc : RCat ps) :
    Calls Tryz.prog 29 #[t.agg, .slice a ps.length cap] w fun e w' => e = .returned (.tuple #[.int .i64 (rtP t.t (ps.map RR.r)), .int .i64 (rtE t.t (ps.map RR.r))]) ∧ Ext w w' := by
  have HT := Hid.mk' ht
  have HER := Hid.mk' (fun x (hx : x ∈ t.es) W (h : Ext w W) => reright_any x ps a cap W ((ht.sl x hx).ext h) (hs x hx) (hwk x hx) (hl.ext h) hc)
  clear ht hs hwk hl hc
  obtain ⟨xid, st, es, ta, tc⟩ := t
  unfold TL.agg TL.t
  simp only at HER hn ⊢
  have HT2 : Hid (ES 6 K.rc w (.slice ta es.length tc) es) := HT
  clear HT
  by_cases h0 : xid = 0
  · subst h0
    have HR := Hid.mk' (show rtE ⟨0, st, es.map EL.e⟩ (ps.map RR.r) = 4 ∧ rtP ⟨0, st, es.map EL.e⟩ (ps.map RR.r) = -1 from ⟨if_pos rfl, if_pos rfl⟩)
    go_enter Tryz.func29, Tryz.ntmps29
    go_wp2
    go_ret2
    exact ⟨by rw [HR.out.1, HR.out.2]; rfl, by (repeat (with_reducible (first | exact Ext.refl _ | assumption | exact held_left (by assumption) | apply Ext.drewN | apply Ext.drew | apply Ext.alloc | (refine Ext.setCell ?_ (by first | (simp; done) | (simp; omega) | omega) _) | (refine Ext.trans ?_ (by assumption)) | (refine Ext.trans ?_ (held_left (by assumption))))))⟩
  have h0' : (xid == 0) = false := by simpa using h0
  have H0 := Hid.mk' h0
  clear h0
  by_cases h5 : 512 < es.length
  · have HR := Hid.mk' (show rtE (⟨xid, st, es.map EL.e⟩ : Tx) (ps.map RR.r) = 8 ∧ rtP (⟨xid, st, es.map EL.e⟩ : Tx) (ps.map RR.r) = -1 from ⟨by unfold rtE; rw [if_neg H0.out, if_pos (by simpa using h5)], by unfold rtP; rw [if_neg H0.out, if_pos (by simpa using h5)]⟩)
    go_enter Tryz.func29, Tryz.ntmps29
    go_wp2
    go_ret2
    exact ⟨by rw [HR.out.1, HR.out.2]; rfl, by (repeat (with_reducible (first | exact Ext.refl _ | assumption | exact held_left (by assumption) | apply Ext.drewN | apply Ext.drew | apply Ext.alloc | (refine Ext.setCell ?_ (by first | (simp; done) | (simp; omega) | omega) _) | (refine Ext.trans ?_ (by assumption)) | (refine Ext.trans ?_ (held_left (by assumption))))))⟩
  have HL5 := Hid.mk' (show (⟨xid, st, es.map EL.e⟩ : Tx).es.length ≤ 512 by simp only [List.length_map]; omega)
  go_enter Tryz.func29, Tryz.ntmps29
  go_wp2
  go_loopw [6] (fun i wr => ∃ k : Nat, k ≤ es.length ∧ i = .int .i64 k ∧ Hid (∀ j, j < k → evAt (es.map EL.e) (ps.map RR.r) j = 0) ∧ Hid (Ext (w.alloc (.cells #[.int .u32 xid, .int .u64 st, .slice ta es.length tc] 63)) wr)) (fun i _ => es.length - (intOf i).toNat)
  case atStart => exact ⟨0, Nat.zero_le _, rfl, Hid.mk' (fun j h => by omega), Hid.mk' (Ext.refl _)⟩
  case round =>
    obtain ⟨k, hk, rfl, hz, hE0⟩ := hrel
    have hE : Hid (Ext w wr) := Hid.mk' (((Ext.refl w).alloc _).trans hE0.out)
    have hV := (Blk.new w #[.int .u32 xid, .int .u64 st, .slice ta es.length tc] 63).ext hE0.out
    have gv := hV.cell
    have zv := hV.lt
    clear hV
    by_cases hlt : k < es.length
    · obtain ⟨b, o, rfl, hb, hx⟩ := HT2.out.row.at_ (i := k) (by simpa using hlt)
      obtain ⟨g0, g1, g2, g3, g4, g5, g6, g7⟩ := EL.at_ hlt hx hb hE.out
      have hbw : b < wr.heap.size := Nat.lt_of_lt_of_le hb hE.out.size
      have HEK := Hid.mk' (HER.out _ (List.getElem_mem hlt))
      have HAT := Hid.mk' (evAt_map (l := ps.map RR.r) hlt)
      obtain ⟨x, hxx⟩ : ∃ x, x = es[k] := ⟨_, rfl⟩
      rw [← hxx] at g0 g1 g2 g3 g4 g5 g6 g7 HEK HAT
      have HLT := Hid.mk' hlt
      clear hxx hx
      obtain ⟨⟨k1, ao1, av1, old1, b1, a1, r1, fl1⟩, ba1, bc1, aa1, ac1, ra1, rc1⟩ := x
      unfold EL.agg at HEK
      simp only at g0 g1 g2 g3 g4 g5 g6 g7 HEK HAT
      obtain ⟨E, hEE⟩ : ∃ E, E = evE ⟨k1, ao1, av1, old1, b1, a1, r1, fl1⟩ (ps.map RR.r) := ⟨_, rfl⟩
      rw [← hEE] at HEK HAT
      clear hEE
      by_cases hE1 : E = 0
      · subst hE1
        go_wp2_with (go_at_call 52; refine (HEK.out _ (hE.out.trans (by (repeat (with_reducible (first | exact Ext.refl _ | assumption | exact held_left (by assumption) | apply Ext.drewN | apply Ext.drew | apply Ext.alloc | (refine Ext.setCell ?_ (by first | (simp; done) | (simp; omega) | omega) _) | (refine Ext.trans ?_ (by assumption)) | (refine Ext.trans ?_ (held_left (by assumption))))))))).mono ?_; rintro e w2 ⟨rfl, hb2⟩)
        go_roundw
        case rel => exact ⟨k + 1, by omega, by go_num, Hid.mk' (fun j hj => by
          by_cases e : j = k
          · subst e; exact HAT.out
          · exact hz.out j (by omega)), Hid.mk' (hE0.out.trans (by (repeat (with_reducible (first | exact Ext.refl _ | assumption | exact held_left (by assumption) | apply Ext.drewN | apply Ext.drew | apply Ext.alloc | (refine Ext.setCell ?_ (by first | (simp; done) | (simp; omega) | omega) _) | (refine Ext.trans ?_ (by assumption)) | (refine Ext.trans ?_ (held_left (by assumption))))))))⟩
        case measure => simp [intOf]; omega
      · have hE2 : (E != 0) = true := by simpa using hE1
        have HR := Hid.mk' (rt_bad (t := (⟨xid, st, es.map EL.e⟩ : Tx)) (l := ps.map RR.r) H0.out HL5.out (by simpa using HLT.out) hz.out (by rw [show (⟨xid, st, es.map EL.e⟩ : Tx).es = es.map EL.e from rfl, HAT.out]; exact hE1))
        rw [show (⟨xid, st, es.map EL.e⟩ : Tx).es = es.map EL.e from rfl, HAT.out] at HR
        clear hE1
        go_wp2_with (go_at_call 52; refine (HEK.out _ (hE.out.trans (by (repeat (with_reducible (first | exact Ext.refl _ | assumption | exact held_left (by assumption) | apply Ext.drewN | apply Ext.drew | apply Ext.alloc | (refine Ext.setCell ?_ (by first | (simp; done) | (simp; omega) | omega) _) | (refine Ext.trans ?_ (by assumption)) | (refine Ext.trans ?_ (held_left (by assumption))))))))).mono ?_; rintro e w2 ⟨rfl, hb2⟩)
        go_ret2
        exact ⟨by rw [HR.out.1, HR.out.2]; rfl, hE.out.trans (by (repeat (with_reducible (first | exact Ext.refl _ | assumption | exact held_left (by assumption) | apply Ext.drewN | apply Ext.drew | apply Ext.alloc | (refine Ext.setCell ?_ (by first | (simp; done) | (simp; omega) | omega) _) | (refine Ext.trans ?_ (by assumption)) | (refine Ext.trans ?_ (held_left (by assumption)))))))⟩
    · have HR := Hid.mk' (rt_ok (t := (⟨xid, st, es.map EL.e⟩ : Tx)) (l := ps.map RR.r) H0.out HL5.out (fun j hj => hz.out j (by simp at hj; omega)))
      go_wp2
      go_ret2
      exact ⟨by rw [HR.out.1, HR.out.2]; rfl, hE.out⟩

end Go.Proofs.YthdjinicmnhgpaaGreatDoor

/-
What is wrong with transactions first: the reference's answer.
-/
namespace Go.Proofs.YthdjinicmnhgpaaGreatDoor
open Go.RowKit

set_option maxRecDepth 100000 in set_option maxHeartbeats 8000000 in
theorem rcheck_any (ts : List TL) (a : Option Addr) (cap : Nat) (ps : List RR) (a2 : Option Addr) (c2 : Nat) (w : World) (ht : TS 6 K.rc w (.slice a ts.length cap) ts) (hlen : ts.length ≤ 1000) (hn : ∀ t ∈ ts, t.es.length ≤ 1000) (hs : ∀ t ∈ ts, ∀ e ∈ t.es, e.e.small) (hwk : ∀ t ∈ ts, ∀ e ∈ t.es, e.e.wk) (hl : RL w (.slice a2 ps.length c2) ps) (hc : RCat ps) :
    Calls Tryz.prog 11 #[.slice a2 ps.length c2, .slice a ts.length cap] w fun e w' => e = .returned (.tuple #[.int .i64 (ckT (ts.map TL.t) (ps.map RR.r)), .int .i64 (ckP (ts.map TL.t) (ps.map RR.r)), .int .i64 (ckE (ts.map TL.t) (ps.map RR.r))]) ∧ Ext w w' := by
  have HT := Hid.mk' ht
  have HTR := Hid.mk' (fun t (h1 : t ∈ ts) W (h : Ext w W) => rrighttx_any t ps a2 c2 W ((ht.sl t h1).ext h) (hn t h1) (hs t h1) (hwk t h1) (hl.ext h) hc)
  obtain ⟨LC, hLC⟩ : ∃ LC, LC = ps.map RR.r := ⟨_, rfl⟩
  rw [← hLC] at HTR ⊢
  clear ht hn hs hwk hl hc hLC
  go_enter Tryz.func11, Tryz.ntmps11
  go_wp2
  go_loopg [7] ts.length (fun z i wr => ∃ (k : Nat), z + k = ts.length ∧ i = .int .i64 k ∧ Hid (∀ j, j < k → chE (ts.map TL.t) LC j = 0) ∧ Hid (Ext w wr))
  case atStart => exact ⟨0, by omega, rfl, Hid.mk' (fun j h => by omega), Hid.mk' (by (repeat (with_reducible (first | exact Ext.refl _ | assumption | exact held_left (by assumption) | apply Ext.drewN | apply Ext.drew | apply Ext.alloc | (refine Ext.setCell ?_ (by first | (simp; done) | (simp; omega) | omega) _) | (refine Ext.trans ?_ (by assumption)) | (refine Ext.trans ?_ (held_left (by assumption)))))))⟩
  case round =>
    obtain ⟨k, hzk, rfl, hz, hE⟩ := hrel
    by_cases hlt : k < ts.length
    · obtain ⟨b, o, rfl, hb, hx⟩ := HT.out.row.at_ (i := k) (by simpa using hlt)
      obtain ⟨f0, f1, f2⟩ := TL.at_ hlt hx hb hE.out
      have hbw : b < wr.heap.size := Nat.lt_of_lt_of_le hb hE.out.size
      have HFK := Hid.mk' (fun W (h : Ext w W) => TL.at_ hlt hx hb h)
      have HBW := Hid.mk' hb
      have HTK := Hid.mk' (fun W (h : Ext wr W) => HTR.out _ (List.getElem_mem hlt) W (hE.out.trans h))
      have HPR := Hid.mk' (fun h h2 => ch_pre (l := LC) hlt h h2)
      have HOW := Hid.mk' (fun h => ch_own (l := LC) hlt h)
      have HBD := Hid.mk' (fun h => ck_bad (xs := ts.map TL.t) (l := LC) (by simpa using hlt) hz.out h)
      have HPV := Hid.mk' (fun j (e : k = j + 1) => (show ∃ p, (∃ (h : j < ts.length), p = ts[j].xid) ∧ (ts.map TL.xid).getD (k - 1) 0 = p ∧ ∀ W, Ext w W → W.cell? ⟨b, o + j * 3, none⟩ = some (.int .u32 p) from by
        have hj : j < ts.length := by omega
        obtain ⟨b', o', e', hb', hx'⟩ := HT.out.row.at_ (i := j) (by simpa using hj)
        simp only [Option.some.injEq, Addr.mk.injEq] at e'
        obtain ⟨rfl, rfl, -⟩ := e'
        exact ⟨ts[j].xid, ⟨hj, rfl⟩, by rw [e, Nat.add_sub_cancel]; exact xid_at hj, fun W h => (TL.at_ hj hx' hb' h).1⟩))
      obtain ⟨x, hxx⟩ : ∃ x, x = ts[k] := ⟨_, rfl⟩
      rw [← hxx] at f0 f1 f2 HTK HPR HOW HFK
      clear hxx hx hb
      have HLT := Hid.mk' hlt
      obtain ⟨E, hEE⟩ : ∃ E, E = rtE x.t LC := ⟨_, rfl⟩
      obtain ⟨P, hPP⟩ : ∃ P, P = rtP x.t LC := ⟨_, rfl⟩
      rw [← hEE, ← hPP] at HTK HOW
      clear hEE hPP
      obtain ⟨xid, st, es, ta, tc⟩ := x
      unfold TL.agg at HTK
      simp only at f0 f1 f2 HTK HPR HOW HFK
      by_cases hk0 : k = 0
      · subst hk0
        simp only [Nat.zero_mul, Nat.add_zero] at f0 f1 f2 HFK
        obtain ⟨hce, hcp⟩ := HOW.out (fun h => absurd h.1 (by omega))
        have hd0 : decide ((0 : Int) < 0) = false := by decide
        go_wp2
        refine wp_region_head 15 (fun w' => Ext (wr) w' ∧ (∀ b o, b < (wr).heap.size → w'.cell? ⟨b, o, none⟩ = (wr).cell? ⟨b, o, none⟩) ∧ (∀ b o, b < (wr).heap.size → w'.frozen? ⟨b, o, none⟩ = (wr).frozen? ⟨b, o, none⟩)) (by kernel_rfl) (by decide) ?_
        have hA0 : Hid ((fun w' => Ext (wr) w' ∧ (∀ b o, b < (wr).heap.size → w'.cell? ⟨b, o, none⟩ = (wr).cell? ⟨b, o, none⟩) ∧ (∀ b o, b < (wr).heap.size → w'.frozen? ⟨b, o, none⟩ = (wr).frozen? ⟨b, o, none⟩)) wr.drew) := held_of (by (repeat (with_reducible (first | exact Ext.refl _ | assumption | exact held_left (by assumption) | apply Ext.drewN | apply Ext.drew | apply Ext.alloc | (refine Ext.setCell ?_ (by first | (simp; done) | (simp; omega) | omega) _) | (refine Ext.trans ?_ (by assumption)) | (refine Ext.trans ?_ (held_left (by assumption)))))))
        (refine wpHd_takeD (i := 0) (d := some 16) (v := ?_) rfl rfl (by kernel_rfl) (by kernel_rfl) (by kernel_rfl) (fun _ _ _ h => h) (Or.inl ⟨by rfl, ?_⟩) hA0.out ?_; rotate_left 1; (· (intro w' hS'; (obtain ⟨hEs', hcs', hfs'⟩ := hS'); go_simp; try with_reducible rfl)))
        try simp only [Act.put, List.setIfInBounds_toArray, List.set_cons_zero, List.set_cons_succ]
        (refine wpHd_takeD (i := 1) (d := some 17) (v := ?_) rfl rfl (by kernel_rfl) (by kernel_rfl) (by kernel_rfl) (fun _ _ _ h => h) (Or.inl ⟨by rfl, ?_⟩) hA0.out ?_; rotate_left 1; (· (intro w' hS'; (obtain ⟨hEs', hcs', hfs'⟩ := hS'); go_simp; try with_reducible rfl)))
        try simp only [Act.put, List.setIfInBounds_toArray, List.set_cons_zero, List.set_cons_succ]
        (refine wpHd_takeD (i := 2) (d := some 18) (v := ?_) rfl rfl (by kernel_rfl) (by kernel_rfl) (by kernel_rfl) (fun _ _ _ h => h) (Or.inl ⟨by rfl, ?_⟩) hA0.out ?_; rotate_left 1; (· (intro w' hS'; (obtain ⟨hEs', hcs', hfs'⟩ := hS'); go_simp; try with_reducible rfl)))
        try simp only [Act.put, List.setIfInBounds_toArray, List.set_cons_zero, List.set_cons_succ]
        refine wpHd_takeD (i := 3) (d := some 19) (v := undef) rfl rfl (by kernel_rfl) (by kernel_rfl) (by kernel_rfl) (fun _ _ _ h => h) (Or.inr ⟨by rfl, rfl⟩) hA0.out ?_
        try simp only [Act.put, List.setIfInBounds_toArray, List.set_cons_zero, List.set_cons_succ]
        refine wpHd_takeD (i := 4) (d := some 20) (v := undef) rfl rfl (by kernel_rfl) (by kernel_rfl) (by kernel_rfl) (fun _ _ _ h => h) (Or.inr ⟨by rfl, rfl⟩) hA0.out ?_
        try simp only [Act.put, List.setIfInBounds_toArray, List.set_cons_zero, List.set_cons_succ]
        refine wpHd_takeD (i := 5) (d := some 21) (v := undef) rfl rfl (by kernel_rfl) (by kernel_rfl) (by kernel_rfl) (fun _ _ _ h => h) (Or.inr ⟨by rfl, rfl⟩) hA0.out ?_
        try simp only [Act.put, List.setIfInBounds_toArray, List.set_cons_zero, List.set_cons_succ]
        refine wpHd_takeD (i := 6) (d := some 22) (v := undef) rfl rfl (by kernel_rfl) (by kernel_rfl) (by kernel_rfl) (fun _ _ _ h => h) (Or.inr ⟨by rfl, rfl⟩) hA0.out ?_
        try simp only [Act.put, List.setIfInBounds_toArray, List.set_cons_zero, List.set_cons_succ]
        refine wpHd_takeD (i := 7) (d := some 23) (v := undef) rfl rfl (by kernel_rfl) (by kernel_rfl) (by kernel_rfl) (fun _ _ _ h => h) (Or.inr ⟨by rfl, rfl⟩) hA0.out ?_
        try simp only [Act.put, List.setIfInBounds_toArray, List.set_cons_zero, List.set_cons_succ]
        refine wpHd_takeD (i := 8) (d := some 24) (v := undef) rfl rfl (by kernel_rfl) (by kernel_rfl) (by kernel_rfl) (fun _ _ _ h => h) (Or.inr ⟨by rfl, rfl⟩) hA0.out ?_
        try simp only [Act.put, List.setIfInBounds_toArray, List.set_cons_zero, List.set_cons_succ]
        refine wpHd_takeD (i := 9) (d := some 25) (v := undef) rfl rfl (by kernel_rfl) (by kernel_rfl) (by kernel_rfl) (fun _ _ _ h => h) (Or.inr ⟨by rfl, rfl⟩) hA0.out ?_
        try simp only [Act.put, List.setIfInBounds_toArray, List.set_cons_zero, List.set_cons_succ]
        refine wpHd_takeD (i := 10) (d := some 26) (v := undef) rfl rfl (by kernel_rfl) (by kernel_rfl) (by kernel_rfl) (fun _ _ _ h => h) (Or.inr ⟨by rfl, rfl⟩) hA0.out ?_
        try simp only [Act.put, List.setIfInBounds_toArray, List.set_cons_zero, List.set_cons_succ]
        refine wpHd_takeD (i := 11) (d := some 27) (v := undef) rfl rfl (by kernel_rfl) (by kernel_rfl) (by kernel_rfl) (fun _ _ _ h => h) (Or.inr ⟨by rfl, rfl⟩) hA0.out ?_
        try simp only [Act.put, List.setIfInBounds_toArray, List.set_cons_zero, List.set_cons_succ]
        refine wpHd_takeD (i := 12) (d := some 28) (v := undef) rfl rfl (by kernel_rfl) (by kernel_rfl) (by kernel_rfl) (fun _ _ _ h => h) (Or.inr ⟨by rfl, rfl⟩) hA0.out ?_
        try simp only [Act.put, List.setIfInBounds_toArray, List.set_cons_zero, List.set_cons_succ]
        refine wpHd_takeD (i := 13) (d := some 29) (v := undef) rfl rfl (by kernel_rfl) (by kernel_rfl) (by kernel_rfl) (fun _ _ _ h => h) (Or.inr ⟨by rfl, rfl⟩) hA0.out ?_
        try simp only [Act.put, List.setIfInBounds_toArray, List.set_cons_zero, List.set_cons_succ]
        refine wpHd_takeD (i := 14) (d := some 30) (v := undef) rfl rfl (by kernel_rfl) (by kernel_rfl) (by kernel_rfl) (fun _ _ _ h => h) (Or.inr ⟨by rfl, rfl⟩) hA0.out ?_
        try simp only [Act.put, List.setIfInBounds_toArray, List.set_cons_zero, List.set_cons_succ]
        refine wpHd_tail (by kernel_rfl) ?_
        simp only [List.drop_succ_cons, List.drop_zero]
        have HEd : Hid (Ext wr wr.drew) := Hid.mk' (by (repeat (with_reducible (first | exact Ext.refl _ | assumption | exact held_left (by assumption) | apply Ext.drewN | apply Ext.drew | apply Ext.alloc | (refine Ext.setCell ?_ (by first | (simp; done) | (simp; omega) | omega) _) | (refine Ext.trans ?_ (by assumption)) | (refine Ext.trans ?_ (held_left (by assumption)))))))
        clear hA0 f0 f1 f2 hbw
        obtain ⟨f0, f1, f2⟩ := HFK.out _ (hE.out.trans HEd.out)
        have hbw := Nat.lt_of_lt_of_le HBW.out (hE.out.trans HEd.out).size
        by_cases hE0 : E = 0
        · subst hE0
          have HCE := Hid.mk' hce
          clear hce hcp
          go_wp2_with (go_at_call 29; refine (HTK.out _ (by first | exact HEd.out | (repeat (with_reducible (first | exact Ext.refl _ | assumption | exact held_left (by assumption) | apply Ext.drewN | apply Ext.drew | apply Ext.alloc | (refine Ext.setCell ?_ (by first | (simp; done) | (simp; omega) | omega) _) | (refine Ext.trans ?_ (by assumption)) | (refine Ext.trans ?_ (held_left (by assumption)))))))).mono ?_; rintro e w1 ⟨rfl, hb1⟩; have HE1 := Hid.mk' (show Ext wr w1 from HEd.out.trans hb1); clear hb1)
          go_roundg (ts.length - 1)
          case measure => have := HLT.out; omega
          case rel =>
            exact ⟨1, Nat.sub_add_cancel HLT.out, by go_num, Hid.mk' (fun j hj => by
              obtain rfl : j = 0 := by omega
              exact HCE.out), Hid.mk' (hE.out.trans HE1.out)⟩
        · have hE1 : (E != 0) = true := by simpa using hE0
          have h := HBD.out (by rw [hce]; exact hE0)
          rw [hce, hcp] at h
          have HR := Hid.mk' h
          clear h hce hcp hE0
          go_wp2_with (go_at_call 29; refine (HTK.out _ (by first | exact HEd.out | (repeat (with_reducible (first | exact Ext.refl _ | assumption | exact held_left (by assumption) | apply Ext.drewN | apply Ext.drew | apply Ext.alloc | (refine Ext.setCell ?_ (by first | (simp; done) | (simp; omega) | omega) _) | (refine Ext.trans ?_ (by assumption)) | (refine Ext.trans ?_ (held_left (by assumption)))))))).mono ?_; rintro e w1 ⟨rfl, hb1⟩; have HE1 := Hid.mk' (show Ext wr w1 from HEd.out.trans hb1); clear hb1)
          go_ret3
          exact ⟨by rw [HR.out.1, HR.out.2.1, HR.out.2.2]; rfl, hE.out.trans HE1.out⟩
      · obtain ⟨j, rfl⟩ : ∃ j, k = j + 1 := ⟨k - 1, by omega⟩
        obtain ⟨p, -, hpp, hpc⟩ := HPV.out j rfl
        rw [hpp] at HPR HOW
        have g0 := hpc wr hE.out
        have HPC := Hid.mk' hpc
        have q1 : IntKind.i64.wrap (j : Int) = (j : Int) := IntWalk.i64_in _ (by omega)
        have q2 : ((j : Int) + 1).toNat = j + 1 := by omega
        have i1 : (j : Int) < (ts.length : Int) := by omega
        have i2 : (j : Int) + 1 < (ts.length : Int) := by omega
        have i3 : (0 : Int) ≤ (j : Int) + 1 := by omega
        have i4 : (0 : Int) ≤ (j : Int) := by omega
        have i5 : ((j + 1 : Nat) : Int) = (j : Int) + 1 := by omega
        have i6 : (0 : Int) < (j : Int) + 1 := by omega
        have hd : decide ((0 : Int) < (j : Int) + 1) = true := decide_eq_true (by omega)
        rw [i5]
        clear HPV hpp hpc hk0
        by_cases hle : xid ≤ p
        · obtain ⟨hce, hcp⟩ := HPR.out (by omega) hle
          have h := HBD.out (by rw [hce]; decide)
          rw [hce, hcp] at h
          have HR := Hid.mk' h
          clear h hce hcp
          go_wp2
          go_region_held3 (fun w' => Ext (wr) w' ∧ (∀ b o, b < (wr).heap.size → w'.cell? ⟨b, o, none⟩ = (wr).cell? ⟨b, o, none⟩) ∧ (∀ b o, b < (wr).heap.size → w'.frozen? ⟨b, o, none⟩ = (wr).frozen? ⟨b, o, none⟩)) ((exact held_of (by (repeat (with_reducible (first | exact Ext.refl _ | assumption | exact held_left (by assumption) | apply Ext.drewN | apply Ext.drew | apply Ext.alloc | (refine Ext.setCell ?_ (by first | (simp; done) | (simp; omega) | omega) _) | (refine Ext.trans ?_ (by assumption)) | (refine Ext.trans ?_ (held_left (by assumption))))))))) (fail)
          clear q1 q2
          go_wp2
          go_ret3
          exact ⟨by rw [HR.out.1, HR.out.2.1, HR.out.2.2]; rfl, hE.out.trans (by (repeat (with_reducible (first | exact Ext.refl _ | assumption | exact held_left (by assumption) | apply Ext.drewN | apply Ext.drew | apply Ext.alloc | (refine Ext.setCell ?_ (by first | (simp; done) | (simp; omega) | omega) _) | (refine Ext.trans ?_ (by assumption)) | (refine Ext.trans ?_ (held_left (by assumption)))))))⟩
        · have hle2 : decide (xid ≤ p) = false := decide_eq_false hle
          obtain ⟨hce, hcp⟩ := HOW.out (fun h => hle h.2)
          go_wp2
          go_region_held3 (fun w' => Ext (wr) w' ∧ (∀ b o, b < (wr).heap.size → w'.cell? ⟨b, o, none⟩ = (wr).cell? ⟨b, o, none⟩) ∧ (∀ b o, b < (wr).heap.size → w'.frozen? ⟨b, o, none⟩ = (wr).frozen? ⟨b, o, none⟩)) ((exact held_of (by (repeat (with_reducible (first | exact Ext.refl _ | assumption | exact held_left (by assumption) | apply Ext.drewN | apply Ext.drew | apply Ext.alloc | (refine Ext.setCell ?_ (by first | (simp; done) | (simp; omega) | omega) _) | (refine Ext.trans ?_ (by assumption)) | (refine Ext.trans ?_ (held_left (by assumption))))))))) (fail)
          have HEd : Hid (Ext wr wr.drew) := Hid.mk' (by (repeat (with_reducible (first | exact Ext.refl _ | assumption | exact held_left (by assumption) | apply Ext.drewN | apply Ext.drew | apply Ext.alloc | (refine Ext.setCell ?_ (by first | (simp; done) | (simp; omega) | omega) _) | (refine Ext.trans ?_ (by assumption)) | (refine Ext.trans ?_ (held_left (by assumption)))))))
          clear f0 f1 f2 hbw g0
          obtain ⟨f0, f1, f2⟩ := HFK.out _ (hE.out.trans HEd.out)
          have hbw := Nat.lt_of_lt_of_le HBW.out (hE.out.trans HEd.out).size
          by_cases hE0 : E = 0
          · subst hE0
            have HCE := Hid.mk' hce
            clear hce hcp
            go_wp2_with (go_at_call 29; refine (HTK.out _ (by first | exact HEd.out | (repeat (with_reducible (first | exact Ext.refl _ | assumption | exact held_left (by assumption) | apply Ext.drewN | apply Ext.drew | apply Ext.alloc | (refine Ext.setCell ?_ (by first | (simp; done) | (simp; omega) | omega) _) | (refine Ext.trans ?_ (by assumption)) | (refine Ext.trans ?_ (held_left (by assumption)))))))).mono ?_; rintro e w1 ⟨rfl, hb1⟩; have HE1 := Hid.mk' (show Ext wr w1 from HEd.out.trans hb1); clear hb1)
            go_roundg (ts.length - (j + 1 + 1))
            case measure => have := HLT.out; omega
            case rel =>
              exact ⟨j + 1 + 1, Nat.sub_add_cancel HLT.out, by go_num, Hid.mk' (fun i hi => if e : i = j + 1 then (by subst e; exact HCE.out) else hz.out i (by omega)), Hid.mk' (hE.out.trans HE1.out)⟩
          · have hE1 : (E != 0) = true := by simpa using hE0
            have h := HBD.out (by rw [hce]; exact hE0)
            rw [hce, hcp] at h
            have HR := Hid.mk' h
            clear h hce hcp hE0
            go_wp2_with (go_at_call 29; refine (HTK.out _ (by first | exact HEd.out | (repeat (with_reducible (first | exact Ext.refl _ | assumption | exact held_left (by assumption) | apply Ext.drewN | apply Ext.drew | apply Ext.alloc | (refine Ext.setCell ?_ (by first | (simp; done) | (simp; omega) | omega) _) | (refine Ext.trans ?_ (by assumption)) | (refine Ext.trans ?_ (held_left (by assumption)))))))).mono ?_; rintro e w1 ⟨rfl, hb1⟩; have HE1 := Hid.mk' (show Ext wr w1 from HEd.out.trans hb1); clear hb1)
            go_ret3
            exact ⟨by rw [HR.out.1, HR.out.2.1, HR.out.2.2]; rfl, hE.out.trans HE1.out⟩
    · obtain rfl : k = ts.length := by omega
      have HR := Hid.mk' (ck_ok (xs := ts.map TL.t) (l := LC) (fun j hj => hz.out j (by simpa using hj)))
      go_wp2
      go_ret3
      exact ⟨by rw [HR.out.1, HR.out.2.1, HR.out.2.2]; rfl, hE.out⟩

end Go.Proofs.YthdjinicmnhgpaaGreatDoor

/-
Some refs' relations alone: the reference's Only.
-/
namespace Go.Proofs.YthdjinicmnhgpaaGreatDoor
open Go.RowKit

/-- Those of the first that are of some refs. -/
def flt (rs : List Rf) (ps : List RR) : List RR := ps.filter (fun p => ofRefs rs p.r)
theorem flt_r (rs : List Rf) (ps : List RR) : (flt rs ps).map RR.r = (ps.map RR.r).filter (ofRefs rs) := by
  unfold flt
  rw [List.filter_map]; rfl
theorem flt_yes {rs : List Rf} {ps : List RR} {i : Nat} (hi : i < ps.length) (h : ofRefs rs ps[i].r = true) : flt rs (ps.take (i + 1)) = flt rs (ps.take i) ++ [ps[i]] := by
  unfold flt
  rw [List.take_succ_eq_append_getElem hi, List.filter_append]
  simp [h]
theorem flt_no {rs : List Rf} {ps : List RR} {i : Nat} (hi : i < ps.length) (h : ofRefs rs ps[i].r = false) : flt rs (ps.take (i + 1)) = flt rs (ps.take i) := by
  unfold flt
  rw [List.take_succ_eq_append_getElem hi, List.filter_append]
  simp [h]
theorem flt_len (rs : List Rf) (ps : List RR) : (flt rs ps).length ≤ ps.length := List.length_filter_le _ _
theorem flt_mem {rs : List Rf} {ps : List RR} {p : RR} (h : p ∈ flt rs ps) : p ∈ ps := (List.mem_filter.1 h).1
theorem ofRefs_hit {rs : List Rf} {k : Nat} (hk : k < rs.length) {r : Rl} (h : isR rs[k].o rs[k].v r = true) : ofRefs rs r = true := List.any_eq_true.2 ⟨_, List.getElem_mem hk, h⟩
theorem ofRefs_miss {rs : List Rf} {r : Rl} (h : ∀ j (hj : j < rs.length), isR rs[j].o rs[j].v r = false) : ofRefs rs r = false := by
  unfold ofRefs
  rw [List.any_eq_false]
  intro x hx
  obtain ⟨j, hj, rfl⟩ := List.getElem_of_mem hx
  rw [h j hj]; simp
theorem rget_yes {ps : List RR} {a : Option Addr} {cap : Nat} {o v : Int} {w : World} (hl : RL w (.slice a ps.length cap) ps) (hlen : ps.length ≤ 1000) (h : hasR o v (ps.map RR.r) = true) :
    Calls Tryz.prog 39 #[.slice a ps.length cap, .agg #[.int .u32 o, .int .u32 v]] w fun e w' => ∃ cs : Array Value, e = .returned (.tuple #[.agg cs, .bool true]) ∧ (∃ p ∈ ps, cs = #[.int .u32 p.r.oid, .int .u32 p.r.ver, .string p.r.nm, .int .u8 p.r.id, .slice p.a p.r.cols.length p.c] ∧ getR o v (ps.map RR.r) = some p.r) ∧ Ext w w' := by
  refine (rget_any ps a cap o v w hl hlen).mono fun e w' hq => ?_
  obtain ⟨h1, h2⟩ := hq
  have h3 := getP_is o v ps
  rw [h] at h3
  obtain ⟨p, hp⟩ := Option.isSome_iff_exists.1 h3
  refine ⟨#[.int .u32 p.r.oid, .int .u32 p.r.ver, .string p.r.nm, .int .u8 p.r.id, .slice p.a p.r.cols.length p.c], ?_, ⟨p, (getP_some hp).1, rfl, by rw [← getP_map, hp]; rfl⟩, h2⟩
  rw [h1, hp]; rfl
theorem rget_no {ps : List RR} {a : Option Addr} {cap : Nat} {o v : Int} {w : World} (hl : RL w (.slice a ps.length cap) ps) (hlen : ps.length ≤ 1000) (h : hasR o v (ps.map RR.r) = false) :
    Calls Tryz.prog 39 #[.slice a ps.length cap, .agg #[.int .u32 o, .int .u32 v]] w fun e w' => e = .returned (.tuple #[.agg #[.int .u32 0, .int .u32 0, .string ⟨#[]⟩, .int .u8 0, .slice none 0 0], .bool false]) ∧ Ext w w' := by
  refine (rget_any ps a cap o v w hl hlen).mono fun e w' hq => ?_
  obtain ⟨h1, h2⟩ := hq
  have h3 := getP_is o v ps
  rw [h] at h3
  have hg : getP o v ps = none := Option.not_isSome_iff_eq_none.1 (by rw [h3]; simp)
  exact ⟨by rw [h1, hg]; rfl, h2⟩

def ROnlyPost (ps : List RR) (rs : List Rf) (e : Ending) (w' : World) : Prop :=
  ∃ a' n c', e = .returned (.tuple #[.slice a' n c', .int .i64 (onlyE rs (ps.map RR.r))]) ∧ (onlyE rs (ps.map RR.r) = 0 → n = (flt rs ps).length ∧ RL w' (.slice a' n c') (flt rs ps))

set_option maxRecDepth 100000 in set_option maxHeartbeats 4000000 in
theorem ronly_any (ps : List RR) (rs : List Rf) (a : Option Addr) (cap : Nat) (a2 : Option Addr) (c2 : Nat) (w : World) (hl : RL w (.slice a ps.length cap) ps) (hr : Sl w (.slice a2 rs.length c2) 2 (rs.map Rf.cells)) (hlen : ps.length ≤ 1000) (hlen2 : rs.length ≤ 1000) :
    Calls Tryz.prog 40 #[.slice a ps.length cap, .slice a2 rs.length c2] w fun e w' => ROnlyPost ps rs e w' ∧ Ext w w' := by
  obtain ⟨i0, hi, hz0, hz1, hz2⟩ := info_parts Tryz.infoRRel
  have HL := Hid.mk' hl
  have HR := Hid.mk' hr
  clear hl hr
  go_enter Tryz.func40, Tryz.ntmps40
  go_wp2
  go_loopw [6] (fun i wr => ∃ k : Nat, k ≤ rs.length ∧ i = .int .i64 k ∧ Hid (∀ j (h : j < rs.length), j < k → hasR rs[j].o rs[j].v (ps.map RR.r) = true) ∧ Hid (Ext w wr)) (fun i _ => rs.length - (intOf i).toNat)
  case atStart => exact ⟨0, Nat.zero_le _, rfl, Hid.mk' (fun j _ h => by omega), Hid.mk' (by (repeat (with_reducible (first | exact Ext.refl _ | assumption | exact held_left (by assumption) | apply Ext.drewN | apply Ext.drew | apply Ext.alloc | (refine Ext.setCell ?_ (by first | (simp; done) | (simp; omega) | omega) _) | (refine Ext.trans ?_ (by assumption)) | (refine Ext.trans ?_ (held_left (by assumption)))))))⟩
  case round =>
    obtain ⟨k, hk, rfl, hz, hE⟩ := hrel
    by_cases hlt : k < rs.length
    · obtain ⟨b, o, rfl, hb, hx⟩ := HR.out.at_ (i := k) (by simpa using hlt)
      obtain ⟨f0, f1⟩ := Rf.at_ hlt hx hb hE.out
      have hbw : b < wr.heap.size := Nat.lt_of_lt_of_le hb hE.out.size
      cases hh : hasR rs[k].o rs[k].v (ps.map RR.r) with
      | false =>
        have HON := Hid.mk' (onlyE_no hlt hh)
        have HGT := Hid.mk' (fun W (h : Ext w W) => rget_no (HL.out.ext h) hlen hh)
        obtain ⟨r, hr⟩ : ∃ r, r = rs[k] := ⟨_, rfl⟩
        rw [← hr] at f0 f1 HGT
        clear hx hr hb hh
        go_wp2_with (go_at_call 39; refine (HGT.out _ (hE.out.trans (by (repeat (with_reducible (first | exact Ext.refl _ | assumption | exact held_left (by assumption) | apply Ext.drewN | apply Ext.drew | apply Ext.alloc | (refine Ext.setCell ?_ (by first | (simp; done) | (simp; omega) | omega) _) | (refine Ext.trans ?_ (by assumption)) | (refine Ext.trans ?_ (held_left (by assumption))))))))).mono ?_; rintro e w7 ⟨rfl, hb7⟩; have HE7 : Hid (Ext w w7) := Hid.mk' (hE.out.trans (by (repeat (with_reducible (first | exact Ext.refl _ | assumption | exact held_left (by assumption) | apply Ext.drewN | apply Ext.drew | apply Ext.alloc | (refine Ext.setCell ?_ (by first | (simp; done) | (simp; omega) | omega) _) | (refine Ext.trans ?_ (by assumption)) | (refine Ext.trans ?_ (held_left (by assumption)))))))))
        simp [bodyPost, results, Tryz.results40, go_sem, *]
        exact ⟨⟨none, 0, 0, by rw [HON.out], fun h => absurd (HON.out.symm.trans h) (by decide)⟩, HE7.out.trans (by (repeat (with_reducible (first | exact Ext.refl _ | assumption | exact held_left (by assumption) | apply Ext.drewN | apply Ext.drew | apply Ext.alloc | (refine Ext.setCell ?_ (by first | (simp; done) | (simp; omega) | omega) _) | (refine Ext.trans ?_ (by assumption)) | (refine Ext.trans ?_ (held_left (by assumption)))))))⟩
      | true =>
        have HHH := Hid.mk' hh
        have HGT := Hid.mk' (fun W (h : Ext w W) => rget_yes (HL.out.ext h) hlen hh)
        obtain ⟨r, hr⟩ : ∃ r, r = rs[k] := ⟨_, rfl⟩
        rw [← hr] at f0 f1 HGT
        have HLT : Hid (k < rs.length) := Hid.mk' hlt
        clear hx hr hb hh
        go_wp2_with (go_at_call 39; refine (HGT.out _ (hE.out.trans (by (repeat (with_reducible (first | exact Ext.refl _ | assumption | exact held_left (by assumption) | apply Ext.drewN | apply Ext.drew | apply Ext.alloc | (refine Ext.setCell ?_ (by first | (simp; done) | (simp; omega) | omega) _) | (refine Ext.trans ?_ (by assumption)) | (refine Ext.trans ?_ (held_left (by assumption))))))))).mono ?_; rintro e w7 ⟨cs, rfl, ⟨p, hp, rfl, hg⟩, hb7⟩; have HE7 : Hid (Ext w w7) := Hid.mk' (hE.out.trans (by (repeat (with_reducible (first | exact Ext.refl _ | assumption | exact held_left (by assumption) | apply Ext.drewN | apply Ext.drew | apply Ext.alloc | (refine Ext.setCell ?_ (by first | (simp; done) | (simp; omega) | omega) _) | (refine Ext.trans ?_ (by assumption)) | (refine Ext.trans ?_ (held_left (by assumption)))))))); clear hp hg)
        go_roundw
        case rel => exact ⟨k + 1, by have := HLT.out; omega, by go_num, Hid.mk' (fun j hj hjk => by
          by_cases e : j = k
          · subst e; exact HHH.out
          · exact hz.out j hj (by omega)), Hid.mk' (HE7.out.trans (by (repeat (with_reducible (first | exact Ext.refl _ | assumption | exact held_left (by assumption) | apply Ext.drewN | apply Ext.drew | apply Ext.alloc | (refine Ext.setCell ?_ (by first | (simp; done) | (simp; omega) | omega) _) | (refine Ext.trans ?_ (by assumption)) | (refine Ext.trans ?_ (held_left (by assumption))))))))⟩
        case measure => have := HLT.out; simp [intOf]; omega
    · obtain rfl : k = rs.length := by omega
      have HON := Hid.mk' (onlyE_yes (fun j hj => hz.out j hj hj))
      have HX1 := hE
      go_wp2
      go_loopw [9, 10] (fun v i wx => ∃ (k : Nat), k ≤ ps.length ∧ i = .int .i64 k ∧ Hid (wx.ownsRow w.heap.size 59 5 v (flt rs (ps.take k)).length ((flt rs (ps.take k)).map RR.cells).flatten) ∧ Hid (Ext w wx)) (fun _ i _ => ps.length - (intOf i).toNat)
      case atStart => exact ⟨0, Nat.zero_le _, rfl, Hid.mk' (World.ownsRow_nil _ _ _ _), hE⟩
      case round =>
        obtain ⟨i, hi2, rfl, hown, hE2⟩ := hrel
        by_cases hlt : i < ps.length
        · obtain ⟨b, o, rfl, hb, hx⟩ := HL.out.row.at_ (i := i) (by simpa using hlt)
          have HF := Hid.mk' (fun W (h : Ext w W) => RR.at_ hlt hx hb h)
          have HYES := Hid.mk' (fun h => flt_yes (rs := rs) hlt h)
          have HNO := Hid.mk' (fun h => flt_no (rs := rs) hlt h)
          obtain ⟨p, hp⟩ : ∃ p, p = ps[i] := ⟨_, rfl⟩
          rw [← hp] at HF HYES HNO
          have HLI : Hid (i < ps.length) := Hid.mk' hlt
          have HBW : Hid (b < w.heap.size) := Hid.mk' hb
          have HFL := Hid.mk' (flt_len rs (ps.take i))
          clear hx hp hb
          go_wp2
          go_loopw [9, 11] (fun v j wy => ∃ (m : Nat), m ≤ rs.length ∧ j = .int .i64 m ∧ Hid (∀ j (h : j < rs.length), j < m → isR rs[j].o rs[j].v p.r = false) ∧ Hid (wy.ownsRow w.heap.size 59 5 v (flt rs (ps.take i)).length ((flt rs (ps.take i)).map RR.cells).flatten) ∧ Hid (Ext w wy)) (fun _ j _ => rs.length - (intOf j).toNat)
          case atStart => exact ⟨0, Nat.zero_le _, rfl, Hid.mk' (fun j _ h => by omega), hown, hE2⟩
          case round =>
            clear hown hE2 hE
            obtain ⟨m, hm, rfl, hz3, hown, HEW⟩ := hrel
            obtain ⟨f0, f1, f2, f3, f4⟩ := HF.out _ HEW.out
            have hbw : b < wr.heap.size := Nat.lt_of_lt_of_le HBW.out HEW.out.size
            by_cases hmn : m < rs.length
            · obtain ⟨b2, o2, rfl, hb2, hx2⟩ := HR.out.at_ (i := m) (by simpa using hmn)
              obtain ⟨q0, q1⟩ := Rf.at_ hmn hx2 hb2 HEW.out
              have hbw2 : b2 < wr.heap.size := Nat.lt_of_lt_of_le hb2 HEW.out.size
              have HHIT := Hid.mk' (fun h => ofRefs_hit (r := p.r) hmn h)
              obtain ⟨r, hr⟩ : ∃ r, r = rs[m] := ⟨_, rfl⟩
              rw [← hr] at q0 q1 HHIT
              have HRM := Hid.mk' hr
              have HMN : Hid (m < rs.length) := Hid.mk' hmn
              clear hx2 hr hb2
              by_cases h1 : p.r.oid = r.o ∧ p.r.ver = r.v
              · have HY := Hid.mk' (HYES.out (HHIT.out (by unfold isR; exact decide_eq_true h1)))
                obtain ⟨e1, e2⟩ := h1
                rw [← e1] at q0
                rw [← e2] at q1
                clear e1 e2
                have hz := HEW.out.size
                have hfl := HFL.out
                rw [List.length_take] at hfl
                go_wp2
                go_region_held3 (fun w' => Ext (wr) w' ∧ (∀ b o, b < (wr).heap.size → w'.cell? ⟨b, o, none⟩ = (wr).cell? ⟨b, o, none⟩) ∧ (∀ b o, b < (wr).heap.size → w'.frozen? ⟨b, o, none⟩ = (wr).frozen? ⟨b, o, none⟩)) ((exact held_of (by (repeat (with_reducible (first | exact Ext.refl _ | assumption | exact held_left (by assumption) | apply Ext.drewN | apply Ext.drew | apply Ext.alloc | (refine Ext.setCell ?_ (by first | (simp; done) | (simp; omega) | omega) _) | (refine Ext.trans ?_ (by assumption)) | (refine Ext.trans ?_ (held_left (by assumption))))))))) (fail)
                go_wp2_with (at_builtin; refine wpList_append_own _ rfl _ _ 22 rfl w.heap.size 59 i0 _ 5 56 Tryz.underlying22 hi hz0 hz1 hz2 rfl (by decide) _ _ _ rfl (owns_ext hown.out (by (repeat (with_reducible (first | exact Ext.refl _ | assumption | exact held_left (by assumption) | apply Ext.drewN | apply Ext.drew | apply Ext.alloc | (refine Ext.setCell ?_ (by first | (simp; done) | (simp; omega) | omega) _) | (refine Ext.trans ?_ (by assumption)) | (refine Ext.trans ?_ (held_left (by assumption)))))))) ⟨_, 0, none⟩ 1 1 p.cells rfl rfl (cells_new _ #[.int .u32 p.r.oid, .int .u32 p.r.ver, .string p.r.nm, .int .u8 p.r.id, .slice p.a p.r.cols.length p.c] _) (by intro u hu; simp [RR.cells] at hu; rcases hu with rfl | rfl | rfl | rfl | rfl <;> rfl) (by unfold maxLen; omega) (by omega) (by simp; omega) ?_)
                intro v' w4 hown' hgrow _
                have HX4 : Hid (Ext w w4) := Hid.mk' (Ext.grown (show Ext w _ from HEW.out.trans (by (repeat (with_reducible (first | exact Ext.refl _ | assumption | exact held_left (by assumption) | apply Ext.drewN | apply Ext.drew | apply Ext.alloc | (refine Ext.setCell ?_ (by first | (simp; done) | (simp; omega) | omega) _) | (refine Ext.trans ?_ (by assumption)) | (refine Ext.trans ?_ (held_left (by assumption)))))))) (owns_ext hown.out (by (repeat (with_reducible (first | exact Ext.refl _ | assumption | exact held_left (by assumption) | apply Ext.drewN | apply Ext.drew | apply Ext.alloc | (refine Ext.setCell ?_ (by first | (simp; done) | (simp; omega) | omega) _) | (refine Ext.trans ?_ (by assumption)) | (refine Ext.trans ?_ (held_left (by assumption)))))))) hgrow)
                have HO4 := Hid.mk' hown'
                clear hown' hgrow
                go_wp2
                go_roundw
                case rel => exact ⟨i + 1, by have := HLI.out; omega, by go_num, Hid.mk' (by rw [HY.out, List.length_append, List.map_append, List.flatten_append]; simpa using HO4.out), HX4⟩
                case measure => have := HLI.out; simp [intOf]; omega
              · have HNM : Hid (isR r.o r.v p.r = false) := Hid.mk' (by unfold isR; exact decide_eq_false h1)
                by_cases h2 : p.r.oid = r.o
                · have h3 : (p.r.ver == r.v) = false := by simpa using (fun h => h1 ⟨h2, h⟩)
                  rw [← h2] at q0
                  clear h1 h2
                  go_wp2
                  go_region_held3 (fun w' => Ext (wr) w' ∧ (∀ b o, b < (wr).heap.size → w'.cell? ⟨b, o, none⟩ = (wr).cell? ⟨b, o, none⟩) ∧ (∀ b o, b < (wr).heap.size → w'.frozen? ⟨b, o, none⟩ = (wr).frozen? ⟨b, o, none⟩)) ((exact held_of (by (repeat (with_reducible (first | exact Ext.refl _ | assumption | exact held_left (by assumption) | apply Ext.drewN | apply Ext.drew | apply Ext.alloc | (refine Ext.setCell ?_ (by first | (simp; done) | (simp; omega) | omega) _) | (refine Ext.trans ?_ (by assumption)) | (refine Ext.trans ?_ (held_left (by assumption))))))))) (fail)
                  go_wp2
                  go_roundw
                  case rel => exact ⟨m + 1, by have := HMN.out; omega, by go_num, Hid.mk' (fun j hj hjm => by
                    by_cases e : j = m
                    · subst e; rw [← HRM.out]; exact HNM.out
                    · exact hz3.out j hj (by omega)), Hid.mk' (owns_ext hown.out (by (repeat (with_reducible (first | exact Ext.refl _ | assumption | exact held_left (by assumption) | apply Ext.drewN | apply Ext.drew | apply Ext.alloc | (refine Ext.setCell ?_ (by first | (simp; done) | (simp; omega) | omega) _) | (refine Ext.trans ?_ (by assumption)) | (refine Ext.trans ?_ (held_left (by assumption)))))))), Hid.mk' (HEW.out.trans (by (repeat (with_reducible (first | exact Ext.refl _ | assumption | exact held_left (by assumption) | apply Ext.drewN | apply Ext.drew | apply Ext.alloc | (refine Ext.setCell ?_ (by first | (simp; done) | (simp; omega) | omega) _) | (refine Ext.trans ?_ (by assumption)) | (refine Ext.trans ?_ (held_left (by assumption))))))))⟩
                  case measure => have := HMN.out; simp [intOf]; omega
                · have h3 : (p.r.oid == r.o) = false := by simpa using h2
                  clear h1 h2
                  go_wp2
                  go_region_held3 (fun w' => Ext (wr) w' ∧ (∀ b o, b < (wr).heap.size → w'.cell? ⟨b, o, none⟩ = (wr).cell? ⟨b, o, none⟩) ∧ (∀ b o, b < (wr).heap.size → w'.frozen? ⟨b, o, none⟩ = (wr).frozen? ⟨b, o, none⟩)) ((exact held_of (by (repeat (with_reducible (first | exact Ext.refl _ | assumption | exact held_left (by assumption) | apply Ext.drewN | apply Ext.drew | apply Ext.alloc | (refine Ext.setCell ?_ (by first | (simp; done) | (simp; omega) | omega) _) | (refine Ext.trans ?_ (by assumption)) | (refine Ext.trans ?_ (held_left (by assumption))))))))) (fail)
                  go_wp2
                  go_roundw
                  case rel => exact ⟨m + 1, by have := HMN.out; omega, by go_num, Hid.mk' (fun j hj hjm => by
                    by_cases e : j = m
                    · subst e; rw [← HRM.out]; exact HNM.out
                    · exact hz3.out j hj (by omega)), Hid.mk' (owns_ext hown.out (by (repeat (with_reducible (first | exact Ext.refl _ | assumption | exact held_left (by assumption) | apply Ext.drewN | apply Ext.drew | apply Ext.alloc | (refine Ext.setCell ?_ (by first | (simp; done) | (simp; omega) | omega) _) | (refine Ext.trans ?_ (by assumption)) | (refine Ext.trans ?_ (held_left (by assumption)))))))), Hid.mk' (HEW.out.trans (by (repeat (with_reducible (first | exact Ext.refl _ | assumption | exact held_left (by assumption) | apply Ext.drewN | apply Ext.drew | apply Ext.alloc | (refine Ext.setCell ?_ (by first | (simp; done) | (simp; omega) | omega) _) | (refine Ext.trans ?_ (by assumption)) | (refine Ext.trans ?_ (held_left (by assumption))))))))⟩
                  case measure => have := HMN.out; simp [intOf]; omega
            · obtain rfl : m = rs.length := by omega
              have HN := Hid.mk' (HNO.out (ofRefs_miss (fun j hj => hz3.out j hj hj)))
              go_wp2
              go_roundw
              case rel => exact ⟨i + 1, by have := HLI.out; omega, by go_num, Hid.mk' (by rw [HN.out]; exact hown.out), HEW⟩
              case measure => have := HLI.out; simp [intOf]; omega
        · obtain rfl : i = ps.length := by omega
          rw [List.take_length] at hown
          obtain ⟨a9, c9, rfl⟩ := owns_shape hown.out
          go_wp2
          simp [bodyPost, results, Tryz.results40, go_sem, *]
          exact ⟨⟨a9, _, c9, by rw [HON.out], fun _ => ⟨rfl, Sl.of_owns (base := w.heap.size) (e := 59) (by rw [List.length_map]; exact hown.out) (RR.len _), fun p hp => (HL.out.sl p (flt_mem hp)).ext hE2.out⟩⟩, hE2.out⟩

end Go.Proofs.YthdjinicmnhgpaaGreatDoor

/-
Refs that rise, in plain words: one more put at its place, equal neighbours struck, two rising lists of the same refs are one.
-/
namespace Go.Proofs.YthdjinicmnhgpaaGreatDoor

/-- One ref is ahead of another. -/
def Rf.lt (a b : Rf) : Prop := aheadP a.o a.v b.o b.v
theorem Rf.irr (a : Rf) : ¬ a.lt a := ahead_irr
theorem Rf.trans {a b c : Rf} (h : a.lt b) (k : b.lt c) : a.lt c := ahead_trans h k
theorem Rf.tri (a b : Rf) : a.lt b ∨ a = b ∨ b.lt a := by
  rcases ahead_tri a.o a.v b.o b.v with h | h | h
  · exact .inl h
  · refine .inr (.inl ?_)
    obtain ⟨o, v⟩ := a; obtain ⟨o', v'⟩ := b
    simp only at h
    rw [h.1, h.2]
  · exact .inr (.inr h)
/-- It rises. -/
def Rise (l : List Rf) : Prop := l.Pairwise Rf.lt
theorem Rise.nil : Rise [] := List.Pairwise.nil
theorem Rise.ext : ∀ {l m : List Rf}, Rise l → Rise m → (∀ x, x ∈ l ↔ x ∈ m) → l = m
  | [], [], _, _, _ => rfl
  | [], b :: m, _, _, h => by have := (h b).2 (by simp); cases this
  | a :: l, [], _, _, h => by have := (h a).1 (by simp); cases this
  | a :: l, b :: m, hl, hm, h => by
    have hl' := List.pairwise_cons.1 hl
    have hm' := List.pairwise_cons.1 hm
    have hab : a = b := by
      rcases Rf.tri a b with q | q | q
      · rcases List.mem_cons.1 ((h a).1 (by simp)) with e | e
        · exact e
        · exact absurd (Rf.trans q (hm'.1 a e)) (Rf.irr a)
      · exact q
      · rcases List.mem_cons.1 ((h b).2 (by simp)) with e | e
        · exact e.symm
        · exact absurd (Rf.trans q (hl'.1 b e)) (Rf.irr b)
    subst hab
    rw [Rise.ext hl'.2 hm'.2 (fun x => by
      have hx := h x
      constructor
      · intro hxl
        rcases List.mem_cons.1 (hx.1 (List.mem_cons_of_mem _ hxl)) with e | e
        · subst e; exact absurd (hl'.1 x hxl) (Rf.irr x)
        · exact e
      · intro hxm
        rcases List.mem_cons.1 (hx.2 (List.mem_cons_of_mem _ hxm)) with e | e
        · subst e; exact absurd (hm'.1 x hxm) (Rf.irr x)
        · exact e)]

open Classical in
/-- One more, at its place. -/
noncomputable def putF (r : Rf) : List Rf → List Rf
  | [] => [r]
  | x :: l => if x.lt r then x :: putF r l else if x = r then x :: l else r :: x :: l
theorem putF_mem {r x : Rf} : ∀ {l : List Rf}, x ∈ putF r l ↔ x = r ∨ x ∈ l
  | [] => by simp [putF]
  | y :: l => by
    unfold putF
    by_cases h : y.lt r
    · rw [if_pos h, List.mem_cons, putF_mem, List.mem_cons]
      constructor
      · rintro (h | h | h)
        · exact .inr (.inl h)
        · exact .inl h
        · exact .inr (.inr h)
      · rintro (h | h | h)
        · exact .inr (.inl h)
        · exact .inl h
        · exact .inr (.inr h)
    · rw [if_neg h]
      by_cases e : y = r
      · rw [if_pos e]
        constructor
        · exact .inr
        · rintro (h | h)
          · rw [h, e]; simp
          · exact h
      · rw [if_neg e, List.mem_cons]
theorem putF_rise {r : Rf} : ∀ {l : List Rf}, Rise l → Rise (putF r l)
  | [], _ => by unfold putF; exact List.pairwise_singleton _ _
  | y :: l, h => by
    have h' := List.pairwise_cons.1 h
    unfold putF
    by_cases hy : y.lt r
    · rw [if_pos hy]
      refine List.pairwise_cons.2 ⟨fun x hx => ?_, putF_rise h'.2⟩
      rcases putF_mem.1 hx with e | e
      · rw [e]; exact hy
      · exact h'.1 x e
    · rw [if_neg hy]
      by_cases e : y = r
      · rw [if_pos e]; exact h
      · rw [if_neg e]
        have hr : r.lt y := by
          rcases Rf.tri y r with q | q | q
          · exact absurd q hy
          · exact absurd q e
          · exact q
        refine List.pairwise_cons.2 ⟨fun x hx => ?_, h⟩
        rcases List.mem_cons.1 hx with e2 | e2
        · rw [e2]; exact hr
        · exact Rf.trans hr (h'.1 x e2)
theorem putF_all {r : Rf} : ∀ {xs ys : List Rf}, (∀ x ∈ xs, x.lt r) → putF r (xs ++ ys) = xs ++ putF r ys
  | [], _, _ => rfl
  | x :: xs, ys, h => by
    show putF r (x :: (xs ++ ys)) = x :: (xs ++ putF r ys)
    rw [putF, if_pos (h x (by simp)), putF_all (fun y hy => h y (List.mem_cons_of_mem _ hy))]
theorem putF_in {r : Rf} : ∀ {xs ys : List Rf}, (∃ x ∈ xs, ¬ x.lt r) → putF r (xs ++ ys) = putF r xs ++ ys
  | [], _, h => by obtain ⟨x, hx, _⟩ := h; cases hx
  | x :: xs, ys, h => by
    show putF r (x :: (xs ++ ys)) = putF r (x :: xs) ++ ys
    by_cases hx : x.lt r
    · rw [putF, if_pos hx, putF, if_pos hx, putF_in (xs := xs) (ys := ys) (by
        obtain ⟨y, hy, hn⟩ := h
        rcases List.mem_cons.1 hy with e | e
        · rw [e] at hn; exact absurd hx hn
        · exact ⟨y, e, hn⟩)]
      rfl
    · by_cases e : x = r
      · rw [putF, if_neg hx, if_pos e, putF, if_neg hx, if_pos e]; rfl
      · rw [putF, if_neg hx, if_neg e, putF, if_neg hx, if_neg e]; rfl
/-- All of some, put one after the other. -/
noncomputable def putL (acc : List Rf) (l : List Rf) : List Rf := l.foldl (fun a r => putF r a) acc
theorem putL_mem {x : Rf} : ∀ {l acc : List Rf}, x ∈ putL acc l ↔ x ∈ acc ∨ x ∈ l
  | [], acc => by simp [putL]
  | r :: l, acc => by
    have h := putL_mem (x := x) (l := l) (acc := putF r acc)
    show x ∈ putL (putF r acc) l ↔ _
    rw [h, putF_mem, List.mem_cons]
    constructor
    · rintro ((h | h) | h)
      · exact .inr (.inl h)
      · exact .inl h
      · exact .inr (.inr h)
    · rintro (h | h | h)
      · exact .inl (.inr h)
      · exact .inl (.inl h)
      · exact .inr h
theorem putL_rise : ∀ {l acc : List Rf}, Rise acc → Rise (putL acc l)
  | [], _, h => h
  | _ :: l, _, h => putL_rise (l := l) (putF_rise h)

open Classical in
/-- Equal neighbours struck. -/
noncomputable def compF : List Rf → List Rf
  | [] => []
  | [a] => [a]
  | a :: b :: l => if a = b then compF (b :: l) else a :: compF (b :: l)
theorem compF_mem {x : Rf} : ∀ {l : List Rf}, x ∈ compF l ↔ x ∈ l
  | [] => by simp [compF]
  | [a] => by simp [compF]
  | a :: b :: l => by
    unfold compF
    by_cases h : a = b
    · rw [if_pos h, compF_mem, h]; simp
    · rw [if_neg h, List.mem_cons, compF_mem]; simp
/-- It does not fall. -/
def Wax (l : List Rf) : Prop := l.Pairwise fun a b => ¬ b.lt a
theorem compF_rise : ∀ {l : List Rf}, Wax l → Rise (compF l)
  | [], _ => by unfold compF; exact List.Pairwise.nil
  | [a], _ => by unfold compF; exact List.pairwise_singleton _ _
  | a :: b :: l, h => by
    have h' := List.pairwise_cons.1 h
    unfold compF
    by_cases e : a = b
    · rw [if_pos e]; exact compF_rise h'.2
    · rw [if_neg e]
      refine List.pairwise_cons.2 ⟨fun x hx => ?_, compF_rise h'.2⟩
      have hx2 := compF_mem.1 hx
      have hab : a.lt b := by
        rcases Rf.tri a b with q | q | q
        · exact q
        · exact absurd q e
        · exact absurd q (h'.1 b (by simp))
      have h2 := List.pairwise_cons.1 h'.2
      rcases List.mem_cons.1 hx2 with e2 | e2
      · rw [e2]; exact hab
      · rcases Rf.tri b x with q | q | q
        · exact Rf.trans hab q
        · rw [← q]; exact hab
        · exact absurd q (h2.1 x e2)
/-- Whatever list is sorted and struck: it is what is put one after the other. -/
theorem comp_put {l d : List Rf} (hw : Wax d) (hm : ∀ x, x ∈ d ↔ x ∈ l) : compF d = putL [] l :=
  Rise.ext (compF_rise hw) (putL_rise Rise.nil) (fun x => by rw [compF_mem, hm, putL_mem]; simp)

end Go.Proofs.YthdjinicmnhgpaaGreatDoor
