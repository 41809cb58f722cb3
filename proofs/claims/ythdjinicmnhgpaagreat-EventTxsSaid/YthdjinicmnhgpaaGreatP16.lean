/-
What is wrong with an event: the reference's Right.
-/
import Derived.Test.YthdjinicmnhgpaaGreatP15
namespace Go.Proofs.YthdjinicmnhgpaaGreat
open Go.RowKit

theorem own_trunc {e : Ev} (hk : rowedB e.kind = false) : ownB e = true ↔ (rfB ⟨e.ao, e.av⟩ ⟨0, 0⟩ = true ∧ e.old = 0 ∧ e.b = [] ∧ e.a = []) := by
  unfold ownB Ev.only
  rw [if_neg (by rw [hk]; simp), evB_true, rfB_true]
  obtain ⟨k, ao, av, old, b, a, rs, fl⟩ := e
  simp only [Ev.mk.injEq, Rf.mk.injEq, true_and, and_true]
  constructor
  · rintro ⟨h1, h2, h3, h4, h5⟩; exact ⟨⟨h1, h2⟩, h3, h4, h5⟩
  · rintro ⟨⟨h1, h2⟩, h3, h4, h5⟩; exact ⟨h1, h2, h3, h4, h5⟩
theorem own_row {e : Ev} (hk : rowedB e.kind = true) : ownB e = true ↔ (e.rs = [] ∧ e.fl = 0) := by
  unfold ownB Ev.only
  rw [if_pos hk, evB_true]
  obtain ⟨k, ao, av, old, b, a, rs, fl⟩ := e
  simp only [Ev.mk.injEq, true_and]
theorem bool_ff {b : Bool} {p : Prop} (h : b = true ↔ p) (hn : ¬ p) : b = false := by
  cases b with
  | false => rfl
  | true => exact absurd (h.1 rfl) hn
theorem len_pos {α : Type} {l : List α} (h : 0 < l.length) : l ≠ [] := by rintro rfl; exact absurd h (by simp)

/-- The relations of the reference's catalog. -/
structure RCat (ps : List RR) : Prop where
  ok : CatOk (ps.map RR.r)
  wb : ∀ p ∈ ps, p.r.wb
theorem RCat.n16 {ps : List RR} (h : RCat ps) {p : RR} (hp : p ∈ ps) : p.r.cols.length ≤ 16 := Rl.cols_le (h.ok.right _ (List.mem_map_of_mem hp))

set_option maxRecDepth 100000 in set_option maxHeartbeats 4000000 in
theorem reright_any (x : EL) (ps : List RR) (a : Option Addr) (cap : Nat) (w : World) (hx : x.at 6 K.rc w) (hs : x.e.small) (hwk : x.e.wk) (hl : RL w (.slice a ps.length cap) ps) (hc : RCat ps) :
    Calls Tryz.prog 24 #[x.agg, .slice a ps.length cap] w fun e w' => e = .returned (.int .i64 (evE x.e (ps.map RR.r))) ∧ Ext w w' := by
  have HL := Hid.mk' hx.r
  have hn := hs.r
  have hpl : ps.length ≤ 1000 := by have := hc.ok.n64; rw [List.length_map] at this; omega
  have HG := Hid.mk' (fun o v W (h : Ext w W) => rget_any ps a cap o v W (hl.ext h) hpl)
  have HIM := Hid.mk' (fun (p : RR) (hp : p ∈ ps) W (h : Ext w W) =>
    (show Calls Tryz.prog 47 #[p.agg, .int .u8 x.e.kind, .int .u8 x.e.old, .slice x.ba x.e.b.length x.bc, .slice x.aa x.e.a.length x.ac] W (fun e w' => e = .returned (.int .i64 (imgE p.r x.e.kind x.e.old x.e.b x.e.a)) ∧ Ext W w') from
      rimage_any x.e.kind x.e.old x.e.b x.e.a x.ba x.aa x.bc x.ac p.r.oid p.r.ver p.r.nm p.r.id p.r.cols p.a p.c W ((hl.ext h).sl p hp) (by have := hc.n16 hp; omega) (hx.b.ext h) (hx.a.ext h) hs.b hs.a hwk.b hwk.a (hc.wb p hp).cs (hc.wb p hp).nm (hc.wb p hp).idn hwk.old))
  clear hx hs hwk hc hl
  obtain ⟨⟨k1, ao1, av1, old1, b1, a1, r1, fl1⟩, ba1, bc1, aa1, ac1, ra1, rc1⟩ := x
  unfold EL.agg
  simp only at HL hn HIM ⊢
  by_cases h0 : k1 < 4
  · have HR := Hid.mk' (show evE (⟨k1, ao1, av1, old1, b1, a1, r1, fl1⟩ : Ev) (ps.map RR.r) = 7 from if_pos (.inl h0))
    go_enter Tryz.func24, Tryz.ntmps24
    go_wp2
    go_ret
    exact ⟨ret_int HR.out.symm, by (repeat (with_reducible (first | exact Ext.refl _ | assumption | exact held_left (by assumption) | apply Ext.drewN | apply Ext.drew | apply Ext.alloc | (refine Ext.setCell ?_ (by first | (simp; done) | (simp; omega) | omega) _) | (refine Ext.trans ?_ (by assumption)) | (refine Ext.trans ?_ (held_left (by assumption))))))⟩
  by_cases h1 : 7 < k1
  · have HR := Hid.mk' (show evE (⟨k1, ao1, av1, old1, b1, a1, r1, fl1⟩ : Ev) (ps.map RR.r) = 7 from if_pos (.inr h1))
    go_enter Tryz.func24, Tryz.ntmps24
    go_wp2
    go_ret
    exact ⟨ret_int HR.out.symm, by (repeat (with_reducible (first | exact Ext.refl _ | assumption | exact held_left (by assumption) | apply Ext.drewN | apply Ext.drew | apply Ext.alloc | (refine Ext.setCell ?_ (by first | (simp; done) | (simp; omega) | omega) _) | (refine Ext.trans ?_ (by assumption)) | (refine Ext.trans ?_ (held_left (by assumption))))))⟩
  have HR0 := Hid.mk' (show evE (⟨k1, ao1, av1, old1, b1, a1, r1, fl1⟩ : Ev) (ps.map RR.r) = _ from if_neg (by simp only; omega))
  simp only at HR0
  by_cases h7 : k1 = 7
  · subst h7
    have hrow : rowedB 7 = false := rfl
    have hown := own_trunc (e := ⟨7, ao1, av1, old1, b1, a1, r1, fl1⟩) hrow
    simp only at hown
    cases hq : rfB ⟨ao1, av1⟩ ⟨0, 0⟩ with
    | false =>
      have HR := Hid.mk' (show evE ⟨7, ao1, av1, old1, b1, a1, r1, fl1⟩ (ps.map RR.r) = 3 from by rw [HR0.out, if_pos (bool_ff hown (fun h => by rw [h.1] at hq; cases hq))])
      have hQ := fun w => neq_rref ao1 av1 0 0 w
      rw [hq] at hQ
      clear hq hown HR0 hrow
      go_enter Tryz.func24, Tryz.ntmps24
      go_wp2
      go_ret
      exact ⟨ret_int HR.out.symm, by (repeat (with_reducible (first | exact Ext.refl _ | assumption | exact held_left (by assumption) | apply Ext.drewN | apply Ext.drew | apply Ext.alloc | (refine Ext.setCell ?_ (by first | (simp; done) | (simp; omega) | omega) _) | (refine Ext.trans ?_ (by assumption)) | (refine Ext.trans ?_ (held_left (by assumption))))))⟩
    | true =>
    have hQ := fun w => neq_rref ao1 av1 0 0 w
    rw [hq] at hQ
    by_cases ho : old1 = 0
    case neg =>
      have HR := Hid.mk' (show evE ⟨7, ao1, av1, old1, b1, a1, r1, fl1⟩ (ps.map RR.r) = 3 from by rw [HR0.out, if_pos (bool_ff hown (fun h => ho h.2.1))])
      have ho' : (old1 != 0) = true := by simpa using ho
      clear hq hown HR0 hrow ho
      go_enter Tryz.func24, Tryz.ntmps24
      go_wp2
      go_ret
      exact ⟨ret_int HR.out.symm, by (repeat (with_reducible (first | exact Ext.refl _ | assumption | exact held_left (by assumption) | apply Ext.drewN | apply Ext.drew | apply Ext.alloc | (refine Ext.setCell ?_ (by first | (simp; done) | (simp; omega) | omega) _) | (refine Ext.trans ?_ (by assumption)) | (refine Ext.trans ?_ (held_left (by assumption))))))⟩
    subst ho
    by_cases hb : 0 < b1.length
    · have HR := Hid.mk' (show evE ⟨7, ao1, av1, 0, b1, a1, r1, fl1⟩ (ps.map RR.r) = 3 from by rw [HR0.out, if_pos (bool_ff hown (fun h => len_pos hb h.2.2.1))])
      clear hq hown HR0 hrow
      go_enter Tryz.func24, Tryz.ntmps24
      go_wp2
      go_ret
      exact ⟨ret_int HR.out.symm, by (repeat (with_reducible (first | exact Ext.refl _ | assumption | exact held_left (by assumption) | apply Ext.drewN | apply Ext.drew | apply Ext.alloc | (refine Ext.setCell ?_ (by first | (simp; done) | (simp; omega) | omega) _) | (refine Ext.trans ?_ (by assumption)) | (refine Ext.trans ?_ (held_left (by assumption))))))⟩
    obtain rfl : b1 = [] := List.length_eq_zero_iff.1 (by omega)
    by_cases ha : 0 < a1.length
    · have HR := Hid.mk' (show evE ⟨7, ao1, av1, 0, [], a1, r1, fl1⟩ (ps.map RR.r) = 3 from by rw [HR0.out, if_pos (bool_ff hown (fun h => len_pos ha h.2.2.2))])
      clear hq hown HR0 hrow hb
      go_enter Tryz.func24, Tryz.ntmps24
      go_wp2
      go_ret
      exact ⟨ret_int HR.out.symm, by (repeat (with_reducible (first | exact Ext.refl _ | assumption | exact held_left (by assumption) | apply Ext.drewN | apply Ext.drew | apply Ext.alloc | (refine Ext.setCell ?_ (by first | (simp; done) | (simp; omega) | omega) _) | (refine Ext.trans ?_ (by assumption)) | (refine Ext.trans ?_ (held_left (by assumption))))))⟩
    obtain rfl : a1 = [] := List.length_eq_zero_iff.1 (by omega)
    have HRT := Hid.mk' (show evE ⟨7, ao1, av1, 0, [], [], r1, fl1⟩ (ps.map RR.r) = truncE ⟨7, ao1, av1, 0, [], [], r1, fl1⟩ (ps.map RR.r) from by
      rw [HR0.out, if_neg (by rw [hown.2 ⟨hq, rfl, rfl, rfl⟩]; simp), if_pos rfl])
    clear hq hown HR0 hrow hb ha
    generalize evE ⟨7, ao1, av1, 0, [], [], r1, fl1⟩ (ps.map RR.r) = R at HRT ⊢
    by_cases hz : r1.length = 0
    · have HR := Hid.mk' (show R = 17 from by rw [HRT.out]; exact if_pos (.inl (by simp only; omega)))
      obtain rfl : r1 = [] := List.length_eq_zero_iff.1 hz
      clear HRT
      go_enter Tryz.func24, Tryz.ntmps24
      go_wp2
      go_ret
      exact ⟨ret_int HR.out.symm, by (repeat (with_reducible (first | exact Ext.refl _ | assumption | exact held_left (by assumption) | apply Ext.drewN | apply Ext.drew | apply Ext.alloc | (refine Ext.setCell ?_ (by first | (simp; done) | (simp; omega) | omega) _) | (refine Ext.trans ?_ (by assumption)) | (refine Ext.trans ?_ (held_left (by assumption))))))⟩
    have hz' : (((r1.length : Nat) : Int) == 0) = false := by simp; intro e; exact hz (by rw [e]; rfl)
    have HLP := Hid.mk' (show 0 < r1.length by omega)
    clear hz
    by_cases h8 : 8 < r1.length
    · have HR := Hid.mk' (show R = 17 from by rw [HRT.out]; exact if_pos (.inr h8))
      clear HRT
      go_enter Tryz.func24, Tryz.ntmps24
      go_wp2
      go_ret
      exact ⟨ret_int HR.out.symm, by (repeat (with_reducible (first | exact Ext.refl _ | assumption | exact held_left (by assumption) | apply Ext.drewN | apply Ext.drew | apply Ext.alloc | (refine Ext.setCell ?_ (by first | (simp; done) | (simp; omega) | omega) _) | (refine Ext.trans ?_ (by assumption)) | (refine Ext.trans ?_ (held_left (by assumption))))))⟩
    have HRR := Hid.mk' (show R = if risB r1 = false then 15 else if hasAll r1 (ps.map RR.r) = false then 10 else if 3 < fl1 then 4 else 0 from by rw [HRT.out]; exact if_neg (by have := HLP.out; simp only; omega))
    clear HRT
    go_enter Tryz.func24, Tryz.ntmps24
    go_wp2
    go_loopw [5] (fun i wr => ∃ k : Nat, k + 1 ≤ r1.length ∧ i = .int .i64 ((k : Int) + 1) ∧ Hid (∀ j (h : j + 1 < r1.length), j < k → aheadB r1[j].o r1[j].v r1[j + 1].o r1[j + 1].v = true) ∧ Hid (Blk wr w.heap.size #[.int .u8 7, .int .u32 ao1, .int .u32 av1, .int .u8 0, .slice ba1 0 bc1, .slice aa1 0 ac1, .slice ra1 r1.length rc1, .int .u8 fl1] 65) ∧ Hid (Ext w wr)) (fun i _ => r1.length - (intOf i).toNat)
    case atStart => exact ⟨0, HLP.out, rfl, Hid.mk' (fun j _ h => by omega), Hid.mk' (Blk.new _ _ _), Hid.mk' (by (repeat (with_reducible (first | exact Ext.refl _ | assumption | exact held_left (by assumption) | apply Ext.drewN | apply Ext.drew | apply Ext.alloc | (refine Ext.setCell ?_ (by first | (simp; done) | (simp; omega) | omega) _) | (refine Ext.trans ?_ (by assumption)) | (refine Ext.trans ?_ (held_left (by assumption)))))))⟩
    case round =>
      obtain ⟨k, hk, rfl, hrel, hX, hE⟩ := hrel
      have gv := hX.out.cell
      have zv := hX.out.lt
      by_cases hlt : k + 1 < r1.length
      · have hlt0 : k < r1.length := by omega
        obtain ⟨o1, p1, rfl, hb1, hx1⟩ := HL.out.at_ (i := k) (by simpa using hlt0)
        obtain ⟨f0, f1⟩ := Rf.at_ hlt0 hx1 hb1 hE.out
        obtain ⟨o2, p2, he2, hb2, hx2⟩ := HL.out.at_ (i := k + 1) (by simpa using hlt)
        simp only [Option.some.injEq, Addr.mk.injEq] at he2
        obtain ⟨rfl, rfl, -⟩ := he2
        obtain ⟨s0, s1⟩ := Rf.at_ hlt hx2 hb2 hE.out
        have hbw : o1 < wr.heap.size := Nat.lt_of_lt_of_le hb1 hE.out.size
        have HCP := Hid.mk' (fun W => rahead_any r1[k].o r1[k].v r1[k + 1].o r1[k + 1].v W)
        have q1 : IntKind.i64.wrap (k : Int) = (k : Int) := IntWalk.i64_in _ (by omega)
        have q2 : ((k : Int) + 1).toNat = k + 1 := by omega
        have i1 : (k : Int) < (r1.length : Int) := by omega
        have i2 : (k : Int) + 1 < (r1.length : Int) := by omega
        have i3 : (0 : Int) ≤ (k : Int) + 1 := by omega
        have i4 : (0 : Int) ≤ (k : Int) := by omega
        clear hx1 hx2
        cases hA : aheadB r1[k].o r1[k].v r1[k + 1].o r1[k + 1].v with
        | true =>
          have HA := Hid.mk' hA
          rw [hA] at HCP
          clear hA
          go_wp2
          go_region_held3 (fun w' => Ext (wr) w' ∧ (∀ b o, b < (wr).heap.size → w'.cell? ⟨b, o, none⟩ = (wr).cell? ⟨b, o, none⟩) ∧ (∀ b o, b < (wr).heap.size → w'.frozen? ⟨b, o, none⟩ = (wr).frozen? ⟨b, o, none⟩)) ((exact held_of (by (repeat (with_reducible (first | exact Ext.refl _ | assumption | exact held_left (by assumption) | apply Ext.drewN | apply Ext.drew | apply Ext.alloc | (refine Ext.setCell ?_ (by first | (simp; done) | (simp; omega) | omega) _) | (refine Ext.trans ?_ (by assumption)) | (refine Ext.trans ?_ (held_left (by assumption))))))))) ((go_at_call 36; refine (HCP.out _).mono ?_; rintro e w2 ⟨rfl, hb2⟩))
          clear q1 q2
          go_wp2
          go_roundw
          case rel => exact ⟨k + 1, by omega, by go_num, Hid.mk' (fun j h hj => by
            by_cases e : j = k
            · subst e; exact HA.out
            · exact hrel.out j h (by omega)), Hid.mk' (hX.out.ext (by (repeat (with_reducible (first | exact Ext.refl _ | assumption | exact held_left (by assumption) | apply Ext.drewN | apply Ext.drew | apply Ext.alloc | (refine Ext.setCell ?_ (by first | (simp; done) | (simp; omega) | omega) _) | (refine Ext.trans ?_ (by assumption)) | (refine Ext.trans ?_ (held_left (by assumption)))))))), Hid.mk' (hE.out.trans (by (repeat (with_reducible (first | exact Ext.refl _ | assumption | exact held_left (by assumption) | apply Ext.drewN | apply Ext.drew | apply Ext.alloc | (refine Ext.setCell ?_ (by first | (simp; done) | (simp; omega) | omega) _) | (refine Ext.trans ?_ (by assumption)) | (refine Ext.trans ?_ (held_left (by assumption))))))))⟩
          case measure => simp [intOf]; omega
        | false =>
          have HR := Hid.mk' (show R = 15 from by rw [HRR.out, if_pos (risB_no hlt hA)])
          rw [hA] at HCP
          clear hA
          go_wp2
          go_region_held3 (fun w' => Ext (wr) w' ∧ (∀ b o, b < (wr).heap.size → w'.cell? ⟨b, o, none⟩ = (wr).cell? ⟨b, o, none⟩) ∧ (∀ b o, b < (wr).heap.size → w'.frozen? ⟨b, o, none⟩ = (wr).frozen? ⟨b, o, none⟩)) ((exact held_of (by (repeat (with_reducible (first | exact Ext.refl _ | assumption | exact held_left (by assumption) | apply Ext.drewN | apply Ext.drew | apply Ext.alloc | (refine Ext.setCell ?_ (by first | (simp; done) | (simp; omega) | omega) _) | (refine Ext.trans ?_ (by assumption)) | (refine Ext.trans ?_ (held_left (by assumption))))))))) ((go_at_call 36; refine (HCP.out _).mono ?_; rintro e w2 ⟨rfl, hb2⟩))
          clear q1 q2
          go_wp2
          go_ret
          exact ⟨ret_int HR.out.symm, hE.out.trans (by (repeat (with_reducible (first | exact Ext.refl _ | assumption | exact held_left (by assumption) | apply Ext.drewN | apply Ext.drew | apply Ext.alloc | (refine Ext.setCell ?_ (by first | (simp; done) | (simp; omega) | omega) _) | (refine Ext.trans ?_ (by assumption)) | (refine Ext.trans ?_ (held_left (by assumption)))))))⟩
      · have HR1 := Hid.mk' (show R = if hasAll r1 (ps.map RR.r) = false then 10 else if 3 < fl1 then 4 else 0 from by rw [HRR.out, if_neg (by rw [risB_true.2 (fun i h => hrel.out i h (by omega))]; simp)])
        clear HRR hrel
        obtain ⟨wo, hwo⟩ : ∃ x, x = wr := ⟨_, rfl⟩
        subst hwo
        go_wp2
        go_loopw [6] (fun i wr => ∃ k : Nat, k ≤ r1.length ∧ i = .int .i64 k ∧ Hid (∀ j (h : j < r1.length), j < k → hasR r1[j].o r1[j].v (ps.map RR.r) = true) ∧ Hid (Ext wo wr)) (fun i _ => r1.length - (intOf i).toNat)
        case atStart => exact ⟨0, by omega, rfl, Hid.mk' (fun j _ h => by omega), Hid.mk' (by (repeat (with_reducible (first | exact Ext.refl _ | assumption | exact held_left (by assumption) | apply Ext.drewN | apply Ext.drew | apply Ext.alloc | (refine Ext.setCell ?_ (by first | (simp; done) | (simp; omega) | omega) _) | (refine Ext.trans ?_ (by assumption)) | (refine Ext.trans ?_ (held_left (by assumption)))))))⟩
        case round =>
          obtain ⟨m, hm, rfl, hrel, hF⟩ := hrel
          have gv2 := (hX.out.ext hF.out).cell
          have zv2 := (hX.out.ext hF.out).lt
          clear gv zv
          by_cases hlt2 : m < r1.length
          · obtain ⟨o1, p1, rfl, hb1, hx1⟩ := HL.out.at_ (i := m) (by simpa using hlt2)
            obtain ⟨f0, f1⟩ := Rf.at_ hlt2 hx1 hb1 (hE.out.trans hF.out)
            have hbw : o1 < wr.heap.size := Nat.lt_of_lt_of_le hb1 (hE.out.trans hF.out).size
            have HGT := Hid.mk' (fun W (h : Ext wr W) => HG.out r1[m].o r1[m].v W (hE.out.trans (hF.out.trans h)))
            rw [getP_is] at HGT
            obtain ⟨q, hq⟩ : ∃ q, q = (getP r1[m].o r1[m].v ps).getD RR.zero := ⟨_, rfl⟩
            rw [← hq] at HGT
            obtain ⟨⟨oid, ver, nm, id, cols⟩, qa, qc⟩ := q
            unfold RR.agg at HGT
            simp only at HGT
            clear hx1 hq
            cases hA : hasR r1[m].o r1[m].v (ps.map RR.r) with
            | true =>
              have HA := Hid.mk' hA
              rw [hA] at HGT
              clear hA
              go_wp2_with (go_at_call 35; refine (HGT.out _ (by (repeat (with_reducible (first | exact Ext.refl _ | assumption | exact held_left (by assumption) | apply Ext.drewN | apply Ext.drew | apply Ext.alloc | (refine Ext.setCell ?_ (by first | (simp; done) | (simp; omega) | omega) _) | (refine Ext.trans ?_ (by assumption)) | (refine Ext.trans ?_ (held_left (by assumption)))))))).mono ?_; rintro e w3 ⟨rfl, hb3⟩)
              go_roundw
              case rel => exact ⟨m + 1, by omega, by go_num, Hid.mk' (fun j h hj => by
                by_cases e : j = m
                · subst e; exact HA.out
                · exact hrel.out j h (by omega)), Hid.mk' (hF.out.trans (by (repeat (with_reducible (first | exact Ext.refl _ | assumption | exact held_left (by assumption) | apply Ext.drewN | apply Ext.drew | apply Ext.alloc | (refine Ext.setCell ?_ (by first | (simp; done) | (simp; omega) | omega) _) | (refine Ext.trans ?_ (by assumption)) | (refine Ext.trans ?_ (held_left (by assumption))))))))⟩
              case measure => simp [intOf]; omega
            | false =>
              have HR := Hid.mk' (show R = 10 from by rw [HR1.out, if_pos (hasAll_no hlt2 hA)])
              rw [hA] at HGT
              clear hA
              go_wp2_with (go_at_call 35; refine (HGT.out _ (by (repeat (with_reducible (first | exact Ext.refl _ | assumption | exact held_left (by assumption) | apply Ext.drewN | apply Ext.drew | apply Ext.alloc | (refine Ext.setCell ?_ (by first | (simp; done) | (simp; omega) | omega) _) | (refine Ext.trans ?_ (by assumption)) | (refine Ext.trans ?_ (held_left (by assumption)))))))).mono ?_; rintro e w3 ⟨rfl, hb3⟩)
              go_ret
              exact ⟨ret_int HR.out.symm, hE.out.trans (hF.out.trans (by (repeat (with_reducible (first | exact Ext.refl _ | assumption | exact held_left (by assumption) | apply Ext.drewN | apply Ext.drew | apply Ext.alloc | (refine Ext.setCell ?_ (by first | (simp; done) | (simp; omega) | omega) _) | (refine Ext.trans ?_ (by assumption)) | (refine Ext.trans ?_ (held_left (by assumption))))))))⟩
          · have HR2 := Hid.mk' (show R = if 3 < fl1 then 4 else 0 from by rw [HR1.out, if_neg (by rw [hasAll_yes (fun i h => hrel.out i h (by omega))]; simp)])
            clear HR1 hrel
            by_cases h3 : 3 < fl1
            · have HR := Hid.mk' (show R = 4 from by rw [HR2.out, if_pos h3])
              go_wp2
              go_ret
              exact ⟨ret_int HR.out.symm, hE.out.trans hF.out⟩
            · have HR := Hid.mk' (show R = 0 from by rw [HR2.out, if_neg h3])
              go_wp2
              go_ret
              exact ⟨ret_int HR.out.symm, hE.out.trans hF.out⟩
  · have hrow : rowedB k1 = true := decide_eq_true (by omega)
    have hown := own_row (e := (⟨k1, ao1, av1, old1, b1, a1, r1, fl1⟩ : Ev)) hrow
    simp only at hown
    have h7' : (k1 == 7) = false := by simpa using h7
    by_cases hb : 0 < r1.length
    · have HR := Hid.mk' (show evE (⟨k1, ao1, av1, old1, b1, a1, r1, fl1⟩ : Ev) (ps.map RR.r) = 3 from by rw [HR0.out, if_pos (bool_ff hown (fun h => len_pos hb h.1))])
      clear hown HR0 hrow h7
      go_enter Tryz.func24, Tryz.ntmps24
      go_wp2
      go_ret
      exact ⟨ret_int HR.out.symm, by (repeat (with_reducible (first | exact Ext.refl _ | assumption | exact held_left (by assumption) | apply Ext.drewN | apply Ext.drew | apply Ext.alloc | (refine Ext.setCell ?_ (by first | (simp; done) | (simp; omega) | omega) _) | (refine Ext.trans ?_ (by assumption)) | (refine Ext.trans ?_ (held_left (by assumption))))))⟩
    obtain rfl : r1 = [] := List.length_eq_zero_iff.1 (by omega)
    by_cases hf : fl1 = 0
    case neg =>
      have HR := Hid.mk' (show evE ⟨k1, ao1, av1, old1, b1, a1, [], fl1⟩ (ps.map RR.r) = 3 from by rw [HR0.out, if_pos (bool_ff hown (fun h => hf h.2))])
      have hf' : (fl1 != 0) = true := by simpa using hf
      clear hown HR0 hrow h7 hf hb
      go_enter Tryz.func24, Tryz.ntmps24
      go_wp2
      go_ret
      exact ⟨ret_int HR.out.symm, by (repeat (with_reducible (first | exact Ext.refl _ | assumption | exact held_left (by assumption) | apply Ext.drewN | apply Ext.drew | apply Ext.alloc | (refine Ext.setCell ?_ (by first | (simp; done) | (simp; omega) | omega) _) | (refine Ext.trans ?_ (by assumption)) | (refine Ext.trans ?_ (held_left (by assumption))))))⟩
    subst hf
    have HR1 := Hid.mk' (show evE ⟨k1, ao1, av1, old1, b1, a1, [], 0⟩ (ps.map RR.r) = _ from by rw [HR0.out, if_neg (by rw [hown.2 ⟨rfl, rfl⟩]; simp), if_neg h7])
    generalize evE ⟨k1, ao1, av1, old1, b1, a1, [], 0⟩ (ps.map RR.r) = R at HR1 ⊢
    clear hown HR0 hrow h7 hb
    have HGT := Hid.mk' (fun W (h : Ext w W) => HG.out ao1 av1 W h)
    rw [getP_is] at HGT
    cases hg : getP ao1 av1 ps with
    | none =>
      have hgr : getR ao1 av1 (ps.map RR.r) = none := by rw [← getP_map, hg]; rfl
      have hh := getR_none.1 hgr
      have HR := Hid.mk' (show R = 10 from by rw [HR1.out, hgr])
      rw [hg, hh] at HGT
      clear hg hgr hh HR1
      simp only [Option.getD_none] at HGT
      unfold RR.agg RR.zero at HGT
      go_enter Tryz.func24, Tryz.ntmps24
      go_wp2_with (go_at_call 35; refine (HGT.out _ (by (repeat (with_reducible (first | exact Ext.refl _ | assumption | exact held_left (by assumption) | apply Ext.drewN | apply Ext.drew | apply Ext.alloc | (refine Ext.setCell ?_ (by first | (simp; done) | (simp; omega) | omega) _) | (refine Ext.trans ?_ (by assumption)) | (refine Ext.trans ?_ (held_left (by assumption)))))))).mono ?_; rintro e w3 ⟨rfl, hb3⟩)
      go_ret
      exact ⟨ret_int HR.out.symm, by (repeat (with_reducible (first | exact Ext.refl _ | assumption | exact held_left (by assumption) | apply Ext.drewN | apply Ext.drew | apply Ext.alloc | (refine Ext.setCell ?_ (by first | (simp; done) | (simp; omega) | omega) _) | (refine Ext.trans ?_ (by assumption)) | (refine Ext.trans ?_ (held_left (by assumption))))))⟩
    | some p =>
      have hgr : getR ao1 av1 (ps.map RR.r) = some p.r := by rw [← getP_map, hg]; rfl
      have hh : hasR ao1 av1 (ps.map RR.r) = true := by rw [← getP_is, hg]; rfl
      have HR := Hid.mk' (show R = imgE p.r k1 old1 b1 a1 from by rw [HR1.out, hgr])
      have HI := Hid.mk' (HIM.out p (getP_some hg).1)
      rw [hg, hh] at HGT
      rw [← HR.out] at HI
      clear hg hgr hh HR1 HR HIM
      simp only [Option.getD_some] at HGT
      obtain ⟨⟨oid, ver, nm, id, cols⟩, qa, qc⟩ := p
      unfold RR.agg at HGT HI
      simp only at HGT HI
      go_enter Tryz.func24, Tryz.ntmps24
      go_wp2_with (first
        | (go_at_call 35; refine (HGT.out _ (by (repeat (with_reducible (first | exact Ext.refl _ | assumption | exact held_left (by assumption) | apply Ext.drewN | apply Ext.drew | apply Ext.alloc | (refine Ext.setCell ?_ (by first | (simp; done) | (simp; omega) | omega) _) | (refine Ext.trans ?_ (by assumption)) | (refine Ext.trans ?_ (held_left (by assumption)))))))).mono ?_; rintro e w3 ⟨rfl, hb3⟩; (have hE_w3 : Ext (w.alloc (.cells #[.int .u8 k1, .int .u32 ao1, .int .u32 av1, .int .u8 old1, .slice ba1 b1.length bc1, .slice aa1 a1.length ac1, .slice ra1 0 rc1, .int .u8 0] 65)) w3 := (by (repeat (with_reducible (first | exact Ext.refl _ | assumption | exact held_left (by assumption) | apply Ext.drewN | apply Ext.drew | apply Ext.alloc | (refine Ext.setCell ?_ (by first | (simp; done) | (simp; omega) | omega) _) | (refine Ext.trans ?_ (by assumption)) | (refine Ext.trans ?_ (held_left (by assumption))))))); obtain ⟨hc_w3, hf_w3⟩ := hE_w3.cells; have hz_w3 := hE_w3.size); have z3 : w.heap.size < w3.heap.size := (by have := hE_w3.size; simp at this; omega))
        | (go_at_call 47; refine (HI.out _ (by (repeat (with_reducible (first | exact Ext.refl _ | assumption | exact held_left (by assumption) | apply Ext.drewN | apply Ext.drew | apply Ext.alloc | (refine Ext.setCell ?_ (by first | (simp; done) | (simp; omega) | omega) _) | (refine Ext.trans ?_ (by assumption)) | (refine Ext.trans ?_ (held_left (by assumption)))))))).mono ?_; rintro e w4 ⟨rfl, hb4⟩))
      go_ret
      exact ⟨rfl, by (repeat (with_reducible (first | exact Ext.refl _ | assumption | exact held_left (by assumption) | apply Ext.drewN | apply Ext.drew | apply Ext.alloc | (refine Ext.setCell ?_ (by first | (simp; done) | (simp; omega) | omega) _) | (refine Ext.trans ?_ (by assumption)) | (refine Ext.trans ?_ (held_left (by assumption))))))⟩

end Go.Proofs.YthdjinicmnhgpaaGreat

/-
The awake of the laws of events.
-/
namespace Go.Proofs.YthdjinicmnhgpaaGreat
open Go.RowKit

def aw13 (o : Int) : Rl := ⟨o, 1, ⟨#[116]⟩, 0, [⟨⟨#[97]⟩, 1, false⟩]⟩
theorem aw13_up : ofUp [aw13 1, aw13 2] 2 = [aw13 1, aw13 2] := by rfl
theorem aw13_ofE : ofE [aw13 1, aw13 2] = 0 := by decide
theorem aw13_ofPl : ofPl [aw13 1, aw13 2] = 2 := by decide
theorem aw13_wb (v : Int) : (aw13 v).wb := ⟨by show 1 ≤ 9223372036854775807; omega, by intro c hc; simp [aw13] at hc; subst hc; show 1 ≤ 9223372036854775807; omega, by show 1 ≤ 5864062014634; omega, Int.le_refl 0⟩
theorem aw13_own (rs : List Rf) : ownB ⟨7, 0, 0, 0, [], [], rs, 0⟩ = true := (own_trunc (e := ⟨7, 0, 0, 0, [], [], rs, 0⟩) rfl).2 ⟨rfB_true.2 rfl, rfl, rfl, rfl⟩
theorem aw13_small {rs : List Rf} (h : rs.length ≤ 1000) : Ev.small ⟨7, 0, 0, 0, [], [], rs, 0⟩ := ⟨Nat.zero_le _, Nat.zero_le _, h⟩
theorem aw13_wk (rs : List Rf) : Ev.wk ⟨7, 0, 0, 0, [], [], rs, 0⟩ := ⟨(fun c hc => by cases hc), (fun c hc => by cases hc), Int.le_refl 0⟩
theorem aw13_e1 : evE (⟨7, 0, 0, 0, [], [], [⟨2, 1⟩, ⟨1, 1⟩], 0⟩ : Ev) [aw13 1, aw13 2] = 15 := by
  unfold evE
  rw [if_neg (by simp only; omega), if_neg (by rw [aw13_own]; simp), if_pos rfl]
  unfold truncE
  rw [if_neg (by simp), if_pos (risB_no (i := 0) (by simp) (by decide))]
theorem aw13_e2 : evE (⟨7, 0, 0, 0, [], [], [⟨1, 1⟩, ⟨2, 1⟩], 0⟩ : Ev) [aw13 1, aw13 2] = 0 := by
  unfold evE
  rw [if_neg (by simp only; omega), if_neg (by rw [aw13_own]; simp), if_pos rfl]
  unfold truncE
  rw [if_neg (by simp), if_neg (by
    rw [risB_true.2 (fun i h => by
      obtain rfl : i = 0 := by simp at h; omega
      show aheadB 1 1 2 1 = true
      decide)]
    simp), if_neg (by decide), if_neg (by simp only; omega)]

set_option maxRecDepth 100000 in set_option maxHeartbeats 4000000 in
theorem awake13_any (w : World) : Calls Tryz.prog 16 #[] w fun e w' => e = .returned (.bool true) ∧ Ext w w' := by
  have HCI : Hid (∀ W, Ext (((w.alloc (.cells #[.string ⟨#[97]⟩, .int .u8 1, .bool false] 92)).alloc (.cells #[.int .u32 1, .int .u32 1, .string ⟨#[116]⟩, .int .u8 0, .slice (some ⟨w.heap.size, 0, none⟩) 1 1] 70)).alloc (.cells #[.int .u32 2, .int .u32 1, .string ⟨#[116]⟩, .int .u8 0, .slice (some ⟨w.heap.size, 0, none⟩) 1 1] 70)) W → ∀ v : Int, RR.in W ⟨aw13 v, some ⟨w.heap.size, 0, none⟩, 1⟩) := Hid.mk' (fun W h v => ((Sl.new w #[.string ⟨#[97]⟩, .int .u8 1, .bool false] 92 3 1 1 [[.string ⟨#[97]⟩, .int .u8 1, .bool false]] rfl (by intro xs hxs; simp at hxs; subst hxs; rfl) rfl).ext (((Ext.refl _).alloc _).alloc _)).ext h)
  have HOF := Hid.mk' (fun (W : World) (h : Ext (((w.alloc (.cells #[.string ⟨#[97]⟩, .int .u8 1, .bool false] 92)).alloc (.cells #[.int .u32 1, .int .u32 1, .string ⟨#[116]⟩, .int .u8 0, .slice (some ⟨w.heap.size, 0, none⟩) 1 1] 70)).alloc (.cells #[.int .u32 2, .int .u32 1, .string ⟨#[116]⟩, .int .u8 0, .slice (some ⟨w.heap.size, 0, none⟩) 1 1] 70)) W) => cof_any [⟨aw13 1, some ⟨w.heap.size, 0, none⟩, 1⟩, ⟨aw13 2, some ⟨w.heap.size, 0, none⟩, 1⟩] (some ⟨W.heap.size, 0, none⟩) 2 (W.alloc (.cells #[.int .u32 1, .int .u32 1, .string ⟨#[116]⟩, .int .u8 0, .slice (some ⟨w.heap.size, 0, none⟩) 1 1, .int .u32 2, .int .u32 1, .string ⟨#[116]⟩, .int .u8 0, .slice (some ⟨w.heap.size, 0, none⟩) 1 1] 70))
    ⟨Sl.new W #[.int .u32 1, .int .u32 1, .string ⟨#[116]⟩, .int .u8 0, .slice (some ⟨w.heap.size, 0, none⟩) 1 1, .int .u32 2, .int .u32 1, .string ⟨#[116]⟩, .int .u8 0, .slice (some ⟨w.heap.size, 0, none⟩) 1 1] 70 5 2 2 _ rfl (RR.len _) rfl, fun p hp => by simp at hp; rcases hp with rfl | rfl <;> exact HCI.out _ (h.alloc _) _⟩
    (fun p hp => by simp at hp; rcases hp with rfl | rfl <;> exact Nat.le_refl _) (fun p hp => by simp at hp; rcases hp with rfl | rfl <;> exact aw13_wb _) (by simp))
  have HOF := Hid.mk' (HOF.out (((w.alloc (.cells #[.string ⟨#[97]⟩, .int .u8 1, .bool false] 92)).alloc (.cells #[.int .u32 1, .int .u32 1, .string ⟨#[116]⟩, .int .u8 0, .slice (some ⟨w.heap.size, 0, none⟩) 1 1] 70)).alloc (.cells #[.int .u32 2, .int .u32 1, .string ⟨#[116]⟩, .int .u8 0, .slice (some ⟨w.heap.size, 0, none⟩) 1 1] 70)) (Ext.refl _))
  unfold COfPost at HOF
  simp only [World.size_alloc, List.map_cons, List.map_nil, List.length_cons, List.length_nil, Nat.zero_add, Nat.reduceAdd, aw13_ofE, aw13_ofPl, aw13_up] at HOF
  go_enter Tryz.func16, Tryz.ntmps16
  go_upto_region 9 with (go_at_call 6; refine HOF.out.mono ?_; rintro e w1 ⟨pv, rfl, h1, -, hb1⟩; obtain ⟨rfl, c, qs, hc, hq⟩ := h1 (by first | exact rfl | exact trivial); have HC := Hid.mk' hc; have HQ := Hid.mk' hq; have HB1 := Hid.mk' (show Ext w w1 from (((((Ext.refl w).alloc _).alloc _).alloc _).alloc _).trans hb1); (have hb3 : Ext (((w.alloc (.cells #[.string ⟨#[97]⟩, .int .u8 1, .bool false] 92)).alloc (.cells #[.int .u32 1, .int .u32 1, .string ⟨#[116]⟩, .int .u8 0, .slice (some ⟨w.heap.size, 0, none⟩) 1 1] 70)).alloc (.cells #[.int .u32 2, .int .u32 1, .string ⟨#[116]⟩, .int .u8 0, .slice (some ⟨w.heap.size, 0, none⟩) 1 1] 70)) w1 := ((Ext.refl _).alloc _).trans hb1); obtain ⟨hc3, hf3⟩ := hb3.cells; have hz3 := hb3.size; (have z0 : w.heap.size < w1.heap.size := by simp at hz3; omega); (have z1 : w.heap.size + 1 < w1.heap.size := by simp at hz3; omega); (have z2 : w.heap.size + 1 + 1 < w1.heap.size := by simp at hz3; omega); clear h1 hc hq hb1)
  have HCD : Hid (Ca (((((w1.alloc (.cells #[.int .u32 2, .int .u32 1, .int .u32 1, .int .u32 1] 54)).alloc (.cells #[.int .u8 7, .int .u32 0, .int .u32 0, .int .u8 0, .slice none 0 0, .slice none 0 0, .slice (some ⟨w1.heap.size, 0, none⟩) 2 2, .int .u8 0] 76)).alloc (.cells #[.int .u32 1, .int .u32 1, .int .u32 2, .int .u32 1] 54)).alloc (.cells #[.int .u8 7, .int .u32 0, .int .u32 0, .int .u8 0, .slice none 0 0, .slice none 0 0, .slice (some ⟨w1.heap.size + 1 + 1, 0, none⟩) 2 2, .int .u8 0] 76))) _ _ c qs) := Hid.mk' (HC.out.ext (by (repeat (with_reducible (first | exact Ext.refl _ | assumption | exact held_left (by assumption) | apply Ext.drewN | apply Ext.drew | apply Ext.alloc | (refine Ext.setCell ?_ (by first | (simp; done) | (simp; omega) | omega) _) | (refine Ext.trans ?_ (by assumption)) | (refine Ext.trans ?_ (held_left (by assumption))))))))
  have HAT1 : Hid (EL.at 5 K.pc (((((w1.alloc (.cells #[.int .u32 2, .int .u32 1, .int .u32 1, .int .u32 1] 54)).alloc (.cells #[.int .u8 7, .int .u32 0, .int .u32 0, .int .u8 0, .slice none 0 0, .slice none 0 0, .slice (some ⟨w1.heap.size, 0, none⟩) 2 2, .int .u8 0] 76)).alloc (.cells #[.int .u32 1, .int .u32 1, .int .u32 2, .int .u32 1] 54)).alloc (.cells #[.int .u8 7, .int .u32 0, .int .u32 0, .int .u8 0, .slice none 0 0, .slice none 0 0, .slice (some ⟨w1.heap.size + 1 + 1, 0, none⟩) 2 2, .int .u8 0] 76))) ⟨(⟨7, 0, 0, 0, [], [], [⟨2, 1⟩, ⟨1, 1⟩], 0⟩ : Ev), none, 0, none, 0, some ⟨w1.heap.size, 0, none⟩, 2⟩) := Hid.mk' ⟨nilRowP _, nilRowP _, (Sl.new w1 #[.int .u32 2, .int .u32 1, .int .u32 1, .int .u32 1] 54 2 2 2 (([⟨2, 1⟩, ⟨1, 1⟩] : List Rf).map Rf.cells) rfl (by intro xs hxs; simp at hxs; rcases hxs with rfl | rfl <;> rfl) rfl).ext (by (repeat (with_reducible (first | exact Ext.refl _ | assumption | exact held_left (by assumption) | apply Ext.drewN | apply Ext.drew | apply Ext.alloc | (refine Ext.setCell ?_ (by first | (simp; done) | (simp; omega) | omega) _) | (refine Ext.trans ?_ (by assumption)) | (refine Ext.trans ?_ (held_left (by assumption)))))))⟩
  have hS2 := Sl.new (((w1.alloc (.cells #[.int .u32 2, .int .u32 1, .int .u32 1, .int .u32 1] 54)).alloc (.cells #[.int .u8 7, .int .u32 0, .int .u32 0, .int .u8 0, .slice none 0 0, .slice none 0 0, .slice (some ⟨w1.heap.size, 0, none⟩) 2 2, .int .u8 0] 76))) #[.int .u32 1, .int .u32 1, .int .u32 2, .int .u32 1] 54 2 2 2 (([⟨1, 1⟩, ⟨2, 1⟩] : List Rf).map Rf.cells) rfl (by intro xs hxs; simp at hxs; rcases hxs with rfl | rfl <;> rfl) rfl
  rw [World.size_alloc, World.size_alloc] at hS2
  have HAT2 : Hid (EL.at 5 K.pc (((((w1.alloc (.cells #[.int .u32 2, .int .u32 1, .int .u32 1, .int .u32 1] 54)).alloc (.cells #[.int .u8 7, .int .u32 0, .int .u32 0, .int .u8 0, .slice none 0 0, .slice none 0 0, .slice (some ⟨w1.heap.size, 0, none⟩) 2 2, .int .u8 0] 76)).alloc (.cells #[.int .u32 1, .int .u32 1, .int .u32 2, .int .u32 1] 54)).alloc (.cells #[.int .u8 7, .int .u32 0, .int .u32 0, .int .u8 0, .slice none 0 0, .slice none 0 0, .slice (some ⟨w1.heap.size + 1 + 1, 0, none⟩) 2 2, .int .u8 0] 76))) ⟨(⟨7, 0, 0, 0, [], [], [⟨1, 1⟩, ⟨2, 1⟩], 0⟩ : Ev), none, 0, none, 0, some ⟨w1.heap.size + 1 + 1, 0, none⟩, 2⟩) := Hid.mk' ⟨nilRowP _, nilRowP _, hS2.ext (by (repeat (with_reducible (first | exact Ext.refl _ | assumption | exact held_left (by assumption) | apply Ext.drewN | apply Ext.drew | apply Ext.alloc | (refine Ext.setCell ?_ (by first | (simp; done) | (simp; omega) | omega) _) | (refine Ext.trans ?_ (by assumption)) | (refine Ext.trans ?_ (held_left (by assumption)))))))⟩
  have HR1 : Hid (∀ W, Ext (((((w1.alloc (.cells #[.int .u32 2, .int .u32 1, .int .u32 1, .int .u32 1] 54)).alloc (.cells #[.int .u8 7, .int .u32 0, .int .u32 0, .int .u8 0, .slice none 0 0, .slice none 0 0, .slice (some ⟨w1.heap.size, 0, none⟩) 2 2, .int .u8 0] 76)).alloc (.cells #[.int .u32 1, .int .u32 1, .int .u32 2, .int .u32 1] 54)).alloc (.cells #[.int .u8 7, .int .u32 0, .int .u32 0, .int .u8 0, .slice none 0 0, .slice none 0 0, .slice (some ⟨w1.heap.size + 1 + 1, 0, none⟩) 2 2, .int .u8 0] 76))) W → Calls Tryz.prog 23 #[.agg #[.int .u8 7, .int .u32 0, .int .u32 0, .int .u8 0, .slice none 0 0, .slice none 0 0, .slice (some ⟨w1.heap.size, 0, none⟩) 2 2, .int .u8 0], .pointer (some ⟨w.heap.size + 1 + 1 + 1 + 1, 0, none⟩)] W fun e w' => e = .returned (.int .i64 15) ∧ Ext W w') := Hid.mk' (fun W h => by have h1 := eright_any _ _ _ c qs W (HAT1.out.ext h) (aw13_small (by decide)) (aw13_wk _) (HCD.out.ext h); rw [HQ.out, aw13_e1] at h1; exact h1)
  have HR2 : Hid (∀ W, Ext (((((w1.alloc (.cells #[.int .u32 2, .int .u32 1, .int .u32 1, .int .u32 1] 54)).alloc (.cells #[.int .u8 7, .int .u32 0, .int .u32 0, .int .u8 0, .slice none 0 0, .slice none 0 0, .slice (some ⟨w1.heap.size, 0, none⟩) 2 2, .int .u8 0] 76)).alloc (.cells #[.int .u32 1, .int .u32 1, .int .u32 2, .int .u32 1] 54)).alloc (.cells #[.int .u8 7, .int .u32 0, .int .u32 0, .int .u8 0, .slice none 0 0, .slice none 0 0, .slice (some ⟨w1.heap.size + 1 + 1, 0, none⟩) 2 2, .int .u8 0] 76))) W → Calls Tryz.prog 23 #[.agg #[.int .u8 7, .int .u32 0, .int .u32 0, .int .u8 0, .slice none 0 0, .slice none 0 0, .slice (some ⟨w1.heap.size + 1 + 1, 0, none⟩) 2 2, .int .u8 0], .pointer (some ⟨w.heap.size + 1 + 1 + 1 + 1, 0, none⟩)] W fun e w' => e = .returned (.int .i64 0) ∧ Ext W w') := Hid.mk' (fun W h => by have h1 := eright_any _ _ _ c qs W (HAT2.out.ext h) (aw13_small (by decide)) (aw13_wk _) (HCD.out.ext h); rw [HQ.out, aw13_e2] at h1; exact h1)
  have HU2 : Hid (∀ W, Ext (((((w1.alloc (.cells #[.int .u32 2, .int .u32 1, .int .u32 1, .int .u32 1] 54)).alloc (.cells #[.int .u8 7, .int .u32 0, .int .u32 0, .int .u8 0, .slice none 0 0, .slice none 0 0, .slice (some ⟨w1.heap.size, 0, none⟩) 2 2, .int .u8 0] 76)).alloc (.cells #[.int .u32 1, .int .u32 1, .int .u32 2, .int .u32 1] 54)).alloc (.cells #[.int .u8 7, .int .u32 0, .int .u32 0, .int .u8 0, .slice none 0 0, .slice none 0 0, .slice (some ⟨w1.heap.size + 1 + 1, 0, none⟩) 2 2, .int .u8 0] 76))) W → Calls Tryz.prog 28 #[.agg #[.int .u8 7, .int .u32 0, .int .u32 0, .int .u8 0, .slice none 0 0, .slice none 0 0, .slice (some ⟨w1.heap.size + 1 + 1, 0, none⟩) 2 2, .int .u8 0]] W fun e w' => ∃ (a' : Option Addr) (c' : Nat), e = .returned (.slice a' 2 c') ∧ Ext W w') := Hid.mk' (fun W h => (euses_any _ W (HAT2.out.ext h) (aw13_small (by decide))).mono (fun e w' hq => by
    obtain ⟨a', n, c', h1, h2, -, h4⟩ := hq
    have h3 : n = 2 := h2
    exact ⟨a', c', by rw [h1, h3], h4⟩))
  have hBA : Blk (((((w1.alloc (.cells #[.int .u32 2, .int .u32 1, .int .u32 1, .int .u32 1] 54)).alloc (.cells #[.int .u8 7, .int .u32 0, .int .u32 0, .int .u8 0, .slice none 0 0, .slice none 0 0, .slice (some ⟨w1.heap.size, 0, none⟩) 2 2, .int .u8 0] 76)).alloc (.cells #[.int .u32 1, .int .u32 1, .int .u32 2, .int .u32 1] 54)).alloc (.cells #[.int .u8 7, .int .u32 0, .int .u32 0, .int .u8 0, .slice none 0 0, .slice none 0 0, .slice (some ⟨w1.heap.size + 1 + 1, 0, none⟩) 2 2, .int .u8 0] 76))) (w1.heap.size + 1) #[.int .u8 7, .int .u32 0, .int .u32 0, .int .u8 0, .slice none 0 0, .slice none 0 0, .slice (some ⟨w1.heap.size, 0, none⟩) 2 2, .int .u8 0] 76 := ((Blk.new' (w := (w1.alloc (.cells #[.int .u32 2, .int .u32 1, .int .u32 1, .int .u32 1] 54))) _ _ (by simp)).alloc _).alloc _
  have hBB : Blk (((((w1.alloc (.cells #[.int .u32 2, .int .u32 1, .int .u32 1, .int .u32 1] 54)).alloc (.cells #[.int .u8 7, .int .u32 0, .int .u32 0, .int .u8 0, .slice none 0 0, .slice none 0 0, .slice (some ⟨w1.heap.size, 0, none⟩) 2 2, .int .u8 0] 76)).alloc (.cells #[.int .u32 1, .int .u32 1, .int .u32 2, .int .u32 1] 54)).alloc (.cells #[.int .u8 7, .int .u32 0, .int .u32 0, .int .u8 0, .slice none 0 0, .slice none 0 0, .slice (some ⟨w1.heap.size + 1 + 1, 0, none⟩) 2 2, .int .u8 0] 76))) (w1.heap.size + 1 + 1 + 1) #[.int .u8 7, .int .u32 0, .int .u32 0, .int .u8 0, .slice none 0 0, .slice none 0 0, .slice (some ⟨w1.heap.size + 1 + 1, 0, none⟩) 2 2, .int .u8 0] 76 := Blk.new' (w := (((w1.alloc (.cells #[.int .u32 2, .int .u32 1, .int .u32 1, .int .u32 1] 54)).alloc (.cells #[.int .u8 7, .int .u32 0, .int .u32 0, .int .u8 0, .slice none 0 0, .slice none 0 0, .slice (some ⟨w1.heap.size, 0, none⟩) 2 2, .int .u8 0] 76)).alloc (.cells #[.int .u32 1, .int .u32 1, .int .u32 2, .int .u32 1] 54))) _ _ (by simp)
  have HEW : Hid (Ext w (((((w1.alloc (.cells #[.int .u32 2, .int .u32 1, .int .u32 1, .int .u32 1] 54)).alloc (.cells #[.int .u8 7, .int .u32 0, .int .u32 0, .int .u8 0, .slice none 0 0, .slice none 0 0, .slice (some ⟨w1.heap.size, 0, none⟩) 2 2, .int .u8 0] 76)).alloc (.cells #[.int .u32 1, .int .u32 1, .int .u32 2, .int .u32 1] 54)).alloc (.cells #[.int .u8 7, .int .u32 0, .int .u32 0, .int .u8 0, .slice none 0 0, .slice none 0 0, .slice (some ⟨w1.heap.size + 1 + 1, 0, none⟩) 2 2, .int .u8 0] 76)))) := Hid.mk' (HB1.out.trans (by (repeat (with_reducible (first | exact Ext.refl _ | assumption | exact held_left (by assumption) | apply Ext.drewN | apply Ext.drew | apply Ext.alloc | (refine Ext.setCell ?_ (by first | (simp; done) | (simp; omega) | omega) _) | (refine Ext.trans ?_ (by assumption)) | (refine Ext.trans ?_ (held_left (by assumption))))))))
  clear hS2 HCD HAT1 HAT2 HQ HC HOF HCI hb3 hc3 hf3 hz3
  obtain ⟨w4, hw4⟩ : ∃ w4, w4 = ((((w1.alloc (.cells #[.int .u32 2, .int .u32 1, .int .u32 1, .int .u32 1] 54)).alloc (.cells #[.int .u8 7, .int .u32 0, .int .u32 0, .int .u8 0, .slice none 0 0, .slice none 0 0, .slice (some ⟨w1.heap.size, 0, none⟩) 2 2, .int .u8 0] 76)).alloc (.cells #[.int .u32 1, .int .u32 1, .int .u32 2, .int .u32 1] 54)).alloc (.cells #[.int .u8 7, .int .u32 0, .int .u32 0, .int .u8 0, .slice none 0 0, .slice none 0 0, .slice (some ⟨w1.heap.size + 1 + 1, 0, none⟩) 2 2, .int .u8 0] 76)) := ⟨_, rfl⟩
  rw [← hw4] at hBA hBB HEW HR1 HR2 HU2 ⊢
  have HBA := Hid.mk' hBA
  have HBB := Hid.mk' hBB
  clear hBA hBB hw4 z0 z1 z2
  have ga := HBA.out.cell
  have za := HBA.out.lt
  have gb := HBB.out.cell
  have zb := HBB.out.lt
  go_wp2_with (first
    | (go_at_call_of 23 (Value.agg #[.int .u8 7, .int .u32 0, .int .u32 0, .int .u8 0, .slice none 0 0, .slice none 0 0, .slice (some ⟨w1.heap.size, 0, none⟩) 2 2, .int .u8 0]); (with_reducible refine (HR1.out _ (Ext.refl _)).mono ?_); rintro e w5 ⟨rfl, hb5⟩; have HB5 := Hid.mk' hb5; clear hb5; have gb5 := (HBB.out.ext HB5.out).cell; have zb5 := (HBB.out.ext HB5.out).lt)
    | (go_at_call 23; refine (HR2.out _ HB5.out).mono ?_; rintro e w6 ⟨rfl, hb6⟩; have HB6 := Hid.mk' (HB5.out.trans hb6); clear hb6; have gb6 := (HBB.out.ext HB6.out).cell; have zb6 := (HBB.out.ext HB6.out).lt)
    | (go_at_call 28; refine (HU2.out _ HB6.out).mono ?_; rintro e w7 ⟨a', c', rfl, hb7⟩; have HB7 := Hid.mk' (HB6.out.trans hb7); clear hb7))
  go_ret
  exact ⟨rfl, HEW.out.trans HB7.out⟩

end Go.Proofs.YthdjinicmnhgpaaGreat


/-
The walk of EventUsed.
-/
namespace Go.Proofs.YthdjinicmnhgpaaGreat
open Go.RowKit

theorem Tryz.infoTxD : (Tryz.prog.info? 46).map (fun i => (i.zero, i.size, i.bytes)) = some (some (.agg #[.int .u32 0, .int .u64 0, .slice none 0 0]), 3, 40) := by kernel_rfl
/-- One is in a list. -/
noncomputable def inB (l : List Rf) (r : Rf) : Bool := @decide (r ∈ l) (Classical.propDecidable _)
theorem inB_true {l : List Rf} {r : Rf} : inB l r = true ↔ r ∈ l := by unfold inB; simp
theorem inB_false {l : List Rf} {r : Rf} : inB l r = false ↔ ¬ r ∈ l := by unfold inB; simp
theorem inB_snoc {l : List Rf} {x r : Rf} : inB (l ++ [x]) r = (inB l r || rfB x r) := by
  rw [Bool.eq_iff_iff, inB_true, Bool.or_eq_true, inB_true, rfB_true, List.mem_append, List.mem_singleton]
  constructor
  · rintro (h | h)
    · exact .inl h
    · exact .inr h.symm
  · rintro (h | h)
    · exact .inl h
    · exact .inr h.symm
theorem TL.one (l : List TL) : ∀ u ∈ (l.map TL.vals).flatten, u.oneCell' = true := by
  intro u hu
  rw [List.mem_flatten] at hu
  obtain ⟨xs, hxs, hu⟩ := hu
  rw [List.mem_map] at hxs
  obtain ⟨p, _, rfl⟩ := hxs
  simp [TL.vals] at hu
  rcases hu with rfl | rfl | rfl <;> rfl
theorem OwnT.app {w w' : World} {N N2 : Nat} {xa xb : List Tx} {v1 v2 v' : Value} {qa qb : List TL} (hA : OwnT w N xa v1 qa) (hB : OwnT w N2 xb v2 qb) (hN : ∀ b, v1.ownBlock = some b → b < N2)
    (hg : w.grownBy w' v1.ownBlock) (ho : w'.ownsRow N 40 3 v' (qa.length + qb.length) ((qa.map TL.vals).flatten ++ (qb.map TL.vals).flatten)) : TS 5 K.pc w' v' (qa ++ qb) := by
  refine ⟨Sl.of_owns (base := N) (e := 40) (by rw [List.length_map, List.length_append, List.map_append, List.flatten_append]; exact ho) (TL.len _), fun x hx => ?_⟩
  rcases List.mem_append.1 hx with hx | hx
  · exact (hA.sl x hx).kp (Kp.of_grown hg) ((hA.ne x hx).mono (fun b hb => hb.2))
  · exact (hB.sl x hx).kp (Kp.of_grown hg) ((hB.ne x hx).mono (fun b hb e => by have := hN b e; omega))
theorem Lit.ok {ps : List RR} {ts : List TL} (h : Lit ps ts) : ts.length ≤ 1000 ∧ (∀ t ∈ ts, t.es.length ≤ 1000) ∧ (∀ t ∈ ts, ∀ e ∈ t.es, e.e.small) ∧ ∀ t ∈ ts, ∀ e ∈ t.es, e.e.rs.length ≤ 1000 := by
  refine ⟨by have := h.t; omega, fun t ht => ?_, fun t ht e he => ?_, fun t ht e he => by have := (h.e t ht e he).r; omega⟩
  · obtain ⟨i, hi, rfl⟩ := List.getElem_of_mem ht
    have h1 := manyT_succ hi
    have h2 := manyT_le ts (i + 1)
    have h3 := h.es
    omega
  · have h1 := h.e t ht e he
    exact ⟨by have := h1.b; omega, by have := h1.a; omega, by have := h1.r; omega⟩

theorem usedL_le {ts : List TL} (h0 : ts.length ≤ 1000) (h1 : ∀ t ∈ ts, t.es.length ≤ 1000) (h2 : ∀ t ∈ ts, ∀ e ∈ t.es, e.e.rs.length ≤ 1000) : (usedL (ts.map TL.t)).length ≤ 1000000000 := by
  have h := usesTs_len (M := 1000) (L := 1000) (by decide) (ts := ts.map TL.t) (fun t ht => by
    obtain ⟨x, hx, rfl⟩ := List.mem_map.1 ht
    refine ⟨by show (x.es.map EL.e).length ≤ 1000; rw [List.length_map]; exact h1 x hx, fun e he => ?_⟩
    obtain ⟨y, hy, rfl⟩ := List.mem_map.1 he
    exact h2 x hx y hy)
  have h3 := putL_len (usesTs (ts.map TL.t)) []
  rw [List.length_map] at h
  simp only [List.length_nil] at h3
  unfold usedL
  omega
theorem OwnT.sm {W : World} {N : Nat} {v : Value} {ts qs : List TL} (ho : OwnT W N (ts.map TL.t) v qs) (h1 : ∀ t ∈ ts, t.es.length ≤ 1000) (h2 : ∀ t ∈ ts, ∀ e ∈ t.es, e.e.small) : (∀ t ∈ qs, t.es.length ≤ 1000) ∧ ∀ t ∈ qs, ∀ e ∈ t.es, e.e.small := by
  have h3 : ∀ t ∈ qs, ∃ t2 ∈ ts, t2.es.map EL.e = t.es.map EL.e := fun t ht => by
    have h4 : t.t ∈ ts.map TL.t := by rw [← ho.t]; exact List.mem_map_of_mem ht
    obtain ⟨t2, h5, h6⟩ := List.mem_map.1 h4
    exact ⟨t2, h5, congrArg Tx.es h6⟩
  refine ⟨fun t ht => ?_, fun t ht e he => ?_⟩
  · obtain ⟨t2, h5, h6⟩ := h3 t ht
    have := congrArg List.length h6
    rw [List.length_map, List.length_map] at this
    have := h1 t2 h5
    omega
  · obtain ⟨t2, h5, h6⟩ := h3 t ht
    have h7 : e.e ∈ t2.es.map EL.e := by rw [h6]; exact List.mem_map_of_mem he
    obtain ⟨e2, h8, h9⟩ := List.mem_map.1 h7
    rw [← h9]; exact h2 t2 h5 e2 h8
theorem usedo_any {W0 W : World} {N : Nat} {ts qs : List TL} {a' : Option Addr} {c' : Nat} (ho : OwnT W0 N (ts.map TL.t) (.slice a' ts.length c') qs) (h0 : ts.length ≤ 1000) (h1 : ∀ t ∈ ts, t.es.length ≤ 1000) (h2 : ∀ t ∈ ts, ∀ e ∈ t.es, e.e.small) (h : Ext W0 W) :
    Calls Tryz.prog 13 #[.slice a' ts.length c'] W (fun e w' => ∃ a2 n2 c2, e = .returned (.slice a2 n2 c2) ∧ n2 = (usedL (ts.map TL.t)).length ∧ Sl w' (.slice a2 n2 c2) 2 ((usedL (ts.map TL.t)).map Rf.cells) ∧ (∀ b o, a2 = some ⟨b, o, none⟩ → W.heap.size ≤ b) ∧ Ext W w') := by
  have hl : qs.length = ts.length := by rw [ho.len, List.length_map]
  have h3 := ho.sm h1 h2
  have h4 := used_any qs a' c' W (by rw [hl]; exact (ho.ext h).ts) (by rw [hl]; exact h0) h3.1 h3.2
  rw [hl, ho.t] at h4
  exact h4
/-- Two rows of the call's own, one behind the other: what they use. -/
theorem used2_any {W : World} {la lb qa qb : List TL} {a' : Option Addr} {c' n : Nat} (ht : TS 5 K.pc W (.slice a' n c') (qa ++ qb)) (ha : qa.map TL.t = la.map TL.t) (hb : qb.map TL.t = lb.map TL.t) (hn : n = la.length + lb.length) (hsz : la.length + lb.length ≤ 1000)
    (h1 : (∀ t ∈ qa, t.es.length ≤ 1000) ∧ ∀ t ∈ qa, ∀ e ∈ t.es, e.e.small) (h2 : (∀ t ∈ qb, t.es.length ≤ 1000) ∧ ∀ t ∈ qb, ∀ e ∈ t.es, e.e.small) :
    Calls Tryz.prog 13 #[.slice a' n c'] W (fun e w' => ∃ a2 n2 c2, e = .returned (.slice a2 n2 c2) ∧ n2 = (usedL (la.map TL.t ++ lb.map TL.t)).length ∧ Sl w' (.slice a2 n2 c2) 2 ((usedL (la.map TL.t ++ lb.map TL.t)).map Rf.cells) ∧ Ext W w') := by
  have e1 : qa.length = la.length := by have := congrArg List.length ha; simpa using this
  have e2 : qb.length = lb.length := by have := congrArg List.length hb; simpa using this
  have e3 : n = (qa ++ qb).length := by rw [List.length_append]; omega
  subst e3
  have h := used_any (qa ++ qb) a' c' W ht (by rw [List.length_append]; omega) (fun t ht => (List.mem_append.1 ht).elim (h1.1 t) (h2.1 t)) (fun t ht => (List.mem_append.1 ht).elim (h1.2 t) (h2.2 t))
  rw [List.map_append, ha, hb] at h
  exact h.mono fun e w' ⟨a2, n2, c2, p1, p2, p3, _, p5⟩ => ⟨a2, n2, c2, p1, p2, p3, p5⟩

end Go.Proofs.YthdjinicmnhgpaaGreat
