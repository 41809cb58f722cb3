/-
What is wrong with an event: the reference's Right.
-/
import Derived.Test.YthdjinicmnhgpaaP14
namespace Go.Proofs.Ythdjinicmnhgpaa
open Go.RowKit

theorem own_trunc {e : Ev} (hk : rowedB e.kind = false) : ownB e = true ↔ (rfB ⟨e.ao, e.av⟩ ⟨0, 0⟩ = true ∧ e.old = 0 ∧ e.b = [] ∧ e.a = []) := by
  unfold ownB Ev.only
  rw [if_neg (by rw [hk]; simp), evB_true, rfB_true]
  obtain ⟨k, ao, av, old, b, a, rs, fl⟩ := e
  simp only [Ev.mk.injEq, Rf.mk.injEq, true_and, and_true]
  constructor
  · rintro ⟨h1, h2, h3, h4, h5⟩; exact ⟨⟨h1, h2⟩, h3, h4, h5⟩
  · rintro ⟨⟨h1, h2⟩, h3, h4, h5⟩; exact ⟨h1, h2, h3, h4, h5⟩
theorem own_row {e : Ev} (hk : rowedB e.kind = true) : ownB e = true ↔ (e.rs = [] ∧ e.fl = 0) := by
  unfold ownB Ev.only
  rw [if_pos hk, evB_true]
  obtain ⟨k, ao, av, old, b, a, rs, fl⟩ := e
  simp only [Ev.mk.injEq, true_and]
theorem bool_ff {b : Bool} {p : Prop} (h : b = true ↔ p) (hn : ¬ p) : b = false := by
  cases b with
  | false => rfl
  | true => exact absurd (h.1 rfl) hn
theorem len_pos {α : Type} {l : List α} (h : 0 < l.length) : l ≠ [] := by rintro rfl; exact absurd h (by simp)

/-- The relations of the reference's catalog. -/
structure RCat (ps : List RR) : Prop where
  ok : CatOk (ps.map RR.r)
  wb : ∀ p ∈ ps, p.r.wb
theorem RCat.n16 {ps : List RR} (h : RCat ps) {p : RR} (hp : p ∈ ps) : p.r.cols.length ≤ 16 := Rl.cols_le (h.ok.right _ (List.mem_map_of_mem hp))

set_option maxRecDepth 100000 in set_option maxHeartbeats 4000000 in
theorem reright_any (x : EL) (ps : List RR) (a : Option Addr) (cap : Nat) (w : World) (hx : x.at 6 K.rc w) (hs : x.e.small) (hwk : x.e.wk) (hl : RL w (.slice a ps.length cap) ps) (hc : RCat ps) :
    Calls Try.prog 38 #[x.agg, .slice a ps.length cap] w fun e w' => e = .returned (.int .i64 (evE x.e (ps.map RR.r))) ∧ Ext w w' := by
  have HL := Hid.mk' hx.r
  have hn := hs.r
  have hpl : ps.length ≤ 1000 := by have := hc.ok.n64; rw [List.length_map] at this; omega
  have HG := Hid.mk' (fun o v W (h : Ext w W) => rget_any ps a cap o v W (hl.ext h) hpl)
  have HIM := Hid.mk' (fun (p : RR) (hp : p ∈ ps) W (h : Ext w W) =>
    (show Calls Try.prog 67 #[p.agg, .int .u8 x.e.kind, .int .u8 x.e.old, .slice x.ba x.e.b.length x.bc, .slice x.aa x.e.a.length x.ac] W (fun e w' => e = .returned (.int .i64 (imgE p.r x.e.kind x.e.old x.e.b x.e.a)) ∧ Ext W w') from
      rimage_any x.e.kind x.e.old x.e.b x.e.a x.ba x.aa x.bc x.ac p.r.oid p.r.ver p.r.nm p.r.id p.r.cols p.a p.c W ((hl.ext h).sl p hp) (by have := hc.n16 hp; omega) (hx.b.ext h) (hx.a.ext h) hs.b hs.a hwk.b hwk.a (hc.wb p hp).cs (hc.wb p hp).nm (hc.wb p hp).idn hwk.old))
  clear hx hs hwk hc hl
  obtain ⟨⟨k1, ao1, av1, old1, b1, a1, r1, fl1⟩, ba1, bc1, aa1, ac1, ra1, rc1⟩ := x
  unfold EL.agg
  simp only at HL hn HIM ⊢
  by_cases h0 : k1 < 4
  · have HR := Hid.mk' (show evE (⟨k1, ao1, av1, old1, b1, a1, r1, fl1⟩ : Ev) (ps.map RR.r) = 7 from if_pos (.inl h0))
    go_enter Try.func38, Try.ntmps38
    go_wp2
    go_ret
    exact ⟨ret_int HR.out.symm, by (repeat (with_reducible (first | exact Ext.refl _ | assumption | exact held_left (by assumption) | apply Ext.drewN | apply Ext.drew | apply Ext.alloc | (refine Ext.setCell ?_ (by first | (simp; done) | (simp; omega) | omega) _) | (refine Ext.trans ?_ (by assumption)) | (refine Ext.trans ?_ (held_left (by assumption))))))⟩
  by_cases h1 : 7 < k1
  · have HR := Hid.mk' (show evE (⟨k1, ao1, av1, old1, b1, a1, r1, fl1⟩ : Ev) (ps.map RR.r) = 7 from if_pos (.inr h1))
    go_enter Try.func38, Try.ntmps38
    go_wp2
    go_ret
    exact ⟨ret_int HR.out.symm, by (repeat (with_reducible (first | exact Ext.refl _ | assumption | exact held_left (by assumption) | apply Ext.drewN | apply Ext.drew | apply Ext.alloc | (refine Ext.setCell ?_ (by first | (simp; done) | (simp; omega) | omega) _) | (refine Ext.trans ?_ (by assumption)) | (refine Ext.trans ?_ (held_left (by assumption))))))⟩
  have HR0 := Hid.mk' (show evE (⟨k1, ao1, av1, old1, b1, a1, r1, fl1⟩ : Ev) (ps.map RR.r) = _ from if_neg (by simp only; omega))
  simp only at HR0
  by_cases h7 : k1 = 7
  · subst h7
    have hrow : rowedB 7 = false := rfl
    have hown := own_trunc (e := ⟨7, ao1, av1, old1, b1, a1, r1, fl1⟩) hrow
    simp only at hown
    cases hq : rfB ⟨ao1, av1⟩ ⟨0, 0⟩ with
    | false =>
      have HR := Hid.mk' (show evE ⟨7, ao1, av1, old1, b1, a1, r1, fl1⟩ (ps.map RR.r) = 3 from by rw [HR0.out, if_pos (bool_ff hown (fun h => by rw [h.1] at hq; cases hq))])
      have hQ := fun w => neq_rref ao1 av1 0 0 w
      rw [hq] at hQ
      clear hq hown HR0 hrow
      go_enter Try.func38, Try.ntmps38
      go_wp2
      go_ret
      exact ⟨ret_int HR.out.symm, by (repeat (with_reducible (first | exact Ext.refl _ | assumption | exact held_left (by assumption) | apply Ext.drewN | apply Ext.drew | apply Ext.alloc | (refine Ext.setCell ?_ (by first | (simp; done) | (simp; omega) | omega) _) | (refine Ext.trans ?_ (by assumption)) | (refine Ext.trans ?_ (held_left (by assumption))))))⟩
    | true =>
    have hQ := fun w => neq_rref ao1 av1 0 0 w
    rw [hq] at hQ
    by_cases ho : old1 = 0
    case neg =>
      have HR := Hid.mk' (show evE ⟨7, ao1, av1, old1, b1, a1, r1, fl1⟩ (ps.map RR.r) = 3 from by rw [HR0.out, if_pos (bool_ff hown (fun h => ho h.2.1))])
      have ho' : (old1 != 0) = true := by simpa using ho
      clear hq hown HR0 hrow ho
      go_enter Try.func38, Try.ntmps38
      go_wp2
      go_ret
      exact ⟨ret_int HR.out.symm, by (repeat (with_reducible (first | exact Ext.refl _ | assumption | exact held_left (by assumption) | apply Ext.drewN | apply Ext.drew | apply Ext.alloc | (refine Ext.setCell ?_ (by first | (simp; done) | (simp; omega) | omega) _) | (refine Ext.trans ?_ (by assumption)) | (refine Ext.trans ?_ (held_left (by assumption))))))⟩
    subst ho
    by_cases hb : 0 < b1.length
    · have HR := Hid.mk' (show evE ⟨7, ao1, av1, 0, b1, a1, r1, fl1⟩ (ps.map RR.r) = 3 from by rw [HR0.out, if_pos (bool_ff hown (fun h => len_pos hb h.2.2.1))])
      clear hq hown HR0 hrow
      go_enter Try.func38, Try.ntmps38
      go_wp2
      go_ret
      exact ⟨ret_int HR.out.symm, by (repeat (with_reducible (first | exact Ext.refl _ | assumption | exact held_left (by assumption) | apply Ext.drewN | apply Ext.drew | apply Ext.alloc | (refine Ext.setCell ?_ (by first | (simp; done) | (simp; omega) | omega) _) | (refine Ext.trans ?_ (by assumption)) | (refine Ext.trans ?_ (held_left (by assumption))))))⟩
    obtain rfl : b1 = [] := List.length_eq_zero_iff.1 (by omega)
    by_cases ha : 0 < a1.length
    · have HR := Hid.mk' (show evE ⟨7, ao1, av1, 0, [], a1, r1, fl1⟩ (ps.map RR.r) = 3 from by rw [HR0.out, if_pos (bool_ff hown (fun h => len_pos ha h.2.2.2))])
      clear hq hown HR0 hrow hb
      go_enter Try.func38, Try.ntmps38
      go_wp2
      go_ret
      exact ⟨ret_int HR.out.symm, by (repeat (with_reducible (first | exact Ext.refl _ | assumption | exact held_left (by assumption) | apply Ext.drewN | apply Ext.drew | apply Ext.alloc | (refine Ext.setCell ?_ (by first | (simp; done) | (simp; omega) | omega) _) | (refine Ext.trans ?_ (by assumption)) | (refine Ext.trans ?_ (held_left (by assumption))))))⟩
    obtain rfl : a1 = [] := List.length_eq_zero_iff.1 (by omega)
    have HRT := Hid.mk' (show evE ⟨7, ao1, av1, 0, [], [], r1, fl1⟩ (ps.map RR.r) = truncE ⟨7, ao1, av1, 0, [], [], r1, fl1⟩ (ps.map RR.r) from by
      rw [HR0.out, if_neg (by rw [hown.2 ⟨hq, rfl, rfl, rfl⟩]; simp), if_pos rfl])
    clear hq hown HR0 hrow hb ha
    generalize evE ⟨7, ao1, av1, 0, [], [], r1, fl1⟩ (ps.map RR.r) = R at HRT ⊢
    by_cases hz : r1.length = 0
    · have HR := Hid.mk' (show R = 17 from by rw [HRT.out]; exact if_pos (.inl (by simp only; omega)))
      obtain rfl : r1 = [] := List.length_eq_zero_iff.1 hz
      clear HRT
      go_enter Try.func38, Try.ntmps38
      go_wp2
      go_ret
      exact ⟨ret_int HR.out.symm, by (repeat (with_reducible (first | exact Ext.refl _ | assumption | exact held_left (by assumption) | apply Ext.drewN | apply Ext.drew | apply Ext.alloc | (refine Ext.setCell ?_ (by first | (simp; done) | (simp; omega) | omega) _) | (refine Ext.trans ?_ (by assumption)) | (refine Ext.trans ?_ (held_left (by assumption))))))⟩
    have hz' : (((r1.length : Nat) : Int) == 0) = false := by simp; intro e; exact hz (by rw [e]; rfl)
    have HLP := Hid.mk' (show 0 < r1.length by omega)
    clear hz
    by_cases h8 : 8 < r1.length
    · have HR := Hid.mk' (show R = 17 from by rw [HRT.out]; exact if_pos (.inr h8))
      clear HRT
      go_enter Try.func38, Try.ntmps38
      go_wp2
      go_ret
      exact ⟨ret_int HR.out.symm, by (repeat (with_reducible (first | exact Ext.refl _ | assumption | exact held_left (by assumption) | apply Ext.drewN | apply Ext.drew | apply Ext.alloc | (refine Ext.setCell ?_ (by first | (simp; done) | (simp; omega) | omega) _) | (refine Ext.trans ?_ (by assumption)) | (refine Ext.trans ?_ (held_left (by assumption))))))⟩
    have HRR := Hid.mk' (show R = if risB r1 = false then 15 else if hasAll r1 (ps.map RR.r) = false then 10 else if 3 < fl1 then 4 else 0 from by rw [HRT.out]; exact if_neg (by have := HLP.out; simp only; omega))
    clear HRT
    go_enter Try.func38, Try.ntmps38
    go_wp2
    go_loopw [5] (fun i wr => ∃ k : Nat, k + 1 ≤ r1.length ∧ i = .int .i64 ((k : Int) + 1) ∧ Hid (∀ j (h : j + 1 < r1.length), j < k → aheadB r1[j].o r1[j].v r1[j + 1].o r1[j + 1].v = true) ∧ Hid (Blk wr w.heap.size #[.int .u8 7, .int .u32 ao1, .int .u32 av1, .int .u8 0, .slice ba1 0 bc1, .slice aa1 0 ac1, .slice ra1 r1.length rc1, .int .u8 fl1] 73) ∧ Hid (Ext w wr)) (fun i _ => r1.length - (intOf i).toNat)
    case atStart => exact ⟨0, HLP.out, rfl, Hid.mk' (fun j _ h => by omega), Hid.mk' (Blk.new _ _ _), Hid.mk' (by (repeat (with_reducible (first | exact Ext.refl _ | assumption | exact held_left (by assumption) | apply Ext.drewN | apply Ext.drew | apply Ext.alloc | (refine Ext.setCell ?_ (by first | (simp; done) | (simp; omega) | omega) _) | (refine Ext.trans ?_ (by assumption)) | (refine Ext.trans ?_ (held_left (by assumption)))))))⟩
    case round =>
      obtain ⟨k, hk, rfl, hrel, hX, hE⟩ := hrel
      have gv := hX.out.cell
      have zv := hX.out.lt
      by_cases hlt : k + 1 < r1.length
      · have hlt0 : k < r1.length := by omega
        obtain ⟨o1, p1, rfl, hb1, hx1⟩ := HL.out.at_ (i := k) (by simpa using hlt0)
        obtain ⟨f0, f1⟩ := Rf.at_ hlt0 hx1 hb1 hE.out
        obtain ⟨o2, p2, he2, hb2, hx2⟩ := HL.out.at_ (i := k + 1) (by simpa using hlt)
        simp only [Option.some.injEq, Addr.mk.injEq] at he2
        obtain ⟨rfl, rfl, -⟩ := he2
        obtain ⟨s0, s1⟩ := Rf.at_ hlt hx2 hb2 hE.out
        have hbw : o1 < wr.heap.size := Nat.lt_of_lt_of_le hb1 hE.out.size
        have HCP := Hid.mk' (fun W => rahead_any r1[k].o r1[k].v r1[k + 1].o r1[k + 1].v W)
        have q1 : IntKind.i64.wrap (k : Int) = (k : Int) := IntWalk.i64_in _ (by omega)
        have q2 : ((k : Int) + 1).toNat = k + 1 := by omega
        have i1 : (k : Int) < (r1.length : Int) := by omega
        have i2 : (k : Int) + 1 < (r1.length : Int) := by omega
        have i3 : (0 : Int) ≤ (k : Int) + 1 := by omega
        have i4 : (0 : Int) ≤ (k : Int) := by omega
        clear hx1 hx2
        cases hA : aheadB r1[k].o r1[k].v r1[k + 1].o r1[k + 1].v with
        | true =>
          have HA := Hid.mk' hA
          rw [hA] at HCP
          clear hA
          go_wp2
          go_region_held3 (fun w' => Ext (wr) w' ∧ (∀ b o, b < (wr).heap.size → w'.cell? ⟨b, o, none⟩ = (wr).cell? ⟨b, o, none⟩) ∧ (∀ b o, b < (wr).heap.size → w'.frozen? ⟨b, o, none⟩ = (wr).frozen? ⟨b, o, none⟩)) ((exact held_of (by (repeat (with_reducible (first | exact Ext.refl _ | assumption | exact held_left (by assumption) | apply Ext.drewN | apply Ext.drew | apply Ext.alloc | (refine Ext.setCell ?_ (by first | (simp; done) | (simp; omega) | omega) _) | (refine Ext.trans ?_ (by assumption)) | (refine Ext.trans ?_ (held_left (by assumption))))))))) ((go_at_call 56; refine (HCP.out _).mono ?_; rintro e w2 ⟨rfl, hb2⟩))
          clear q1 q2
          go_wp2
          go_roundw
          case rel => exact ⟨k + 1, by omega, by go_num, Hid.mk' (fun j h hj => by
            by_cases e : j = k
            · subst e; exact HA.out
            · exact hrel.out j h (by omega)), Hid.mk' (hX.out.ext (by (repeat (with_reducible (first | exact Ext.refl _ | assumption | exact held_left (by assumption) | apply Ext.drewN | apply Ext.drew | apply Ext.alloc | (refine Ext.setCell ?_ (by first | (simp; done) | (simp; omega) | omega) _) | (refine Ext.trans ?_ (by assumption)) | (refine Ext.trans ?_ (held_left (by assumption)))))))), Hid.mk' (hE.out.trans (by (repeat (with_reducible (first | exact Ext.refl _ | assumption | exact held_left (by assumption) | apply Ext.drewN | apply Ext.drew | apply Ext.alloc | (refine Ext.setCell ?_ (by first | (simp; done) | (simp; omega) | omega) _) | (refine Ext.trans ?_ (by assumption)) | (refine Ext.trans ?_ (held_left (by assumption))))))))⟩
          case measure => simp [intOf]; omega
        | false =>
          have HR := Hid.mk' (show R = 15 from by rw [HRR.out, if_pos (risB_no hlt hA)])
          rw [hA] at HCP
          clear hA
          go_wp2
          go_region_held3 (fun w' => Ext (wr) w' ∧ (∀ b o, b < (wr).heap.size → w'.cell? ⟨b, o, none⟩ = (wr).cell? ⟨b, o, none⟩) ∧ (∀ b o, b < (wr).heap.size → w'.frozen? ⟨b, o, none⟩ = (wr).frozen? ⟨b, o, none⟩)) ((exact held_of (by (repeat (with_reducible (first | exact Ext.refl _ | assumption | exact held_left (by assumption) | apply Ext.drewN | apply Ext.drew | apply Ext.alloc | (refine Ext.setCell ?_ (by first | (simp; done) | (simp; omega) | omega) _) | (refine Ext.trans ?_ (by assumption)) | (refine Ext.trans ?_ (held_left (by assumption))))))))) ((go_at_call 56; refine (HCP.out _).mono ?_; rintro e w2 ⟨rfl, hb2⟩))
          clear q1 q2
          go_wp2
          go_ret
          exact ⟨ret_int HR.out.symm, hE.out.trans (by (repeat (with_reducible (first | exact Ext.refl _ | assumption | exact held_left (by assumption) | apply Ext.drewN | apply Ext.drew | apply Ext.alloc | (refine Ext.setCell ?_ (by first | (simp; done) | (simp; omega) | omega) _) | (refine Ext.trans ?_ (by assumption)) | (refine Ext.trans ?_ (held_left (by assumption)))))))⟩
      · have HR1 := Hid.mk' (show R = if hasAll r1 (ps.map RR.r) = false then 10 else if 3 < fl1 then 4 else 0 from by rw [HRR.out, if_neg (by rw [risB_true.2 (fun i h => hrel.out i h (by omega))]; simp)])
        clear HRR hrel
        obtain ⟨wo, hwo⟩ : ∃ x, x = wr := ⟨_, rfl⟩
        subst hwo
        go_wp2
        go_loopw [6] (fun i wr => ∃ k : Nat, k ≤ r1.length ∧ i = .int .i64 k ∧ Hid (∀ j (h : j < r1.length), j < k → hasR r1[j].o r1[j].v (ps.map RR.r) = true) ∧ Hid (Ext wo wr)) (fun i _ => r1.length - (intOf i).toNat)
        case atStart => exact ⟨0, by omega, rfl, Hid.mk' (fun j _ h => by omega), Hid.mk' (by (repeat (with_reducible (first | exact Ext.refl _ | assumption | exact held_left (by assumption) | apply Ext.drewN | apply Ext.drew | apply Ext.alloc | (refine Ext.setCell ?_ (by first | (simp; done) | (simp; omega) | omega) _) | (refine Ext.trans ?_ (by assumption)) | (refine Ext.trans ?_ (held_left (by assumption)))))))⟩
        case round =>
          obtain ⟨m, hm, rfl, hrel, hF⟩ := hrel
          have gv2 := (hX.out.ext hF.out).cell
          have zv2 := (hX.out.ext hF.out).lt
          clear gv zv
          by_cases hlt2 : m < r1.length
          · obtain ⟨o1, p1, rfl, hb1, hx1⟩ := HL.out.at_ (i := m) (by simpa using hlt2)
            obtain ⟨f0, f1⟩ := Rf.at_ hlt2 hx1 hb1 (hE.out.trans hF.out)
            have hbw : o1 < wr.heap.size := Nat.lt_of_lt_of_le hb1 (hE.out.trans hF.out).size
            have HGT := Hid.mk' (fun W (h : Ext wr W) => HG.out r1[m].o r1[m].v W (hE.out.trans (hF.out.trans h)))
            rw [getP_is] at HGT
            obtain ⟨q, hq⟩ : ∃ q, q = (getP r1[m].o r1[m].v ps).getD RR.zero := ⟨_, rfl⟩
            rw [← hq] at HGT
            obtain ⟨⟨oid, ver, nm, id, cols⟩, qa, qc⟩ := q
            unfold RR.agg at HGT
            simp only at HGT
            clear hx1 hq
            cases hA : hasR r1[m].o r1[m].v (ps.map RR.r) with
            | true =>
              have HA := Hid.mk' hA
              rw [hA] at HGT
              clear hA
              go_wp2_with (go_at_call 27; refine (HGT.out _ (by (repeat (with_reducible (first | exact Ext.refl _ | assumption | exact held_left (by assumption) | apply Ext.drewN | apply Ext.drew | apply Ext.alloc | (refine Ext.setCell ?_ (by first | (simp; done) | (simp; omega) | omega) _) | (refine Ext.trans ?_ (by assumption)) | (refine Ext.trans ?_ (held_left (by assumption)))))))).mono ?_; rintro e w3 ⟨rfl, hb3⟩)
              go_roundw
              case rel => exact ⟨m + 1, by omega, by go_num, Hid.mk' (fun j h hj => by
                by_cases e : j = m
                · subst e; exact HA.out
                · exact hrel.out j h (by omega)), Hid.mk' (hF.out.trans (by (repeat (with_reducible (first | exact Ext.refl _ | assumption | exact held_left (by assumption) | apply Ext.drewN | apply Ext.drew | apply Ext.alloc | (refine Ext.setCell ?_ (by first | (simp; done) | (simp; omega) | omega) _) | (refine Ext.trans ?_ (by assumption)) | (refine Ext.trans ?_ (held_left (by assumption))))))))⟩
              case measure => simp [intOf]; omega
            | false =>
              have HR := Hid.mk' (show R = 10 from by rw [HR1.out, if_pos (hasAll_no hlt2 hA)])
              rw [hA] at HGT
              clear hA
              go_wp2_with (go_at_call 27; refine (HGT.out _ (by (repeat (with_reducible (first | exact Ext.refl _ | assumption | exact held_left (by assumption) | apply Ext.drewN | apply Ext.drew | apply Ext.alloc | (refine Ext.setCell ?_ (by first | (simp; done) | (simp; omega) | omega) _) | (refine Ext.trans ?_ (by assumption)) | (refine Ext.trans ?_ (held_left (by assumption)))))))).mono ?_; rintro e w3 ⟨rfl, hb3⟩)
              go_ret
              exact ⟨ret_int HR.out.symm, hE.out.trans (hF.out.trans (by (repeat (with_reducible (first | exact Ext.refl _ | assumption | exact held_left (by assumption) | apply Ext.drewN | apply Ext.drew | apply Ext.alloc | (refine Ext.setCell ?_ (by first | (simp; done) | (simp; omega) | omega) _) | (refine Ext.trans ?_ (by assumption)) | (refine Ext.trans ?_ (held_left (by assumption))))))))⟩
          · have HR2 := Hid.mk' (show R = if 3 < fl1 then 4 else 0 from by rw [HR1.out, if_neg (by rw [hasAll_yes (fun i h => hrel.out i h (by omega))]; simp)])
            clear HR1 hrel
            by_cases h3 : 3 < fl1
            · have HR := Hid.mk' (show R = 4 from by rw [HR2.out, if_pos h3])
              go_wp2
              go_ret
              exact ⟨ret_int HR.out.symm, hE.out.trans hF.out⟩
            · have HR := Hid.mk' (show R = 0 from by rw [HR2.out, if_neg h3])
              go_wp2
              go_ret
              exact ⟨ret_int HR.out.symm, hE.out.trans hF.out⟩
  · have hrow : rowedB k1 = true := decide_eq_true (by omega)
    have hown := own_row (e := (⟨k1, ao1, av1, old1, b1, a1, r1, fl1⟩ : Ev)) hrow
    simp only at hown
    have h7' : (k1 == 7) = false := by simpa using h7
    by_cases hb : 0 < r1.length
    · have HR := Hid.mk' (show evE (⟨k1, ao1, av1, old1, b1, a1, r1, fl1⟩ : Ev) (ps.map RR.r) = 3 from by rw [HR0.out, if_pos (bool_ff hown (fun h => len_pos hb h.1))])
      clear hown HR0 hrow h7
      go_enter Try.func38, Try.ntmps38
      go_wp2
      go_ret
      exact ⟨ret_int HR.out.symm, by (repeat (with_reducible (first | exact Ext.refl _ | assumption | exact held_left (by assumption) | apply Ext.drewN | apply Ext.drew | apply Ext.alloc | (refine Ext.setCell ?_ (by first | (simp; done) | (simp; omega) | omega) _) | (refine Ext.trans ?_ (by assumption)) | (refine Ext.trans ?_ (held_left (by assumption))))))⟩
    obtain rfl : r1 = [] := List.length_eq_zero_iff.1 (by omega)
    by_cases hf : fl1 = 0
    case neg =>
      have HR := Hid.mk' (show evE ⟨k1, ao1, av1, old1, b1, a1, [], fl1⟩ (ps.map RR.r) = 3 from by rw [HR0.out, if_pos (bool_ff hown (fun h => hf h.2))])
      have hf' : (fl1 != 0) = true := by simpa using hf
      clear hown HR0 hrow h7 hf hb
      go_enter Try.func38, Try.ntmps38
      go_wp2
      go_ret
      exact ⟨ret_int HR.out.symm, by (repeat (with_reducible (first | exact Ext.refl _ | assumption | exact held_left (by assumption) | apply Ext.drewN | apply Ext.drew | apply Ext.alloc | (refine Ext.setCell ?_ (by first | (simp; done) | (simp; omega) | omega) _) | (refine Ext.trans ?_ (by assumption)) | (refine Ext.trans ?_ (held_left (by assumption))))))⟩
    subst hf
    have HR1 := Hid.mk' (show evE ⟨k1, ao1, av1, old1, b1, a1, [], 0⟩ (ps.map RR.r) = _ from by rw [HR0.out, if_neg (by rw [hown.2 ⟨rfl, rfl⟩]; simp), if_neg h7])
    generalize evE ⟨k1, ao1, av1, old1, b1, a1, [], 0⟩ (ps.map RR.r) = R at HR1 ⊢
    clear hown HR0 hrow h7 hb
    have HGT := Hid.mk' (fun W (h : Ext w W) => HG.out ao1 av1 W h)
    rw [getP_is] at HGT
    cases hg : getP ao1 av1 ps with
    | none =>
      have hgr : getR ao1 av1 (ps.map RR.r) = none := by rw [← getP_map, hg]; rfl
      have hh := getR_none.1 hgr
      have HR := Hid.mk' (show R = 10 from by rw [HR1.out, hgr])
      rw [hg, hh] at HGT
      clear hg hgr hh HR1
      simp only [Option.getD_none] at HGT
      unfold RR.agg RR.zero at HGT
      go_enter Try.func38, Try.ntmps38
      go_wp2_with (go_at_call 27; refine (HGT.out _ (by (repeat (with_reducible (first | exact Ext.refl _ | assumption | exact held_left (by assumption) | apply Ext.drewN | apply Ext.drew | apply Ext.alloc | (refine Ext.setCell ?_ (by first | (simp; done) | (simp; omega) | omega) _) | (refine Ext.trans ?_ (by assumption)) | (refine Ext.trans ?_ (held_left (by assumption)))))))).mono ?_; rintro e w3 ⟨rfl, hb3⟩)
      go_ret
      exact ⟨ret_int HR.out.symm, by (repeat (with_reducible (first | exact Ext.refl _ | assumption | exact held_left (by assumption) | apply Ext.drewN | apply Ext.drew | apply Ext.alloc | (refine Ext.setCell ?_ (by first | (simp; done) | (simp; omega) | omega) _) | (refine Ext.trans ?_ (by assumption)) | (refine Ext.trans ?_ (held_left (by assumption))))))⟩
    | some p =>
      have hgr : getR ao1 av1 (ps.map RR.r) = some p.r := by rw [← getP_map, hg]; rfl
      have hh : hasR ao1 av1 (ps.map RR.r) = true := by rw [← getP_is, hg]; rfl
      have HR := Hid.mk' (show R = imgE p.r k1 old1 b1 a1 from by rw [HR1.out, hgr])
      have HI := Hid.mk' (HIM.out p (getP_some hg).1)
      rw [hg, hh] at HGT
      rw [← HR.out] at HI
      clear hg hgr hh HR1 HR HIM
      simp only [Option.getD_some] at HGT
      obtain ⟨⟨oid, ver, nm, id, cols⟩, qa, qc⟩ := p
      unfold RR.agg at HGT HI
      simp only at HGT HI
      go_enter Try.func38, Try.ntmps38
      go_wp2_with (first
        | (go_at_call 27; refine (HGT.out _ (by (repeat (with_reducible (first | exact Ext.refl _ | assumption | exact held_left (by assumption) | apply Ext.drewN | apply Ext.drew | apply Ext.alloc | (refine Ext.setCell ?_ (by first | (simp; done) | (simp; omega) | omega) _) | (refine Ext.trans ?_ (by assumption)) | (refine Ext.trans ?_ (held_left (by assumption)))))))).mono ?_; rintro e w3 ⟨rfl, hb3⟩; (have hE_w3 : Ext (w.alloc (.cells #[.int .u8 k1, .int .u32 ao1, .int .u32 av1, .int .u8 old1, .slice ba1 b1.length bc1, .slice aa1 a1.length ac1, .slice ra1 0 rc1, .int .u8 0] 73)) w3 := (by (repeat (with_reducible (first | exact Ext.refl _ | assumption | exact held_left (by assumption) | apply Ext.drewN | apply Ext.drew | apply Ext.alloc | (refine Ext.setCell ?_ (by first | (simp; done) | (simp; omega) | omega) _) | (refine Ext.trans ?_ (by assumption)) | (refine Ext.trans ?_ (held_left (by assumption))))))); obtain ⟨hc_w3, hf_w3⟩ := hE_w3.cells; have hz_w3 := hE_w3.size); have z3 : w.heap.size < w3.heap.size := (by have := hE_w3.size; simp at this; omega))
        | (go_at_call 67; refine (HI.out _ (by (repeat (with_reducible (first | exact Ext.refl _ | assumption | exact held_left (by assumption) | apply Ext.drewN | apply Ext.drew | apply Ext.alloc | (refine Ext.setCell ?_ (by first | (simp; done) | (simp; omega) | omega) _) | (refine Ext.trans ?_ (by assumption)) | (refine Ext.trans ?_ (held_left (by assumption)))))))).mono ?_; rintro e w4 ⟨rfl, hb4⟩))
      go_ret
      exact ⟨rfl, by (repeat (with_reducible (first | exact Ext.refl _ | assumption | exact held_left (by assumption) | apply Ext.drewN | apply Ext.drew | apply Ext.alloc | (refine Ext.setCell ?_ (by first | (simp; done) | (simp; omega) | omega) _) | (refine Ext.trans ?_ (by assumption)) | (refine Ext.trans ?_ (held_left (by assumption))))))⟩

end Go.Proofs.Ythdjinicmnhgpaa

/-
The awake of the laws of events.
-/
namespace Go.Proofs.Ythdjinicmnhgpaa
open Go.RowKit

def aw13 (o : Int) : Rl := ⟨o, 1, ⟨#[116]⟩, 0, [⟨⟨#[97]⟩, 1, false⟩]⟩
theorem aw13_up : ofUp [aw13 1, aw13 2] 2 = [aw13 1, aw13 2] := by rfl
theorem aw13_ofE : ofE [aw13 1, aw13 2] = 0 := by decide
theorem aw13_ofPl : ofPl [aw13 1, aw13 2] = 2 := by decide
theorem aw13_wb (v : Int) : (aw13 v).wb := ⟨by show 1 ≤ 9223372036854775807; omega, by intro c hc; simp [aw13] at hc; subst hc; show 1 ≤ 9223372036854775807; omega, by show 1 ≤ 5864062014634; omega, Int.le_refl 0⟩
theorem aw13_own (rs : List Rf) : ownB ⟨7, 0, 0, 0, [], [], rs, 0⟩ = true := (own_trunc (e := ⟨7, 0, 0, 0, [], [], rs, 0⟩) rfl).2 ⟨rfB_true.2 rfl, rfl, rfl, rfl⟩
theorem aw13_small {rs : List Rf} (h : rs.length ≤ 1000) : Ev.small ⟨7, 0, 0, 0, [], [], rs, 0⟩ := ⟨Nat.zero_le _, Nat.zero_le _, h⟩
theorem aw13_wk (rs : List Rf) : Ev.wk ⟨7, 0, 0, 0, [], [], rs, 0⟩ := ⟨(fun c hc => by cases hc), (fun c hc => by cases hc), Int.le_refl 0⟩
theorem aw13_e1 : evE (⟨7, 0, 0, 0, [], [], [⟨2, 1⟩, ⟨1, 1⟩], 0⟩ : Ev) [aw13 1, aw13 2] = 15 := by
  unfold evE
  rw [if_neg (by simp only; omega), if_neg (by rw [aw13_own]; simp), if_pos rfl]
  unfold truncE
  rw [if_neg (by simp), if_pos (risB_no (i := 0) (by simp) (by decide))]
theorem aw13_e2 : evE (⟨7, 0, 0, 0, [], [], [⟨1, 1⟩, ⟨2, 1⟩], 0⟩ : Ev) [aw13 1, aw13 2] = 0 := by
  unfold evE
  rw [if_neg (by simp only; omega), if_neg (by rw [aw13_own]; simp), if_pos rfl]
  unfold truncE
  rw [if_neg (by simp), if_neg (by
    rw [risB_true.2 (fun i h => by
      obtain rfl : i = 0 := by simp at h; omega
      show aheadB 1 1 2 1 = true
      decide)]
    simp), if_neg (by decide), if_neg (by simp only; omega)]

set_option maxRecDepth 100000 in set_option maxHeartbeats 4000000 in
theorem awake13_any (w : World) : Calls Try.prog 43 #[] w fun e w' => e = .returned (.bool true) ∧ Ext w w' := by
  have HCI : Hid (∀ W, Ext (((w.alloc (.cells #[.string ⟨#[97]⟩, .int .u8 1, .bool false] 40)).alloc (.cells #[.int .u32 1, .int .u32 1, .string ⟨#[116]⟩, .int .u8 0, .slice (some ⟨w.heap.size, 0, none⟩) 1 1] 36)).alloc (.cells #[.int .u32 2, .int .u32 1, .string ⟨#[116]⟩, .int .u8 0, .slice (some ⟨w.heap.size, 0, none⟩) 1 1] 36)) W → ∀ v : Int, RR.in W ⟨aw13 v, some ⟨w.heap.size, 0, none⟩, 1⟩) := Hid.mk' (fun W h v => ((Sl.new w #[.string ⟨#[97]⟩, .int .u8 1, .bool false] 40 3 1 1 [[.string ⟨#[97]⟩, .int .u8 1, .bool false]] rfl (by intro xs hxs; simp at hxs; subst hxs; rfl) rfl).ext (((Ext.refl _).alloc _).alloc _)).ext h)
  have HOF := Hid.mk' (fun (W : World) (h : Ext (((w.alloc (.cells #[.string ⟨#[97]⟩, .int .u8 1, .bool false] 40)).alloc (.cells #[.int .u32 1, .int .u32 1, .string ⟨#[116]⟩, .int .u8 0, .slice (some ⟨w.heap.size, 0, none⟩) 1 1] 36)).alloc (.cells #[.int .u32 2, .int .u32 1, .string ⟨#[116]⟩, .int .u8 0, .slice (some ⟨w.heap.size, 0, none⟩) 1 1] 36)) W) => cof_any [⟨aw13 1, some ⟨w.heap.size, 0, none⟩, 1⟩, ⟨aw13 2, some ⟨w.heap.size, 0, none⟩, 1⟩] (some ⟨W.heap.size, 0, none⟩) 2 (W.alloc (.cells #[.int .u32 1, .int .u32 1, .string ⟨#[116]⟩, .int .u8 0, .slice (some ⟨w.heap.size, 0, none⟩) 1 1, .int .u32 2, .int .u32 1, .string ⟨#[116]⟩, .int .u8 0, .slice (some ⟨w.heap.size, 0, none⟩) 1 1] 36))
    ⟨Sl.new W #[.int .u32 1, .int .u32 1, .string ⟨#[116]⟩, .int .u8 0, .slice (some ⟨w.heap.size, 0, none⟩) 1 1, .int .u32 2, .int .u32 1, .string ⟨#[116]⟩, .int .u8 0, .slice (some ⟨w.heap.size, 0, none⟩) 1 1] 36 5 2 2 _ rfl (RR.len _) rfl, fun p hp => by simp at hp; rcases hp with rfl | rfl <;> exact HCI.out _ (h.alloc _) _⟩
    (fun p hp => by simp at hp; rcases hp with rfl | rfl <;> exact Nat.le_refl _) (fun p hp => by simp at hp; rcases hp with rfl | rfl <;> exact aw13_wb _) (by simp))
  have HOF := Hid.mk' (HOF.out (((w.alloc (.cells #[.string ⟨#[97]⟩, .int .u8 1, .bool false] 40)).alloc (.cells #[.int .u32 1, .int .u32 1, .string ⟨#[116]⟩, .int .u8 0, .slice (some ⟨w.heap.size, 0, none⟩) 1 1] 36)).alloc (.cells #[.int .u32 2, .int .u32 1, .string ⟨#[116]⟩, .int .u8 0, .slice (some ⟨w.heap.size, 0, none⟩) 1 1] 36)) (Ext.refl _))
  unfold COfPost at HOF
  simp only [World.size_alloc, List.map_cons, List.map_nil, List.length_cons, List.length_nil, Nat.zero_add, Nat.reduceAdd, aw13_ofE, aw13_ofPl, aw13_up] at HOF
  go_enter Try.func43, Try.ntmps43
  go_upto_region 9 with (go_at_call 14; refine HOF.out.mono ?_; rintro e w1 ⟨pv, rfl, h1, -, hb1⟩; obtain ⟨rfl, c, qs, hc, hq⟩ := h1 (by first | exact rfl | exact trivial); have HC := Hid.mk' hc; have HQ := Hid.mk' hq; have HB1 := Hid.mk' (show Ext w w1 from (((((Ext.refl w).alloc _).alloc _).alloc _).alloc _).trans hb1); (have hb3 : Ext (((w.alloc (.cells #[.string ⟨#[97]⟩, .int .u8 1, .bool false] 40)).alloc (.cells #[.int .u32 1, .int .u32 1, .string ⟨#[116]⟩, .int .u8 0, .slice (some ⟨w.heap.size, 0, none⟩) 1 1] 36)).alloc (.cells #[.int .u32 2, .int .u32 1, .string ⟨#[116]⟩, .int .u8 0, .slice (some ⟨w.heap.size, 0, none⟩) 1 1] 36)) w1 := ((Ext.refl _).alloc _).trans hb1); obtain ⟨hc3, hf3⟩ := hb3.cells; have hz3 := hb3.size; (have z0 : w.heap.size < w1.heap.size := by simp at hz3; omega); (have z1 : w.heap.size + 1 < w1.heap.size := by simp at hz3; omega); (have z2 : w.heap.size + 1 + 1 < w1.heap.size := by simp at hz3; omega); clear h1 hc hq hb1)
  have HCD : Hid (Ca (((((w1.alloc (.cells #[.int .u32 2, .int .u32 1, .int .u32 1, .int .u32 1] 33)).alloc (.cells #[.int .u8 7, .int .u32 0, .int .u32 0, .int .u8 0, .slice none 0 0, .slice none 0 0, .slice (some ⟨w1.heap.size, 0, none⟩) 2 2, .int .u8 0] 83)).alloc (.cells #[.int .u32 1, .int .u32 1, .int .u32 2, .int .u32 1] 33)).alloc (.cells #[.int .u8 7, .int .u32 0, .int .u32 0, .int .u8 0, .slice none 0 0, .slice none 0 0, .slice (some ⟨w1.heap.size + 1 + 1, 0, none⟩) 2 2, .int .u8 0] 83))) _ _ c qs) := Hid.mk' (HC.out.ext (by (repeat (with_reducible (first | exact Ext.refl _ | assumption | exact held_left (by assumption) | apply Ext.drewN | apply Ext.drew | apply Ext.alloc | (refine Ext.setCell ?_ (by first | (simp; done) | (simp; omega) | omega) _) | (refine Ext.trans ?_ (by assumption)) | (refine Ext.trans ?_ (held_left (by assumption))))))))
  have HAT1 : Hid (EL.at 5 K.pc (((((w1.alloc (.cells #[.int .u32 2, .int .u32 1, .int .u32 1, .int .u32 1] 33)).alloc (.cells #[.int .u8 7, .int .u32 0, .int .u32 0, .int .u8 0, .slice none 0 0, .slice none 0 0, .slice (some ⟨w1.heap.size, 0, none⟩) 2 2, .int .u8 0] 83)).alloc (.cells #[.int .u32 1, .int .u32 1, .int .u32 2, .int .u32 1] 33)).alloc (.cells #[.int .u8 7, .int .u32 0, .int .u32 0, .int .u8 0, .slice none 0 0, .slice none 0 0, .slice (some ⟨w1.heap.size + 1 + 1, 0, none⟩) 2 2, .int .u8 0] 83))) ⟨(⟨7, 0, 0, 0, [], [], [⟨2, 1⟩, ⟨1, 1⟩], 0⟩ : Ev), none, 0, none, 0, some ⟨w1.heap.size, 0, none⟩, 2⟩) := Hid.mk' ⟨nilRowP _, nilRowP _, (Sl.new w1 #[.int .u32 2, .int .u32 1, .int .u32 1, .int .u32 1] 33 2 2 2 (([⟨2, 1⟩, ⟨1, 1⟩] : List Rf).map Rf.cells) rfl (by intro xs hxs; simp at hxs; rcases hxs with rfl | rfl <;> rfl) rfl).ext (by (repeat (with_reducible (first | exact Ext.refl _ | assumption | exact held_left (by assumption) | apply Ext.drewN | apply Ext.drew | apply Ext.alloc | (refine Ext.setCell ?_ (by first | (simp; done) | (simp; omega) | omega) _) | (refine Ext.trans ?_ (by assumption)) | (refine Ext.trans ?_ (held_left (by assumption)))))))⟩
  have hS2 := Sl.new (((w1.alloc (.cells #[.int .u32 2, .int .u32 1, .int .u32 1, .int .u32 1] 33)).alloc (.cells #[.int .u8 7, .int .u32 0, .int .u32 0, .int .u8 0, .slice none 0 0, .slice none 0 0, .slice (some ⟨w1.heap.size, 0, none⟩) 2 2, .int .u8 0] 83))) #[.int .u32 1, .int .u32 1, .int .u32 2, .int .u32 1] 33 2 2 2 (([⟨1, 1⟩, ⟨2, 1⟩] : List Rf).map Rf.cells) rfl (by intro xs hxs; simp at hxs; rcases hxs with rfl | rfl <;> rfl) rfl
  rw [World.size_alloc, World.size_alloc] at hS2
  have HAT2 : Hid (EL.at 5 K.pc (((((w1.alloc (.cells #[.int .u32 2, .int .u32 1, .int .u32 1, .int .u32 1] 33)).alloc (.cells #[.int .u8 7, .int .u32 0, .int .u32 0, .int .u8 0, .slice none 0 0, .slice none 0 0, .slice (some ⟨w1.heap.size, 0, none⟩) 2 2, .int .u8 0] 83)).alloc (.cells #[.int .u32 1, .int .u32 1, .int .u32 2, .int .u32 1] 33)).alloc (.cells #[.int .u8 7, .int .u32 0, .int .u32 0, .int .u8 0, .slice none 0 0, .slice none 0 0, .slice (some ⟨w1.heap.size + 1 + 1, 0, none⟩) 2 2, .int .u8 0] 83))) ⟨(⟨7, 0, 0, 0, [], [], [⟨1, 1⟩, ⟨2, 1⟩], 0⟩ : Ev), none, 0, none, 0, some ⟨w1.heap.size + 1 + 1, 0, none⟩, 2⟩) := Hid.mk' ⟨nilRowP _, nilRowP _, hS2.ext (by (repeat (with_reducible (first | exact Ext.refl _ | assumption | exact held_left (by assumption) | apply Ext.drewN | apply Ext.drew | apply Ext.alloc | (refine Ext.setCell ?_ (by first | (simp; done) | (simp; omega) | omega) _) | (refine Ext.trans ?_ (by assumption)) | (refine Ext.trans ?_ (held_left (by assumption)))))))⟩
  have HR1 : Hid (∀ W, Ext (((((w1.alloc (.cells #[.int .u32 2, .int .u32 1, .int .u32 1, .int .u32 1] 33)).alloc (.cells #[.int .u8 7, .int .u32 0, .int .u32 0, .int .u8 0, .slice none 0 0, .slice none 0 0, .slice (some ⟨w1.heap.size, 0, none⟩) 2 2, .int .u8 0] 83)).alloc (.cells #[.int .u32 1, .int .u32 1, .int .u32 2, .int .u32 1] 33)).alloc (.cells #[.int .u8 7, .int .u32 0, .int .u32 0, .int .u8 0, .slice none 0 0, .slice none 0 0, .slice (some ⟨w1.heap.size + 1 + 1, 0, none⟩) 2 2, .int .u8 0] 83))) W → Calls Try.prog 37 #[.agg #[.int .u8 7, .int .u32 0, .int .u32 0, .int .u8 0, .slice none 0 0, .slice none 0 0, .slice (some ⟨w1.heap.size, 0, none⟩) 2 2, .int .u8 0], .pointer (some ⟨w.heap.size + 1 + 1 + 1 + 1, 0, none⟩)] W fun e w' => e = .returned (.int .i64 15) ∧ Ext W w') := Hid.mk' (fun W h => by have h1 := eright_any _ _ _ c qs W (HAT1.out.ext h) (aw13_small (by decide)) (aw13_wk _) (HCD.out.ext h); rw [HQ.out, aw13_e1] at h1; exact h1)
  have HR2 : Hid (∀ W, Ext (((((w1.alloc (.cells #[.int .u32 2, .int .u32 1, .int .u32 1, .int .u32 1] 33)).alloc (.cells #[.int .u8 7, .int .u32 0, .int .u32 0, .int .u8 0, .slice none 0 0, .slice none 0 0, .slice (some ⟨w1.heap.size, 0, none⟩) 2 2, .int .u8 0] 83)).alloc (.cells #[.int .u32 1, .int .u32 1, .int .u32 2, .int .u32 1] 33)).alloc (.cells #[.int .u8 7, .int .u32 0, .int .u32 0, .int .u8 0, .slice none 0 0, .slice none 0 0, .slice (some ⟨w1.heap.size + 1 + 1, 0, none⟩) 2 2, .int .u8 0] 83))) W → Calls Try.prog 37 #[.agg #[.int .u8 7, .int .u32 0, .int .u32 0, .int .u8 0, .slice none 0 0, .slice none 0 0, .slice (some ⟨w1.heap.size + 1 + 1, 0, none⟩) 2 2, .int .u8 0], .pointer (some ⟨w.heap.size + 1 + 1 + 1 + 1, 0, none⟩)] W fun e w' => e = .returned (.int .i64 0) ∧ Ext W w') := Hid.mk' (fun W h => by have h1 := eright_any _ _ _ c qs W (HAT2.out.ext h) (aw13_small (by decide)) (aw13_wk _) (HCD.out.ext h); rw [HQ.out, aw13_e2] at h1; exact h1)
  have HU2 : Hid (∀ W, Ext (((((w1.alloc (.cells #[.int .u32 2, .int .u32 1, .int .u32 1, .int .u32 1] 33)).alloc (.cells #[.int .u8 7, .int .u32 0, .int .u32 0, .int .u8 0, .slice none 0 0, .slice none 0 0, .slice (some ⟨w1.heap.size, 0, none⟩) 2 2, .int .u8 0] 83)).alloc (.cells #[.int .u32 1, .int .u32 1, .int .u32 2, .int .u32 1] 33)).alloc (.cells #[.int .u8 7, .int .u32 0, .int .u32 0, .int .u8 0, .slice none 0 0, .slice none 0 0, .slice (some ⟨w1.heap.size + 1 + 1, 0, none⟩) 2 2, .int .u8 0] 83))) W → Calls Try.prog 35 #[.agg #[.int .u8 7, .int .u32 0, .int .u32 0, .int .u8 0, .slice none 0 0, .slice none 0 0, .slice (some ⟨w1.heap.size + 1 + 1, 0, none⟩) 2 2, .int .u8 0]] W fun e w' => ∃ (a' : Option Addr) (c' : Nat), e = .returned (.slice a' 2 c') ∧ Ext W w') := Hid.mk' (fun W h => (euses_any _ W (HAT2.out.ext h) (aw13_small (by decide))).mono (fun e w' hq => by
    obtain ⟨a', n, c', h1, h2, -, h4⟩ := hq
    have h3 : n = 2 := h2
    exact ⟨a', c', by rw [h1, h3], h4⟩))
  have hBA : Blk (((((w1.alloc (.cells #[.int .u32 2, .int .u32 1, .int .u32 1, .int .u32 1] 33)).alloc (.cells #[.int .u8 7, .int .u32 0, .int .u32 0, .int .u8 0, .slice none 0 0, .slice none 0 0, .slice (some ⟨w1.heap.size, 0, none⟩) 2 2, .int .u8 0] 83)).alloc (.cells #[.int .u32 1, .int .u32 1, .int .u32 2, .int .u32 1] 33)).alloc (.cells #[.int .u8 7, .int .u32 0, .int .u32 0, .int .u8 0, .slice none 0 0, .slice none 0 0, .slice (some ⟨w1.heap.size + 1 + 1, 0, none⟩) 2 2, .int .u8 0] 83))) (w1.heap.size + 1) #[.int .u8 7, .int .u32 0, .int .u32 0, .int .u8 0, .slice none 0 0, .slice none 0 0, .slice (some ⟨w1.heap.size, 0, none⟩) 2 2, .int .u8 0] 83 := ((Blk.new' (w := (w1.alloc (.cells #[.int .u32 2, .int .u32 1, .int .u32 1, .int .u32 1] 33))) _ _ (by simp)).alloc _).alloc _
  have hBB : Blk (((((w1.alloc (.cells #[.int .u32 2, .int .u32 1, .int .u32 1, .int .u32 1] 33)).alloc (.cells #[.int .u8 7, .int .u32 0, .int .u32 0, .int .u8 0, .slice none 0 0, .slice none 0 0, .slice (some ⟨w1.heap.size, 0, none⟩) 2 2, .int .u8 0] 83)).alloc (.cells #[.int .u32 1, .int .u32 1, .int .u32 2, .int .u32 1] 33)).alloc (.cells #[.int .u8 7, .int .u32 0, .int .u32 0, .int .u8 0, .slice none 0 0, .slice none 0 0, .slice (some ⟨w1.heap.size + 1 + 1, 0, none⟩) 2 2, .int .u8 0] 83))) (w1.heap.size + 1 + 1 + 1) #[.int .u8 7, .int .u32 0, .int .u32 0, .int .u8 0, .slice none 0 0, .slice none 0 0, .slice (some ⟨w1.heap.size + 1 + 1, 0, none⟩) 2 2, .int .u8 0] 83 := Blk.new' (w := (((w1.alloc (.cells #[.int .u32 2, .int .u32 1, .int .u32 1, .int .u32 1] 33)).alloc (.cells #[.int .u8 7, .int .u32 0, .int .u32 0, .int .u8 0, .slice none 0 0, .slice none 0 0, .slice (some ⟨w1.heap.size, 0, none⟩) 2 2, .int .u8 0] 83)).alloc (.cells #[.int .u32 1, .int .u32 1, .int .u32 2, .int .u32 1] 33))) _ _ (by simp)
  have HEW : Hid (Ext w (((((w1.alloc (.cells #[.int .u32 2, .int .u32 1, .int .u32 1, .int .u32 1] 33)).alloc (.cells #[.int .u8 7, .int .u32 0, .int .u32 0, .int .u8 0, .slice none 0 0, .slice none 0 0, .slice (some ⟨w1.heap.size, 0, none⟩) 2 2, .int .u8 0] 83)).alloc (.cells #[.int .u32 1, .int .u32 1, .int .u32 2, .int .u32 1] 33)).alloc (.cells #[.int .u8 7, .int .u32 0, .int .u32 0, .int .u8 0, .slice none 0 0, .slice none 0 0, .slice (some ⟨w1.heap.size + 1 + 1, 0, none⟩) 2 2, .int .u8 0] 83)))) := Hid.mk' (HB1.out.trans (by (repeat (with_reducible (first | exact Ext.refl _ | assumption | exact held_left (by assumption) | apply Ext.drewN | apply Ext.drew | apply Ext.alloc | (refine Ext.setCell ?_ (by first | (simp; done) | (simp; omega) | omega) _) | (refine Ext.trans ?_ (by assumption)) | (refine Ext.trans ?_ (held_left (by assumption))))))))
  clear hS2 HCD HAT1 HAT2 HQ HC HOF HCI hb3 hc3 hf3 hz3
  obtain ⟨w4, hw4⟩ : ∃ w4, w4 = ((((w1.alloc (.cells #[.int .u32 2, .int .u32 1, .int .u32 1, .int .u32 1] 33)).alloc (.cells #[.int .u8 7, .int .u32 0, .int .u32 0, .int .u8 0, .slice none 0 0, .slice none 0 0, .slice (some ⟨w1.heap.size, 0, none⟩) 2 2, .int .u8 0] 83)).alloc (.cells #[.int .u32 1, .int .u32 1, .int .u32 2, .int .u32 1] 33)).alloc (.cells #[.int .u8 7, .int .u32 0, .int .u32 0, .int .u8 0, .slice none 0 0, .slice none 0 0, .slice (some ⟨w1.heap.size + 1 + 1, 0, none⟩) 2 2, .int .u8 0] 83)) := ⟨_, rfl⟩
  rw [← hw4] at hBA hBB HEW HR1 HR2 HU2 ⊢
  have HBA := Hid.mk' hBA
  have HBB := Hid.mk' hBB
  clear hBA hBB hw4 z0 z1 z2
  have ga := HBA.out.cell
  have za := HBA.out.lt
  have gb := HBB.out.cell
  have zb := HBB.out.lt
  go_wp2_with (first
    | (go_at_call_of 37 (Value.agg #[.int .u8 7, .int .u32 0, .int .u32 0, .int .u8 0, .slice none 0 0, .slice none 0 0, .slice (some ⟨w1.heap.size, 0, none⟩) 2 2, .int .u8 0]); (with_reducible refine (HR1.out _ (Ext.refl _)).mono ?_); rintro e w5 ⟨rfl, hb5⟩; have HB5 := Hid.mk' hb5; clear hb5; have gb5 := (HBB.out.ext HB5.out).cell; have zb5 := (HBB.out.ext HB5.out).lt)
    | (go_at_call 37; refine (HR2.out _ HB5.out).mono ?_; rintro e w6 ⟨rfl, hb6⟩; have HB6 := Hid.mk' (HB5.out.trans hb6); clear hb6; have gb6 := (HBB.out.ext HB6.out).cell; have zb6 := (HBB.out.ext HB6.out).lt)
    | (go_at_call 35; refine (HU2.out _ HB6.out).mono ?_; rintro e w7 ⟨a', c', rfl, hb7⟩; have HB7 := Hid.mk' (HB6.out.trans hb7); clear hb7))
  go_ret
  exact ⟨rfl, HEW.out.trans HB7.out⟩

end Go.Proofs.Ythdjinicmnhgpaa

/-
Does a law look at so much?
-/
namespace Go.Proofs.Ythdjinicmnhgpaa
open Go.RowKit

def GreatK (l : List K) (cols : List Col) (nm : ByteArray) (w : World) (e : Ending) (w' : World) : Prop :=
  ∃ g : Bool, e = .returned (.bool g) ∧ (g = false → (∀ c ∈ l, c.v.s.size ≤ 3000) ∧ (∀ c ∈ cols, c.nm.size ≤ 60) ∧ l.length ≤ 20 ∧ cols.length ≤ 20 ∧ nm.size ≤ 60) ∧ Ext w w'

set_option maxRecDepth 100000 in set_option maxHeartbeats 4000000 in
theorem greatK_any (l : List K) (a : Option Addr) (cap : Nat) (oid ver : Int) (nm : ByteArray) (id : Int) (cols : List Col) (a2 : Option Addr) (cap2 : Nat) (w : World) (hl : Sl w (.slice a l.length cap) 6 (l.map K.rc)) (hl2 : Sl w (.slice a2 cols.length cap2) 3 (cols.map Col.cells))
    (hlen : l.length ≤ 9223372036854775807) (hlen2 : cols.length ≤ 9223372036854775807) (hs : ∀ c ∈ l, c.v.s.size ≤ 9223372036854775807) (hs2 : ∀ c ∈ cols, c.nm.size ≤ 9223372036854775807) (hnm : nm.size ≤ 9223372036854775807) :
    Calls Try.prog 60 #[.slice a l.length cap, .agg #[.int .u32 oid, .int .u32 ver, .string nm, .int .u8 id, .slice a2 cols.length cap2]] w (GreatK l cols nm w) := by
  have HL := Hid.mk' hl
  have HL2 := Hid.mk' hl2
  have HS := Hid.mk' hs
  have HS2 := Hid.mk' hs2
  clear hl hl2 hs hs2
  go_enter Try.func60, Try.ntmps60
  go_wp2
  go_loopw [5] (fun i wr => ∃ k : Nat, k ≤ l.length ∧ i = .int .i64 k ∧ Hid (∀ j (hj : j < l.length), j < k → l[j].v.s.size ≤ 3000) ∧ Hid (Ext (w.alloc (.cells #[.int .u32 oid, .int .u32 ver, .string nm, .int .u8 id, .slice a2 cols.length cap2] 49)) wr)) (fun i _ => l.length - (intOf i).toNat)
  case atStart => exact ⟨0, Nat.zero_le _, rfl, fun j _ h => by omega, Ext.refl _⟩
  case round =>
    obtain ⟨k, hk, rfl, hrel, hE⟩ := hrel
    have hEw : Hid (Ext w wr) := Hid.mk' (((Ext.refl w).alloc _).trans hE.out)
    by_cases hlt : k < l.length
    · obtain ⟨b, o, rfl, hb, hx⟩ := HL.out.at_ (i := k) (by simpa using hlt)
      obtain ⟨f0, f1, f2, f3, f4, f5⟩ := K.rcAt hlt hx hb hEw.out
      have hbw : b < wr.heap.size := Nat.lt_of_lt_of_le hb hEw.out.size
      have hsz := HS.out _ (List.getElem_mem hlt)
      clear hx
      by_cases h3 : 3000 < l[k].v.s.size
      · go_wp2
        go_ret
        exact ⟨true, rfl, (fun h => by cases h), hEw.out⟩
      · have h4 : l[k].v.s.size ≤ 3000 := by omega
        go_wp2
        go_roundw
        case rel => exact ⟨k + 1, by omega, by go_num, fun j hj hjk => by
          by_cases e : j = k
          · subst e; exact h4
          · exact hrel.out j hj (by omega), hE⟩
        case measure => simp [intOf]; omega
    · have hkk : k = l.length := by omega
      have H3 : Hid (∀ c ∈ l, c.v.s.size ≤ 3000) := Hid.mk' (fun c hc => by
        obtain ⟨i, hi, rfl⟩ := List.getElem_of_mem hc
        exact hrel.out i hi (by omega))
      subst hkk
      clear hrel
      have hBx := (Blk.new w #[.int .u32 oid, .int .u32 ver, .string nm, .int .u8 id, .slice a2 cols.length cap2] 49).ext hE.out
      have g0 := hBx.cell
      have z0 := hBx.lt
      clear hBx
      go_wp2
      obtain ⟨wo, rfl⟩ : ∃ wo : World, wo = wr := ⟨_, rfl⟩
      go_loopw [6] (fun i wr => ∃ k : Nat, k ≤ cols.length ∧ i = .int .i64 k ∧ Hid (∀ j (hj : j < cols.length), j < k → cols[j].nm.size ≤ 60) ∧ wr = wo) (fun i _ => cols.length - (intOf i).toNat)
      case atStart => exact ⟨0, Nat.zero_le _, rfl, fun j _ h => by omega, rfl⟩
      case round =>
        obtain ⟨k, hk, rfl, hrel, rfl⟩ := hrel
        by_cases hlt : k < cols.length
        · obtain ⟨b, o, rfl, hb, hx⟩ := HL2.out.at_ (i := k) (by simpa using hlt)
          obtain ⟨f0, f1, f2⟩ := Col.at_ hlt hx hb hEw.out
          have hbw : b < wr.heap.size := Nat.lt_of_lt_of_le hb hEw.out.size
          have hsz := HS2.out _ (List.getElem_mem hlt)
          clear hx
          by_cases h3 : 60 < cols[k].nm.size
          · go_wp2
            go_ret
            exact ⟨true, rfl, (fun h => by cases h), hEw.out⟩
          · have h4 : cols[k].nm.size ≤ 60 := by omega
            go_wp2
            go_roundw
            case rel => exact ⟨k + 1, by omega, by go_num, fun j hj hjk => by
              by_cases e : j = k
              · subst e; exact h4
              · exact hrel.out j hj (by omega), (by first | trivial | rfl)⟩
            case measure => simp [intOf]; omega
        · have hkk : k = cols.length := by omega
          have H4 : Hid (∀ c ∈ cols, c.nm.size ≤ 60) := Hid.mk' (fun c hc => by
            obtain ⟨i, hi, rfl⟩ := List.getElem_of_mem hc
            exact hrel.out i hi (by omega))
          subst hkk
          clear hrel
          by_cases c1 : 20 < l.length
          · go_wp2
            go_ret
            exact ⟨_, rfl, fun h => by simp at h; try omega, hEw.out⟩
          · have c1' : l.length ≤ 20 := by omega
            by_cases c2 : 20 < cols.length
            · go_wp2
              go_ret
              exact ⟨_, rfl, fun h => by simp at h; try omega, hEw.out⟩
            · have c2' : cols.length ≤ 20 := by omega
              go_wp2
              go_ret
              exact ⟨_, rfl, fun h => ⟨H3.out, H4.out, c1', c2', by simp at h; omega⟩, hEw.out⟩

end Go.Proofs.Ythdjinicmnhgpaa

/-
Transactions that lie somewhere; the laws' Great.
-/
namespace Go.Proofs.Ythdjinicmnhgpaa
open Go.RowKit

/-- A transaction. -/
structure Tx where
  xid : Int
  st : Int
  es : List Ev
/-- A transaction that lies somewhere. -/
structure TL where
  xid : Int
  st : Int
  es : List EL
  a : Option Addr
  c : Nat
def TL.t (x : TL) : Tx := ⟨x.xid, x.st, x.es.map EL.e⟩
def TL.vals (x : TL) : List Value := [.int .u32 x.xid, .int .u64 x.st, .slice x.a x.es.length x.c]
def TL.agg (x : TL) : Value := .agg #[.int .u32 x.xid, .int .u64 x.st, .slice x.a x.es.length x.c]
def TL.at (n : Nat) (f : K → List Value) (W : World) (x : TL) : Prop := ES n f W (.slice x.a x.es.length x.c) x.es
theorem TL.at.ext {n : Nat} {f : K → List Value} {W W' : World} {x : TL} (h : x.at n f W) (he : Ext W W') : x.at n f W' := ES.ext h he
theorem TL.at_ {w wr : World} {b o : Nat} {l : List TL} {k : Nat} (hk : k < l.length) (hc : ∀ j, j < 3 → w.cell? ⟨b, o + k * 3 + j, none⟩ = ((l.map TL.vals).getD k [])[j]?) (hb : b < w.heap.size) (hE : Ext w wr) :
    wr.cell? ⟨b, o + k * 3, none⟩ = some (.int .u32 l[k].xid) ∧ wr.cell? ⟨b, o + k * 3 + 1, none⟩ = some (.int .u64 l[k].st) ∧ wr.cell? ⟨b, o + k * 3 + 2, none⟩ = some (.slice l[k].a l[k].es.length l[k].c) := by
  rw [getD_map TL.vals l hk] at hc
  have c := hE.cells.1 b
  exact ⟨(c _ hb).trans (hc 0 (by omega)), (c _ hb).trans (hc 1 (by omega)), (c _ hb).trans (hc 2 (by omega))⟩
/-- Transactions in a row. -/
structure TS (n : Nat) (f : K → List Value) (W : World) (v : Value) (xs : List TL) : Prop where
  row : Sl W v 3 (xs.map TL.vals)
  sl : ∀ x ∈ xs, x.at n f W
theorem TS.ext {n : Nat} {f : K → List Value} {W W' : World} {v : Value} {xs : List TL} (h : TS n f W v xs) (he : Ext W W') : TS n f W' v xs := ⟨h.row.ext he, fun x hx => (h.sl x hx).ext he⟩
/-- What is known of the sizes of an event, of a transaction, of the arguments. -/
structure Ev.sz (e : Ev) : Prop where
  b : e.b.length ≤ 9223372036854775807
  a : e.a.length ≤ 9223372036854775807
  r : e.rs.length ≤ 9223372036854775807
  sb : ∀ c ∈ e.b, c.wk
  sa : ∀ c ∈ e.a, c.wk
  kind : 0 ≤ e.kind ∧ e.kind < 256
  old : 0 ≤ e.old ∧ e.old < 256
  fl : 0 ≤ e.fl ∧ e.fl < 256
structure TL.sz (x : TL) : Prop where
  n : x.es.length ≤ 1500000000000
  e : ∀ e ∈ x.es, e.e.sz
  xid : 0 ≤ x.xid
/-- Not great. -/
structure Ev.lit (e : Ev) : Prop where
  b : e.b.length ≤ 20
  a : e.a.length ≤ 20
  r : e.rs.length ≤ 30
  sb : ∀ c ∈ e.b, c.v.s.size ≤ 3000
  sa : ∀ c ∈ e.a, c.v.s.size ≤ 3000
def manyT (ts : List TL) (k : Nat) : Nat := ((ts.take k).map fun t => t.es.length).sum
structure Lit (ps : List RR) (ts : List TL) : Prop where
  n : ps.length ≤ 70
  t : ts.length ≤ 60
  es : manyT ts ts.length ≤ 600
  e : ∀ t ∈ ts, ∀ e ∈ t.es, e.e.lit
  r : ∀ p ∈ ps, p.r.cols.length ≤ 20
def GreatT (ps : List RR) (ts : List TL) (w : World) (e : Ending) (w' : World) : Prop := ∃ g : Bool, e = .returned (.bool g) ∧ (g = false → Lit ps ts) ∧ Ext w w'
theorem manyT_succ {ts : List TL} {k : Nat} (hk : k < ts.length) : manyT ts (k + 1) = manyT ts k + ts[k].es.length := by
  unfold manyT
  rw [List.take_succ_eq_append_getElem hk, List.map_append, List.sum_append]; simp
theorem manyT_le (ts : List TL) (k : Nat) : manyT ts k ≤ manyT ts ts.length := by
  unfold manyT
  rw [List.take_length]
  have : (ts.map fun t => t.es.length) = ((ts.take k).map fun t => t.es.length) ++ ((ts.drop k).map fun t => t.es.length) := by rw [← List.map_append, List.take_append_drop]
  rw [this, List.sum_append]; omega
theorem manyT_bd {ts : List TL} (h : ∀ t ∈ ts, t.sz) (k : Nat) : manyT ts k ≤ k * 1500000000000 := by
  induction k with
  | zero => exact Nat.le_of_eq (by unfold manyT; rw [Nat.zero_mul]; rfl)
  | succ k ih =>
    by_cases hk : k < ts.length
    · rw [manyT_succ hk, Nat.succ_mul]; exact Nat.add_le_add ih (h _ (List.getElem_mem hk)).n
    · have e : manyT ts (k + 1) = manyT ts k := by unfold manyT; rw [List.take_of_length_le (by omega), List.take_of_length_le (by omega)]
      rw [e]; exact Nat.le_trans ih (Nat.mul_le_mul_right _ (by omega))

/-- What is known when k transactions were looked at. -/
structure GrI (ts : List TL) (m : Int) (k : Nat) : Prop where
  mm : ts.length ≤ 60 → m = manyT ts k
  e : ts.length ≤ 60 → m ≤ 600 → ∀ j (h : j < ts.length), j < k → ∀ e ∈ ts[j].es, e.e.lit
theorem GrI.zero (ts : List TL) : GrI ts 0 0 := ⟨fun _ => rfl, fun _ _ j _ h => by omega⟩
theorem GrI.succ {ts : List TL} {m : Int} {k : Nat} (h : GrI ts m k) (hs : ∀ t ∈ ts, t.sz) (hk : k < ts.length) (he : wrap64 (m + (ts[k].es.length : Nat)) ≤ 600 → ∀ e ∈ ts[k].es, e.e.lit) : GrI ts (wrap64 (m + (ts[k].es.length : Nat))) (k + 1) := by
  have hw : ts.length ≤ 60 → wrap64 (m + (ts[k].es.length : Nat)) = manyT ts (k + 1) := fun h60 => by
    have h1 := h.mm h60
    have h2 := manyT_bd hs k
    have h3 := (hs _ (List.getElem_mem hk)).n
    have h4 : k * 1500000000000 ≤ 60 * 1500000000000 := Nat.mul_le_mul_right _ (by omega)
    rw [manyT_succ hk, h1]
    have e : ((manyT ts k : Nat) : Int) + ((ts[k].es.length : Nat) : Int) = ((manyT ts k + ts[k].es.length : Nat) : Int) := by omega
    rw [e]
    exact IntWalk.wrap64_in _ (by omega)
  refine ⟨hw, fun h60 hm j hj hjk => ?_⟩
  by_cases e : j = k
  · subst e; exact he hm
  · refine h.e h60 ?_ j hj (by omega)
    rw [h.mm h60]
    rw [hw h60, manyT_succ hk] at hm
    omega

set_option maxRecDepth 100000 in set_option maxHeartbeats 4000000 in
theorem greatT_any (ps : List RR) (ts : List TL) (a a2 : Option Addr) (c c2 : Nat) (w : World) (hp : RL w (.slice a ps.length c) ps) (ht : TS 6 K.rc w (.slice a2 ts.length c2) ts) (hn : ps.length ≤ 9223372036854775807) (hm : ts.length ≤ 9223372036854775807) (hw : ∀ p ∈ ps, p.r.wb) (hs : ∀ t ∈ ts, t.sz) :
    Calls Try.prog 33 #[.slice a ps.length c, .slice a2 ts.length c2] w (GreatT ps ts w) := by
  have HP := Hid.mk' hp
  have HT := Hid.mk' ht
  have HW := Hid.mk' hw
  have HS := Hid.mk' hs
  have HGR := Hid.mk' (fun W p (h : Ext w W) (hp' : p ∈ ps) => (show Calls Try.prog 60 #[.slice none 0 0, p.agg] W (GreatK [] p.r.cols p.r.nm W) from greatK_any [] none 0 p.r.oid p.r.ver p.r.nm p.r.id p.r.cols p.a p.c W ⟨none, 0, rfl, .inl rfl⟩ ((hp.sl p hp').ext h) (by simp) (by have := (hw p hp').n; omega) (by intro c hc; cases hc) (hw p hp').cs (hw p hp').nm))
  have HGK := Hid.mk' (fun W (l : List K) (ab : Option Addr) (cb : Nat) (h : Sl W (.slice ab l.length cb) 6 (l.map K.rc)) (h1 : l.length ≤ 9223372036854775807) (h2 : ∀ c ∈ l, K.wk c) => (show Calls Try.prog 60 #[.slice ab l.length cb, .agg #[.int .u32 0, .int .u32 0, .string ⟨#[]⟩, .int .u8 0, .slice none 0 0]] W (GreatK l [] ⟨#[]⟩ W) from greatK_any l ab cb 0 0 ⟨#[]⟩ 0 [] none 0 W h ⟨none, 0, rfl, .inl rfl⟩ h1 (by simp) (fun c hc => (h2 c hc).s) (by intro c hc; cases hc) (by show 0 ≤ 9223372036854775807; omega)))
  clear hp ht hw hs
  go_enter Try.func33, Try.ntmps33
  go_wp2
  go_loopg [5, 6] ts.length (fun z mv i wr => ∃ (m : Int) (k : Nat), z + k = ts.length ∧ i = .int .i64 k ∧ mv = .int .i64 m ∧ Hid (GrI ts m k) ∧ Hid (Ext w wr))
  case atStart => exact ⟨0, 0, by omega, rfl, rfl, Hid.mk' (GrI.zero ts), Hid.mk' (Ext.refl _)⟩
  case round =>
    obtain ⟨m, k, hzk, rfl, rfl, hG, hE⟩ := hrel
    by_cases hlt : k < ts.length
    · obtain ⟨b, o, rfl, hb, hx⟩ := HT.out.row.at_ (i := k) (by simpa using hlt)
      have HF := Hid.mk' (fun W (h : Ext w W) => TL.at_ hlt hx hb h)
      obtain ⟨f0, f1, f2⟩ := HF.out wr hE.out
      have hbw : b < wr.heap.size := Nat.lt_of_lt_of_le hb hE.out.size
      have HES := Hid.mk' (HT.out.sl _ (List.getElem_mem hlt))
      have HSZ := Hid.mk' (HS.out _ (List.getElem_mem hlt))
      have HNX := Hid.mk' (fun he => GrI.succ hG.out HS.out hlt he)
      obtain ⟨t, ht⟩ : ∃ t, t = ts[k] := ⟨_, rfl⟩
      rw [← ht] at HF f0 f1 f2 HES HSZ HNX
      clear ht hx
      obtain ⟨xid, st, es, ta, tc⟩ := t
      simp only at HF f0 f1 f2 HSZ HNX
      have HES2 : Hid (ES 6 K.rc w (.slice ta es.length tc) es) := HES
      clear HES
      obtain ⟨X, hX⟩ : ∃ X, X = wrap64 (m + (es.length : Nat)) := ⟨_, rfl⟩
      rw [← hX] at HNX
      have HX := Hid.mk' hX
      clear hX
      obtain ⟨wo, hwo⟩ : ∃ x, x = wr := ⟨_, rfl⟩
      subst hwo
      have HEo := Hid.mk' hE.out
      clear hE
      go_wp2
      rw [show wrap64 (m + (es.length : Int)) = X from HX.out.symm]
      go_loopg [7] es.length (fun z2 i wr => ∃ (n : Nat), z2 + n = es.length ∧ i = .int .i64 n ∧ Hid (∀ j (h : j < es.length), j < n → es[j].e.lit) ∧ Hid (Ext wo wr))
      case atStart => exact ⟨0, by omega, rfl, Hid.mk' (fun j _ h => by omega), Hid.mk' (Ext.refl _)⟩
      case round =>
        obtain ⟨n, hzn, rfl, hL, hE⟩ := hrel
        have HEr := Hid.mk' (HEo.out.trans hE.out)
        clear f0 f1 f2
        obtain ⟨f0, f1, f2⟩ := HF.out wr HEr.out
        have hbw2 : b < wr.heap.size := Nat.lt_of_lt_of_le hbw hE.out.size
        by_cases hlt2 : n < es.length
        · by_cases hX6 : X ≤ 600
          · obtain ⟨b2, o2, rfl, hb2, hx2⟩ := HES2.out.row.at_ (i := n) (by simpa using hlt2)
            have hbw3 : b2 < wr.heap.size := Nat.lt_of_lt_of_le hb2 HEr.out.size
            obtain ⟨g0, g1, g2, g3, g4, g5, g6, g7⟩ := EL.at_ hlt2 hx2 hb2 HEr.out
            have hxa := HES2.out.sl _ (List.getElem_mem hlt2)
            have hxs := HSZ.out.e _ (List.getElem_mem hlt2)
            obtain ⟨x, hxx⟩ : ∃ x, x = es[n] := ⟨_, rfl⟩
            rw [← hxx] at g0 g1 g2 g3 g4 g5 g6 g7 hxa hxs
            have HXX := Hid.mk' hxx
            have HKB := Hid.mk' (fun W (h : Ext w W) => HGK.out W x.e.b x.ba x.bc (hxa.b.ext h) hxs.b hxs.sb)
            have HKA := Hid.mk' (fun W (h : Ext w W) => HGK.out W x.e.a x.aa x.ac (hxa.a.ext h) hxs.a hxs.sa)
            have hxr := hxs.r
            have hlen := HSZ.out.n
            obtain ⟨⟨k1, ao1, av1, old1, b1, a1, r1, fl1⟩, ba1, bc1, aa1, ac1, ra1, rc1⟩ := x
            simp only at g0 g1 g2 g3 g4 g5 g6 g7 HKB HKA hxr
            clear hxa hxs hxx hx2
            go_wp2_with (first
              | (go_at_call_of 60 (Value.slice ba1 b1.length bc1); (with_reducible refine (HKB.out _ (by have := HEr.out; (repeat (with_reducible (first | exact Ext.refl _ | assumption | exact held_left (by assumption) | apply Ext.drewN | apply Ext.drew | apply Ext.alloc | (refine Ext.setCell ?_ (by first | (simp; done) | (simp; omega) | omega) _) | (refine Ext.trans ?_ (by assumption)) | (refine Ext.trans ?_ (held_left (by assumption)))))))).mono ?_); rintro e w2 ⟨g, rfl, hg, hb2⟩; (have hE_w2 : Ext (wr.alloc (.cells #[.int .u8 k1, .int .u32 ao1, .int .u32 av1, .int .u8 old1, .slice ba1 b1.length bc1, .slice aa1 a1.length ac1, .slice ra1 r1.length rc1, .int .u8 fl1] 73)) w2 := (by (repeat (with_reducible (first | exact Ext.refl _ | assumption | exact held_left (by assumption) | apply Ext.drewN | apply Ext.drew | apply Ext.alloc | (refine Ext.setCell ?_ (by first | (simp; done) | (simp; omega) | omega) _) | (refine Ext.trans ?_ (by assumption)) | (refine Ext.trans ?_ (held_left (by assumption))))))); obtain ⟨hc_w2, hf_w2⟩ := hE_w2.cells; have hz_w2 := hE_w2.size); have HGB := Hid.mk' hg; clear hg; cases g)
              | (go_at_call_of 60 (Value.slice aa1 a1.length ac1); (with_reducible refine (HKA.out _ (by have := HEr.out; (repeat (with_reducible (first | exact Ext.refl _ | assumption | exact held_left (by assumption) | apply Ext.drewN | apply Ext.drew | apply Ext.alloc | (refine Ext.setCell ?_ (by first | (simp; done) | (simp; omega) | omega) _) | (refine Ext.trans ?_ (by assumption)) | (refine Ext.trans ?_ (held_left (by assumption)))))))).mono ?_); rintro e w3 ⟨g, rfl, hg, hb3⟩; (have hE_w3 : Ext (wr.alloc (.cells #[.int .u8 k1, .int .u32 ao1, .int .u32 av1, .int .u8 old1, .slice ba1 b1.length bc1, .slice aa1 a1.length ac1, .slice ra1 r1.length rc1, .int .u8 fl1] 73)) w3 := (by (repeat (with_reducible (first | exact Ext.refl _ | assumption | exact held_left (by assumption) | apply Ext.drewN | apply Ext.drew | apply Ext.alloc | (refine Ext.setCell ?_ (by first | (simp; done) | (simp; omega) | omega) _) | (refine Ext.trans ?_ (by assumption)) | (refine Ext.trans ?_ (held_left (by assumption))))))); obtain ⟨hc_w3, hf_w3⟩ := hE_w3.cells; have hz_w3 := hE_w3.size); have HGA := Hid.mk' hg; clear hg; cases g))
            all_goals first
              | (go_ret; exact ⟨true, rfl, (fun h => by cases h), HEr.out.trans (by (repeat (with_reducible (first | exact Ext.refl _ | assumption | exact held_left (by assumption) | apply Ext.drewN | apply Ext.drew | apply Ext.alloc | (refine Ext.setCell ?_ (by first | (simp; done) | (simp; omega) | omega) _) | (refine Ext.trans ?_ (by assumption)) | (refine Ext.trans ?_ (held_left (by assumption)))))))⟩)
              | skip
            have HXL : Hid (es[n].e.lit) := Hid.mk' (by
              rw [← HXX.out]
              have hb := HGB.out (by first | exact rfl | exact trivial)
              have ha := HGA.out (by first | exact rfl | exact trivial)
              exact ⟨hb.2.2.1, ha.2.2.1, by show r1.length ≤ 30; omega, hb.1, ha.1⟩)
            go_roundg (es.length - (n + 1))
            case measure => omega
            case rel => exact ⟨n + 1, by omega, by go_num, Hid.mk' (fun j hj hjn => by
              by_cases e : j = n
              · subst e; exact HXL.out
              · exact hL.out j hj (by omega)), Hid.mk' (hE.out.trans (by (repeat (with_reducible (first | exact Ext.refl _ | assumption | exact held_left (by assumption) | apply Ext.drewN | apply Ext.drew | apply Ext.alloc | (refine Ext.setCell ?_ (by first | (simp; done) | (simp; omega) | omega) _) | (refine Ext.trans ?_ (by assumption)) | (refine Ext.trans ?_ (held_left (by assumption))))))))⟩
          · go_wp2
            go_roundg (ts.length - (k + 1))
            case measure => omega
            case rel => exact ⟨X, k + 1, by omega, by go_num, rfl, Hid.mk' (HNX.out (fun h => by omega)), HEr⟩
        · obtain rfl : n = es.length := by omega
          have HNX2 := Hid.mk' (HNX.out (fun _ e he => by
            obtain ⟨j, hj, rfl⟩ := List.getElem_of_mem he
            exact hL.out j hj hj))
          go_wp2
          go_roundg (ts.length - (k + 1))
          case measure => omega
          case rel => exact ⟨X, k + 1, by omega, by go_num, rfl, HNX2, HEr⟩
    · obtain rfl : k = ts.length := by omega
      obtain ⟨wo, hwo⟩ : ∃ x, x = wr := ⟨_, rfl⟩
      subst hwo
      go_wp2
      go_loopg [9] ps.length (fun z i wr => ∃ (n : Nat), z + n = ps.length ∧ i = .int .i64 n ∧ Hid (∀ j (h : j < ps.length), j < n → ps[j].r.cols.length ≤ 20) ∧ Hid (Ext wo wr))
      case atStart => exact ⟨0, by omega, rfl, Hid.mk' (fun j _ h => by omega), Hid.mk' (Ext.refl _)⟩
      case round =>
        obtain ⟨n, hzn, rfl, hL, hF⟩ := hrel
        by_cases hlt2 : n < ps.length
        · obtain ⟨b, o, rfl, hb, hx⟩ := HP.out.row.at_ (i := n) (by simpa using hlt2)
          obtain ⟨f0, f1, f2, f3, f4⟩ := RR.at_ hlt2 hx hb (hE.out.trans hF.out)
          have hbw : b < wr.heap.size := Nat.lt_of_lt_of_le hb (hE.out.trans hF.out).size
          have HPM := Hid.mk' (List.getElem_mem hlt2)
          obtain ⟨p, hp⟩ : ∃ p, p = ps[n] := ⟨_, rfl⟩
          rw [← hp] at f0 f1 f2 f3 f4 HPM
          have HPP := Hid.mk' hp
          have HGP := Hid.mk' (fun W (h : Ext w W) => HGR.out W p h HPM.out)
          unfold RR.agg at HGP
          clear hp hx
          go_wp2_with (go_at_call 60; refine (HGP.out _ (hE.out.trans hF.out)).mono ?_; rintro e w2 ⟨g, rfl, hg, hb2⟩; have HGB := Hid.mk' hg; clear hg; cases g)
          all_goals first
            | (go_ret; exact ⟨true, rfl, (fun h => by cases h), (hE.out.trans hF.out).trans (by (repeat (with_reducible (first | exact Ext.refl _ | assumption | exact held_left (by assumption) | apply Ext.drewN | apply Ext.drew | apply Ext.alloc | (refine Ext.setCell ?_ (by first | (simp; done) | (simp; omega) | omega) _) | (refine Ext.trans ?_ (by assumption)) | (refine Ext.trans ?_ (held_left (by assumption)))))))⟩)
            | skip
          go_roundg (ps.length - (n + 1))
          case measure => omega
          case rel => exact ⟨n + 1, by omega, by go_num, Hid.mk' (fun j hj hjn => by
            by_cases e : j = n
            · subst e; rw [← HPP.out]; exact (HGB.out (by first | exact rfl | exact trivial)).2.2.2.1
            · exact hL.out j hj (by omega)), Hid.mk' (hF.out.trans (by (repeat (with_reducible (first | exact Ext.refl _ | assumption | exact held_left (by assumption) | apply Ext.drewN | apply Ext.drew | apply Ext.alloc | (refine Ext.setCell ?_ (by first | (simp; done) | (simp; omega) | omega) _) | (refine Ext.trans ?_ (by assumption)) | (refine Ext.trans ?_ (held_left (by assumption))))))))⟩
        · obtain rfl : n = ps.length := by omega
          by_cases h6 : 600 < m
          · go_wp2
            go_ret
            exact ⟨true, rfl, (fun h => by cases h), hE.out.trans hF.out⟩
          by_cases h60 : 60 < ts.length
          · go_wp2
            go_ret
            exact ⟨true, ret_bool (by first | (simp; done) | (simp; omega)), (fun h => by cases h), hE.out.trans hF.out⟩
          by_cases h70 : 70 < ps.length
          · go_wp2
            go_ret
            exact ⟨true, ret_bool (by first | (simp; done) | (simp; omega)), (fun h => by cases h), hE.out.trans hF.out⟩
          have HLIT : Hid (Lit ps ts) := Hid.mk' (by
            have e1 := hG.out.mm (by omega)
            have e2 := hG.out.e (by omega) (by omega)
            refine ⟨by omega, by omega, by omega, fun t ht e he => ?_, fun p hp => ?_⟩
            · obtain ⟨j, hj, rfl⟩ := List.getElem_of_mem ht
              exact e2 j hj hj e he
            · obtain ⟨j, hj, rfl⟩ := List.getElem_of_mem hp
              exact hL.out j hj hj)
          go_wp2
          go_ret
          exact ⟨false, ret_bool (by first | (simp; done) | (simp; omega)), fun _ => HLIT.out, hE.out.trans hF.out⟩

end Go.Proofs.Ythdjinicmnhgpaa

/-
The laws' Own of an event.
-/
namespace Go.Proofs.Ythdjinicmnhgpaa
open Go.RowKit

theorem Try.infoRfE : (Try.prog.info? 33).map (fun i => (i.zero, i.size, i.bytes)) = some (some (.agg #[.int .u32 0, .int .u32 0]), 2, 8) := by kernel_rfl

set_option maxRecDepth 100000 in set_option maxHeartbeats 4000000 in
theorem eown_any (kind ao av old : Int) (lb la : List K) (rs : List Rf) (fl : Int) (ba aa ra : Option Addr) (bc ac rc : Nat) (w : World) (hb : Sl w (.slice ba lb.length bc) 6 (lb.map K.rc)) (ha : Sl w (.slice aa la.length ac) 6 (la.map K.rc)) (hr : Sl w (.slice ra rs.length rc) 2 (rs.map Rf.cells)) (hnb : lb.length ≤ 1000) (hna : la.length ≤ 1000) (hnr : rs.length ≤ 1000) :
    Calls Try.prog 34 #[.agg #[.int .u8 kind, .int .u32 ao, .int .u32 av, .int .u8 old, .slice ba lb.length bc, .slice aa la.length ac, .slice ra rs.length rc, .int .u8 fl]] w fun e w' => ∃ b1 c1 a1 d1 r1 e1, e = .returned (.agg #[.int .u8 kind, .int .u32 ao, .int .u32 av, .int .u8 old, .slice b1 lb.length c1, .slice a1 la.length d1, .slice r1 rs.length e1, .int .u8 fl]) ∧ (⟨⟨kind, ao, av, old, lb, la, rs, fl⟩, b1, c1, a1, d1, r1, e1⟩ : EL).at 5 K.pc w' ∧ (⟨⟨kind, ao, av, old, lb, la, rs, fl⟩, b1, c1, a1, d1, r1, e1⟩ : EL).on (fun b => w.heap.size ≤ b) ∧ Ext w w' := by
  obtain ⟨i0, hi, hz0, hz1, hz2⟩ := info_parts Try.infoRfE
  have HOB := Hid.mk' (fun W (h : Ext w W) => ownK_fr lb ba bc W (hb.ext h) hnb)
  have HOA := Hid.mk' (fun W (h : Ext w W) => ownK_fr la aa ac W (ha.ext h) hna)
  have HR := Hid.mk' hr
  clear hb ha hr
  go_enter Try.func34, Try.ntmps34
  go_upto_region 1 with (fail)
  go_cut [3] (fun p wx => ∃ X b1 c1 a1 d1, p = .pointer (some ⟨X, 0, none⟩) ∧ Hid (Blk wx X #[.int .u8 kind, .int .u32 ao, .int .u32 av, .int .u8 old, .slice b1 lb.length c1, .slice a1 la.length d1, .slice none 0 0, .int .u8 fl] 83) ∧ Hid (Sl wx (.slice b1 lb.length c1) 5 (lb.map K.pc)) ∧ Hid (Sl wx (.slice a1 la.length d1) 5 (la.map K.pc)) ∧ Hid (lb.map K.pc ≠ [] → ∀ b o, b1 = some ⟨b, o, none⟩ → b ≠ X ∧ w.heap.size + 1 < b) ∧ Hid (la.map K.pc ≠ [] → ∀ b o, a1 = some ⟨b, o, none⟩ → b ≠ X ∧ w.heap.size + 1 < b) ∧ Hid (w.heap.size + 1 < X) ∧ Hid (Ext ((w.alloc (.cells #[.int .u8 kind, .int .u32 ao, .int .u32 av, .int .u8 old, .slice ba lb.length bc, .slice aa la.length ac, .slice ra rs.length rc, .int .u8 fl] 73)).alloc (.cells #[.int .u8 0, .int .u32 0, .int .u32 0, .int .u8 0, .slice none 0 0, .slice none 0 0, .slice none 0 0, .int .u8 0] 83)) wx))
  case first =>
    go_region_held3 (fun w' => Ext (((w.alloc (.cells #[.int .u8 kind, .int .u32 ao, .int .u32 av, .int .u8 old, .slice ba lb.length bc, .slice aa la.length ac, .slice ra rs.length rc, .int .u8 fl] 73)).alloc (.cells #[.int .u8 0, .int .u32 0, .int .u32 0, .int .u8 0, .slice none 0 0, .slice none 0 0, .slice none 0 0, .int .u8 0] 83))) w' ∧ (∀ b o, b < (((w.alloc (.cells #[.int .u8 kind, .int .u32 ao, .int .u32 av, .int .u8 old, .slice ba lb.length bc, .slice aa la.length ac, .slice ra rs.length rc, .int .u8 fl] 73)).alloc (.cells #[.int .u8 0, .int .u32 0, .int .u32 0, .int .u8 0, .slice none 0 0, .slice none 0 0, .slice none 0 0, .int .u8 0] 83))).heap.size → w'.cell? ⟨b, o, none⟩ = (((w.alloc (.cells #[.int .u8 kind, .int .u32 ao, .int .u32 av, .int .u8 old, .slice ba lb.length bc, .slice aa la.length ac, .slice ra rs.length rc, .int .u8 fl] 73)).alloc (.cells #[.int .u8 0, .int .u32 0, .int .u32 0, .int .u8 0, .slice none 0 0, .slice none 0 0, .slice none 0 0, .int .u8 0] 83))).cell? ⟨b, o, none⟩) ∧ (∀ b o, b < (((w.alloc (.cells #[.int .u8 kind, .int .u32 ao, .int .u32 av, .int .u8 old, .slice ba lb.length bc, .slice aa la.length ac, .slice ra rs.length rc, .int .u8 fl] 73)).alloc (.cells #[.int .u8 0, .int .u32 0, .int .u32 0, .int .u8 0, .slice none 0 0, .slice none 0 0, .slice none 0 0, .int .u8 0] 83))).heap.size → w'.frozen? ⟨b, o, none⟩ = (((w.alloc (.cells #[.int .u8 kind, .int .u32 ao, .int .u32 av, .int .u8 old, .slice ba lb.length bc, .slice aa la.length ac, .slice ra rs.length rc, .int .u8 fl] 73)).alloc (.cells #[.int .u8 0, .int .u32 0, .int .u32 0, .int .u8 0, .slice none 0 0, .slice none 0 0, .slice none 0 0, .int .u8 0] 83))).frozen? ⟨b, o, none⟩)) ((exact held_of (by (repeat (with_reducible (first | exact Ext.refl _ | assumption | exact held_left (by assumption) | apply Ext.drewN | apply Ext.drew | apply Ext.alloc | (refine Ext.setCell ?_ (by first | (simp; done) | (simp; omega) | omega) _) | (refine Ext.trans ?_ (by assumption)) | (refine Ext.trans ?_ (held_left (by assumption)))))))))
      (first
        | (go_at_call 21; refine (ref9_any _ _ _).mono ?_; rintro e w2 ⟨rfl, hb2⟩; obtain ⟨hc2, hf2⟩ := hb2.cells; have hz2 := hb2.size; (try simp at hz2); have q2 : w.heap.size + 1 < w2.heap.size := (by omega); (try have p2 : w.heap.size + 1 + 1 < w2.heap.size := (by omega)))
        | (go_at_call_of 61 (Value.slice ba lb.length bc); refine (HOB.out _ (by (repeat (with_reducible (first | exact Ext.refl _ | assumption | exact held_left (by assumption) | apply Ext.drewN | apply Ext.drew | apply Ext.alloc | (refine Ext.setCell ?_ (by first | (simp; done) | (simp; omega) | omega) _) | (refine Ext.trans ?_ (by assumption)) | (refine Ext.trans ?_ (held_left (by assumption)))))))).mono ?_; rintro e w3 ⟨b1, c1, rfl, -, hs3, hb3⟩; have H3 := Hid.mk' hs3; clear hs3; obtain ⟨hc3, hf3⟩ := hb3.cells; have hz3 := hb3.size; (try simp at hz3); have q3 : w.heap.size + 1 < w3.heap.size := (by omega); (try have q23 : w2.heap.size < w3.heap.size := (by omega)); (try have p3 : w.heap.size + 1 + 1 < w3.heap.size := (by omega)))
        | (go_at_call_of 61 (Value.slice aa la.length ac); refine (HOA.out _ (by (repeat (with_reducible (first | exact Ext.refl _ | assumption | exact held_left (by assumption) | apply Ext.drewN | apply Ext.drew | apply Ext.alloc | (refine Ext.setCell ?_ (by first | (simp; done) | (simp; omega) | omega) _) | (refine Ext.trans ?_ (by assumption)) | (refine Ext.trans ?_ (held_left (by assumption)))))))).mono ?_; rintro e w4 ⟨a1, d1, rfl, -, hs4, hb4⟩; have H4 := Hid.mk' hs4; clear hs4; obtain ⟨hc4, hf4⟩ := hb4.cells; have hz4 := hb4.size; (try simp at hz4); have q4 : w.heap.size + 1 < w4.heap.size := (by omega); (try have p4 : w.heap.size + 1 + 1 < w4.heap.size := (by omega)); (try have q24 : w2.heap.size < w4.heap.size := (by omega)); (try have q35 : w3.heap.size < w4.heap.size := (by omega))))
    all_goals
      go_wp2
      go_meet
      case rel =>
        refine ⟨_, b1, c1, a1, d1, rfl, Hid.mk' ?_, Hid.mk' ?_, Hid.mk' ?_, Hid.mk' ?_, Hid.mk' ?_, Hid.mk' ?_, Hid.mk' ?_⟩
        · repeat (with_reducible (first | exact Blk.new _ _ _ | (refine Blk.new' _ _ ?_; (simp; done)) | apply Blk.eight | refine Blk.alloc ?_ _ | refine Blk.drew ?_ | refine Blk.ext ?_ hb4 | refine Blk.ext ?_ hb3 | refine Blk.ext ?_ hb2))
        · first | ((with_reducible refine Fr.sl (Fr.eight (Fr.ext H3.out ?_) ?_)); (· (repeat (with_reducible (first | exact Ext.refl _ | assumption | exact held_left (by assumption) | apply Ext.drewN | apply Ext.drew | apply Ext.alloc | (refine Ext.setCell ?_ (by first | (simp; done) | (simp; omega) | omega) _) | (refine Ext.trans ?_ (by assumption)) | (refine Ext.trans ?_ (held_left (by assumption))))))); (· first | (simp; done) | (simp; omega) | omega | (left; simp; done) | (left; simp; omega) | (right; simp; done) | (right; simp; omega))) | ((with_reducible refine Fr.sl (Fr.ext H3.out ?_)); · (repeat (with_reducible (first | exact Ext.refl _ | assumption | exact held_left (by assumption) | apply Ext.drewN | apply Ext.drew | apply Ext.alloc | (refine Ext.setCell ?_ (by first | (simp; done) | (simp; omega) | omega) _) | (refine Ext.trans ?_ (by assumption)) | (refine Ext.trans ?_ (held_left (by assumption)))))))
        · first | ((with_reducible refine Fr.sl (Fr.eight (Fr.ext H4.out ?_) ?_)); (· (repeat (with_reducible (first | exact Ext.refl _ | assumption | exact held_left (by assumption) | apply Ext.drewN | apply Ext.drew | apply Ext.alloc | (refine Ext.setCell ?_ (by first | (simp; done) | (simp; omega) | omega) _) | (refine Ext.trans ?_ (by assumption)) | (refine Ext.trans ?_ (held_left (by assumption))))))); (· first | (simp; done) | (simp; omega) | omega | (left; simp; done) | (left; simp; omega) | (right; simp; done) | (right; simp; omega))) | ((with_reducible refine Fr.sl (Fr.ext H4.out ?_)); · (repeat (with_reducible (first | exact Ext.refl _ | assumption | exact held_left (by assumption) | apply Ext.drewN | apply Ext.drew | apply Ext.alloc | (refine Ext.setCell ?_ (by first | (simp; done) | (simp; omega) | omega) _) | (refine Ext.trans ?_ (by assumption)) | (refine Ext.trans ?_ (held_left (by assumption)))))))
        · refine fun h0 => Fr.ne2 H3.out ?_ ?_ h0; (· first | (simp; done) | (simp; omega) | omega | (left; simp; done) | (left; simp; omega) | (right; simp; done) | (right; simp; omega)); (· first | omega | (simp; omega) | simp)
        · refine fun h0 => Fr.ne2 H4.out ?_ ?_ h0; (· first | (simp; done) | (simp; omega) | omega | (left; simp; done) | (left; simp; omega) | (right; simp; done) | (right; simp; omega)); (· first | omega | (simp; omega) | simp)
        · first | omega | (simp; omega) | simp
        · first | (repeat (with_reducible (first | exact Ext.refl _ | assumption | exact held_left (by assumption) | apply Ext.drewN | apply Ext.drew | apply Ext.alloc | (refine Ext.setCell ?_ (by first | (simp; done) | (simp; omega) | omega) _) | (refine Ext.trans ?_ (by assumption)) | (refine Ext.trans ?_ (held_left (by assumption)))))) | (repeat (with_reducible refine Ext.setCell ?_ (by first | (simp; done) | (simp; omega) | omega) _); (repeat (with_reducible (first | exact Ext.refl _ | assumption | exact held_left (by assumption) | apply Ext.drewN | apply Ext.drew | apply Ext.alloc | (refine Ext.setCell ?_ (by first | (simp; done) | (simp; omega) | omega) _) | (refine Ext.trans ?_ (by assumption)) | (refine Ext.trans ?_ (held_left (by assumption)))))))
  case rest =>
    obtain ⟨X, b1, c1, a1, d1, rfl, HX, HSB, HSA, HNB, HNA, HWX, HE⟩ := hcut
    have HEc := Hid.mk' (show Ext w wc from (((Ext.refl w).alloc _).alloc _).trans HE.out)
    have HB1 := Hid.mk' (((Blk.new w #[.int .u8 kind, .int .u32 ao, .int .u32 av, .int .u8 old, .slice ba lb.length bc, .slice aa la.length ac, .slice ra rs.length rc, .int .u8 fl] 73).alloc (.cells #[.int .u8 0, .int .u32 0, .int .u32 0, .int .u8 0, .slice none 0 0, .slice none 0 0, .slice none 0 0, .int .u8 0] 83)).ext HE.out)
    have HB2 := Hid.mk' ((Blk.new' (w := w.alloc (.cells #[.int .u8 kind, .int .u32 ao, .int .u32 av, .int .u8 old, .slice ba lb.length bc, .slice aa la.length ac, .slice ra rs.length rc, .int .u8 fl] 73)) (b := w.heap.size + 1) #[.int .u8 0, .int .u32 0, .int .u32 0, .int .u8 0, .slice none 0 0, .slice none 0 0, .slice none 0 0, .int .u8 0] 83 (by simp)).ext HE.out)
    clear HOB HOA
    have hzX : X < wc.heap.size := HX.out.lt
    have hzw : w.heap.size < X := by have := HWX.out; omega
    have HZX := Hid.mk' (And.intro hzX hzw)
    clear HE
    go_wp2
    go_loopw [4] (fun i wr => ∃ (k : Nat) (va : Option Addr) (vc : Nat), k ≤ rs.length ∧ i = .int .i64 k ∧ Hid (Blk wr X #[.int .u8 kind, .int .u32 ao, .int .u32 av, .int .u8 old, .slice b1 lb.length c1, .slice a1 la.length d1, .slice va k vc, .int .u8 fl] 83) ∧ Hid (wr.ownsRow wc.heap.size 33 2 (.slice va k vc) k ((rs.take k).map Rf.cells).flatten) ∧ Hid (Kp (fun x => x = X) wc wr)) (fun i _ => rs.length - (intOf i).toNat)
    case atStart => exact ⟨0, none, 0, Nat.zero_le _, rfl, HX, Hid.mk' (World.ownsRow_nil _ _ _ _), Hid.mk' Kp.refl⟩
    case round =>
      obtain ⟨k, va, vc, hk, rfl, hX, hown, hK⟩ := hrel
      have HEW : Hid (Ext w wr) := Hid.mk' (Kp.ext HEc.out (fun x hx _ => by have := HZX.out.2; omega) hK.out)
      have HG1 : Hid (Blk wr w.heap.size #[.int .u8 kind, .int .u32 ao, .int .u32 av, .int .u8 old, .slice ba lb.length bc, .slice aa la.length ac, .slice ra rs.length rc, .int .u8 fl] 73) := Hid.mk' (HB1.out.kp hK.out (by have := HZX.out.2; omega))
      have g1 := HG1.out.cell
      have z1 := HG1.out.lt
      have gX := hX.out.cell
      have gXf := hX.out.frozen
      have zX := hX.out.lt
      have hzc := hK.out.size
      by_cases hlt : k < rs.length
      · obtain ⟨b, o, rfl, hb, hx⟩ := HR.out.at_ (i := k) (by simpa using hlt)
        have HF := Hid.mk' (fun W (h : Ext w W) => Rf.at_ hlt hx hb h)
        have HT : Hid (rs.take (k + 1) = rs.take k ++ [rs[k]]) := Hid.mk' (List.take_succ_eq_append_getElem hlt)
        obtain ⟨r, hr⟩ : ∃ r, r = rs[k] := ⟨_, rfl⟩
        rw [← hr] at HF HT
        have HLT : Hid (k < rs.length) := Hid.mk' hlt
        have HBW : Hid (b < w.heap.size) := Hid.mk' hb
        clear hx hr hb
        have HS : Hid (∀ w', Kp (fun x => wc.heap.size ≤ x) wr w' → (∀ j, w'.cell? ⟨w.heap.size, j, none⟩ = (#[.int .u8 kind, .int .u32 ao, .int .u32 av, .int .u8 old, .slice ba lb.length bc, .slice aa la.length ac, .slice (some ⟨b, o, none⟩) rs.length rc, .int .u8 fl])[j]?) ∧ (∀ j, w'.cell? ⟨X, j, none⟩ = (#[.int .u8 kind, .int .u32 ao, .int .u32 av, .int .u8 old, .slice b1 lb.length c1, .slice a1 la.length d1, .slice va k vc, .int .u8 fl])[j]?) ∧ (∀ j, w'.frozen? ⟨X, j, none⟩ = false) ∧ w'.cell? ⟨b, o + k * 2, none⟩ = some (.int .u32 r.o) ∧ w'.cell? ⟨b, o + k * 2 + 1, none⟩ = some (.int .u32 r.v) ∧ b < w'.heap.size ∧ X < w'.heap.size ∧ w.heap.size < w'.heap.size) := Hid.mk' (fun w' h => by
          have hE : Ext w w' := Kp.ext HEc.out (S := fun x => x = X ∨ wc.heap.size ≤ x) (fun x hx _ => by have := HZX.out; omega) ((hK.out.mono (T := fun x => x = X ∨ wc.heap.size ≤ x) (fun x hx _ => .inl hx)).trans h (fun x hx _ => .inr hx))
          have h1 := HG1.out.kp h (by have := HZX.out; omega)
          have h2 := hX.out.kp h (by have := HZX.out; omega)
          obtain ⟨f0, f1⟩ := HF.out w' hE
          exact ⟨h1.cell, h2.cell, h2.frozen, f0, f1, Nat.lt_of_lt_of_le HBW.out hE.size, h2.lt, h1.lt⟩)
        have HOWN := hown
        go_wp2
        clear g1 gX gXf
        have hA0 : Hid ((fun w' => (∀ j, w'.cell? ⟨w.heap.size, j, none⟩ = (#[.int .u8 kind, .int .u32 ao, .int .u32 av, .int .u8 old, .slice ba lb.length bc, .slice aa la.length ac, .slice (some ⟨b, o, none⟩) rs.length rc, .int .u8 fl])[j]?) ∧ (∀ j, w'.cell? ⟨X, j, none⟩ = (#[.int .u8 kind, .int .u32 ao, .int .u32 av, .int .u8 old, .slice b1 lb.length c1, .slice a1 la.length d1, .slice va k vc, .int .u8 fl])[j]?) ∧ (∀ j, w'.frozen? ⟨X, j, none⟩ = false) ∧ w'.cell? ⟨b, o + k * 2, none⟩ = some (.int .u32 r.o) ∧ w'.cell? ⟨b, o + k * 2 + 1, none⟩ = some (.int .u32 r.v) ∧ b < w'.heap.size ∧ X < w'.heap.size ∧ w.heap.size < w'.heap.size) wr.drew) := Hid.mk' (HS.out _ (Kp.of_ext (Ext.refl wr).drew))
        refine wp_region_head 10 (fun w' => (∀ j, w'.cell? ⟨w.heap.size, j, none⟩ = (#[.int .u8 kind, .int .u32 ao, .int .u32 av, .int .u8 old, .slice ba lb.length bc, .slice aa la.length ac, .slice (some ⟨b, o, none⟩) rs.length rc, .int .u8 fl])[j]?) ∧ (∀ j, w'.cell? ⟨X, j, none⟩ = (#[.int .u8 kind, .int .u32 ao, .int .u32 av, .int .u8 old, .slice b1 lb.length c1, .slice a1 la.length d1, .slice va k vc, .int .u8 fl])[j]?) ∧ (∀ j, w'.frozen? ⟨X, j, none⟩ = false) ∧ w'.cell? ⟨b, o + k * 2, none⟩ = some (.int .u32 r.o) ∧ w'.cell? ⟨b, o + k * 2 + 1, none⟩ = some (.int .u32 r.v) ∧ b < w'.heap.size ∧ X < w'.heap.size ∧ w.heap.size < w'.heap.size) (by kernel_rfl) (by decide) ?_
        (refine wpHd_take (i := 0) (v := ?_) rfl (by kernel_rfl) (by kernel_rfl) (by kernel_rfl) (fun _ _ _ h => h) (Or.inl ⟨by rfl, ?_⟩) hA0.out ?_; rotate_left 1; · (intro w' hS'; (try dsimp only at hS'); go_split_ands; go_simp; try with_reducible rfl))
        (refine wpHd_take (i := 1) (v := ?_) rfl (by kernel_rfl) (by kernel_rfl) (by kernel_rfl) (fun _ _ _ h => h) (Or.inl ⟨by rfl, ?_⟩) hA0.out ?_; rotate_left 1; · (intro w' hS'; (try dsimp only at hS'); go_split_ands; go_simp; try with_reducible rfl))
        (refine wpHd_take (i := 2) (v := ?_) rfl (by kernel_rfl) (by kernel_rfl) (by kernel_rfl) (fun _ _ _ h => h) (Or.inl ⟨by rfl, ?_⟩) hA0.out ?_; rotate_left 1; · (intro w' hS'; (try dsimp only at hS'); go_split_ands; go_simp; try with_reducible rfl))
        (refine wpHd_take (i := 3) (v := ?_) rfl (by kernel_rfl) (by kernel_rfl) (by kernel_rfl) (fun _ _ _ h => h) (Or.inl ⟨by rfl, ?_⟩) hA0.out ?_; rotate_left 1; · (intro w' hS'; (try dsimp only at hS'); go_split_ands; go_simp; try with_reducible rfl))
        (refine wpHd_take (i := 4) (v := ?_) rfl (by kernel_rfl) (by kernel_rfl) (by kernel_rfl) (fun _ _ _ h => h) (Or.inl ⟨by rfl, ?_⟩) hA0.out ?_; rotate_left 1; · (intro w' hS'; (try dsimp only at hS'); go_split_ands; go_simp; try with_reducible rfl))
        (refine wpHd_take (i := 5) (v := ?_) rfl (by kernel_rfl) (by kernel_rfl) (by kernel_rfl) (fun _ _ _ h => h) (Or.inl ⟨by rfl, ?_⟩) hA0.out ?_; rotate_left 1; · (intro w' hS'; (try dsimp only at hS'); go_split_ands; go_simp; try with_reducible rfl))
        (refine wpHd_take (i := 6) (v := ?_) rfl (by kernel_rfl) (by kernel_rfl) (by kernel_rfl) (fun _ _ _ h => h) (Or.inl ⟨by rfl, ?_⟩) hA0.out ?_; rotate_left 1; · (intro w' hS'; (try dsimp only at hS'); go_split_ands; go_simp; try with_reducible rfl))
        refine wpHd_one (i := 7) rfl rfl (by kernel_rfl) (fun K hK => ?_)
        go_simp
        refine (ref9_any _ _ _).mono ?_
        rintro e w7 ⟨rfl, hb7⟩
        have HB7 : Hid (Ext wr w7) := Hid.mk' ((Ext.refl wr).drew.trans hb7)
        refine hK.out _ _ (HS.out _ (Kp.of_ext HB7.out)) (fun hA => ?_)
        clear hK K hA hA0 hb7
        refine wpHd_one (i := 8) rfl rfl (by kernel_rfl) (fun K hK => ?_)
        go_simp
        refine hK.out _ _ (HS.out _ (Kp.of_ext (HB7.out.alloc _))) (fun hA => ?_)
        clear hK K hA
        refine wpHd_one (i := 9) rfl rfl (by kernel_rfl) (fun K hK => ?_)
        refine wp_append_lies _ _ _ 65 (by rfl) wc.heap.size 33 i0 _ 2 8 Try.underlying65 hi hz0 hz1 hz2 rfl (by decide) (.slice va k vc) k _ (by rfl) (owns_ext HOWN.out (HB7.out.alloc _)) ⟨_, 0, none⟩ 1 1 r.cells (by rfl) rfl (cells_new _ #[.int .u32 r.o, .int .u32 r.v] _) (by intro u hu; simp [Rf.cells] at hu; rcases hu with rfl | rfl <;> rfl) (by decide) (by unfold maxLen; omega) (by omega) (by have := HB7.out.size; simp; omega) _ rfl ?_
        intro g4 cap4 w4 hown4 hgrow4 hat4 hlt4
        have HO4 := Hid.mk' hown4
        have HKG : Hid (Kp (fun x => wc.heap.size ≤ x) wr w4) := Hid.mk' ((Kp.of_ext (S := fun x => wc.heap.size ≤ x) (HB7.out.alloc _)).trans (Kp.of_grown hgrow4) (fun x hx _ => (HOWN.out.lt x hx).1))
        refine hK.out _ _ (HS.out _ HKG.out) (fun hA => ?_)
        clear hK K hA hown4 hgrow4 hat4 hlt4
        have hX4 : Hid (Blk w4 X #[.int .u8 kind, .int .u32 ao, .int .u32 av, .int .u8 old, .slice b1 lb.length c1, .slice a1 la.length d1, .slice va k vc, .int .u8 fl] 83) := Hid.mk' (hX.out.kp HKG.out (by have := HZX.out; omega))
        have gX := hX4.out.cell
        have gXf := hX4.out.frozen
        have zX := hX4.out.lt
        refine wpHd_tail (by kernel_rfl) ?_
        simp only [List.drop_succ_cons, List.drop_zero]
        go_wp2
        go_roundw
        case rel =>
          refine ⟨k + 1, some ⟨g4, 0, none⟩, cap4, by have := HLT.out; omega, by go_num, Hid.mk' ?_, Hid.mk' ?_, Hid.mk' ?_⟩
          · have := hX4.out.set 6 (.slice (some ⟨g4, 0, none⟩) (k + 1) cap4)
            simpa only [List.setIfInBounds_toArray, List.set_cons_zero, List.set_cons_succ] using this
          · rw [HT.out, List.map_append, List.flatten_append]
            exact owns_set (by simpa using HO4.out) (by show X < _; have := HZX.out; omega) _
          · exact ((hK.out.mono (T := fun x => x = X) (fun x hx _ => hx)).trans (HKG.out) (fun x hx h => by omega)).trans (T := fun x => x = X) (Kp.set _ _ rfl) (fun x hx _ => hx)
        case measure => have := HLT.out; simp [intOf]; omega
      · obtain rfl : k = rs.length := by omega
        rw [List.take_length] at hown
        have HB2r : Hid (Blk wr (w.heap.size + 1) #[.int .u8 0, .int .u32 0, .int .u32 0, .int .u8 0, .slice none 0 0, .slice none 0 0, .slice none 0 0, .int .u8 0] 83) := Hid.mk' (HB2.out.kp hK.out (by have := HWX.out; omega))
        have k2 := HB2r.out.cell
        have k2f := HB2r.out.frozen
        have z2 := HB2r.out.lt
        go_wp2
        simp [bodyPost, results, Try.results34, go_sem, *]
        have hwr := HZX.out
        have hw2 := HWX.out
        have hSB : Sl wr (.slice b1 lb.length c1) 5 (lb.map K.pc) := Sl.kp HSB.out hK.out (fun h0 b o e => (HNB.out h0 b o e).1)
        have hSA : Sl wr (.slice a1 la.length d1) 5 (la.map K.pc) := Sl.kp HSA.out hK.out (fun h0 b o e => (HNA.out h0 b o e).1)
        have hSR : Sl wr (.slice va rs.length vc) 2 (rs.map Rf.cells) := Sl.of_owns (base := wc.heap.size) (e := 33) (by rw [List.length_map]; exact hown.out) (by intro xs hxs; simp at hxs; obtain ⟨_, _, rfl⟩ := hxs; rfl)
        refine ⟨b1, c1, a1, d1, va, vc, ⟨⟨rfl, rfl⟩, ⟨rfl, rfl⟩, rfl, rfl⟩, ⟨Sl.kp hSB Kp.eight (fun h0 b o e => by have := (HNB.out h0 b o e).2; omega), Sl.kp hSA Kp.eight (fun h0 b o e => by have := (HNA.out h0 b o e).2; omega), Sl.kp hSR Kp.eight (fun h0 b o e => by have := hown.out.lt b (by rw [show va = some ⟨b, o, none⟩ from e]; rfl); omega)⟩, ⟨fun h0 b o e => by have := (HNB.out (fun q => h0 (by simpa using q)) b o e).2; omega, fun h0 b o e => by have := (HNA.out (fun q => h0 (by simpa using q)) b o e).2; omega, fun h0 b o e => by have := hown.out.lt b (by rw [show va = some ⟨b, o, none⟩ from e]; rfl); omega⟩, Kp.ext HEW.out (fun x hx _ => by omega) Kp.eight⟩

theorem eown_el (x : EL) (w : World) (hx : x.at 6 K.rc w) (hnb : x.e.b.length ≤ 1000) (hna : x.e.a.length ≤ 1000) (hnr : x.e.rs.length ≤ 1000) :
    Calls Try.prog 34 #[x.agg] w fun e w' => ∃ y : EL, e = .returned y.agg ∧ y.e = x.e ∧ y.at 5 K.pc w' ∧ y.on (fun b => w.heap.size ≤ b) ∧ Ext w w' := by
  obtain ⟨⟨kind, ao, av, old, lb, la, rs, fl⟩, ba, bc, aa, ac, ra, rc⟩ := x
  refine (eown_any kind ao av old lb la rs fl ba aa ra bc ac rc w hx.b hx.a hx.r hnb hna hnr).mono fun e w' h => ?_
  obtain ⟨b1, c1, a1, d1, r1, e1, h1, h2, h3, h4⟩ := h
  exact ⟨⟨⟨kind, ao, av, old, lb, la, rs, fl⟩, b1, c1, a1, d1, r1, e1⟩, h1, rfl, h2, h3, h4⟩

end Go.Proofs.Ythdjinicmnhgpaa
