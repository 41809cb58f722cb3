/-
The walk of CatalogRuns.
-/
import Derived.Test.YthdjinicmnhgpaaP8
namespace Go.Proofs.Ythdjinicmnhgpaa
open Go.RowKit

theorem Try.infoRf9 : (Try.prog.info? 33).map (fun i => (i.zero, i.size, i.bytes)) = some (some (.agg #[.int .u32 0, .int .u32 0]), 2, 8) := by kernel_rfl
theorem RL.kp2 {S : Nat → Prop} {w w' : World} {x : Option Addr} {n c : Nat} {ps : List RR} (h : RL w (.slice x n c) ps) (hk : Kp S w w') (hs : ps ≠ [] → ∀ b o, x = some ⟨b, o, none⟩ → ¬ S b) (hp : ∀ p ∈ ps, p.r.cols ≠ [] → ∀ b o, p.a = some ⟨b, o, none⟩ → ¬ S b) : RL w' (.slice x n c) ps :=
  ⟨h.row.kp hk (fun h0 => hs (fun e => h0 (by rw [e]; rfl))), fun p hq => Sl.kp (h.sl p hq) hk (fun h0 => hp p hq (fun h1 => h0 (by rw [h1]; rfl)))⟩
theorem RR.in.lt {W : World} {p : RR} (h : p.in W) (h0 : p.r.cols ≠ []) {b o : Nat} (e : p.a = some ⟨b, o, none⟩) : b < W.heap.size := by
  have hp : 0 < p.r.cols.length := List.length_pos_iff.2 h0
  obtain ⟨b', o', e2, hb, _⟩ := Sl.at_ h (i := 0) (by simpa using hp)
  rw [e] at e2
  simp only [Option.some.injEq, Addr.mk.injEq] at e2
  omega
theorem RL.lt {W : World} {a : Option Addr} {c : Nat} {ps : List RR} (h : RL W (.slice a ps.length c) ps) (h0 : ps ≠ []) {b o : Nat} (e : a = some ⟨b, o, none⟩) : b < W.heap.size := by
  have hp : 0 < ps.length := List.length_pos_iff.2 h0
  obtain ⟨b', o', e2, hb, _⟩ := h.row.at_ (i := 0) (by simpa using hp)
  rw [e] at e2
  simp only [Option.some.injEq, Addr.mk.injEq] at e2
  omega
theorem RR.zero_in (W : World) : RR.zero.in W := ⟨none, 0, rfl, .inl rfl⟩

theorem getD_r (m : Option RR) : (m.getD RR.zero).r = (m.map RR.r).getD RR.zero.r := by cases m <;> rfl
theorem cget_x {N g : Nat} {c : Value} {qs U : List RR} {o v : Int} {w : World} (hc : Ca w N g c qs) (h : qs.map RR.r = U.map RR.r) {x : Rl} (hx : x = ((getP o v U).getD RR.zero).r) {B : Bool} (hB : B = hasR o v (U.map RR.r)) :
    Calls Try.prog 15 #[.pointer (some ⟨g, 0, none⟩), .agg #[.int .u32 o, .int .u32 v]] w fun e w' => ∃ (a' : Option Addr) (c' : Nat), e = .returned (.tuple #[.agg #[.int .u32 x.oid, .int .u32 x.ver, .string x.nm, .int .u8 x.id, .slice a' x.cols.length c'], .bool B]) ∧ RR.in w' ⟨x, a', c'⟩ ∧ Ext w w' := by
  refine (cget_any N g c qs o v w hc).mono fun e w' hq => ?_
  obtain ⟨⟨qr, qa, qc⟩, h1, h2, h3, h4⟩ := hq
  have e2 : qr = x := by
    rw [hx, getD_r, getP_map, ← h, ← getP_map, ← getD_r]; exact h2
  subst e2
  exact ⟨qa, qc, by rw [h1, h, ← hB]; rfl, h3.in, h4⟩
theorem rget_x {U : List RR} {a : Option Addr} {cap : Nat} {o v : Int} {w : World} (hl : RL w (.slice a U.length cap) U) (hlen : U.length ≤ 1000) {x : RR} (hx : x = (getP o v U).getD RR.zero) {B : Bool} (hB : B = hasR o v (U.map RR.r)) :
    Calls Try.prog 27 #[.slice a U.length cap, .agg #[.int .u32 o, .int .u32 v]] w fun e w' => e = .returned (.tuple #[.agg #[.int .u32 x.r.oid, .int .u32 x.r.ver, .string x.r.nm, .int .u8 x.r.id, .slice x.a x.r.cols.length x.c], .bool B]) ∧ Ext w w' := by
  refine (rget_any U a cap o v w hl hlen).mono fun e w' hq => ?_
  obtain ⟨h1, h2⟩ := hq
  refine ⟨?_, h2⟩
  rw [h1, ← hx, getP_is, ← hB]; rfl
theorem lastUp_eq {o : Int} {qs U : List RR} (h : qs.map RR.r = U.map RR.r) : (lastUp o qs qs.length).map RR.r = (lastUp o U U.length).map RR.r := by
  have hl : qs.length = U.length := by have := congrArg List.length h; simpa using this
  rw [hl]; exact lastUp_map h _
theorem clast_x {N g : Nat} {c : Value} {qs U : List RR} {o : Int} {w : World} (hc : Ca w N g c qs) (h : qs.map RR.r = U.map RR.r) {x : Rl} (hx : x = ((lastUp o U U.length).getD RR.zero).r) {B : Bool} (hB : B = (lastUp o U U.length).isSome) :
    Calls Try.prog 28 #[.pointer (some ⟨g, 0, none⟩), .int .u32 o] w fun e w' => ∃ (a' : Option Addr) (c' : Nat), e = .returned (.tuple #[.agg #[.int .u32 x.oid, .int .u32 x.ver, .string x.nm, .int .u8 x.id, .slice a' x.cols.length c'], .bool B]) ∧ RR.in w' ⟨x, a', c'⟩ ∧ Ext w w' := by
  refine (last_any N g c qs o w hc).mono fun e w' hq => ?_
  obtain ⟨⟨qr, qa, qc⟩, h1, h2, h3, h4⟩ := hq
  have e2 : qr = x := by
    rw [hx, getD_r, ← lastUp_eq h, ← getD_r]; exact h2
  have e3 : (lastUp o qs qs.length).isSome = B := by rw [hB, ← Option.isSome_map, lastUp_eq h, Option.isSome_map]
  subst e2
  exact ⟨qa, qc, by rw [h1, e3]; rfl, h3.in, h4⟩
theorem rlast_x {U : List RR} {a : Option Addr} {cap : Nat} {o : Int} {w : World} (hl : RL w (.slice a U.length cap) U) (hlen : U.length ≤ 1000) (hs : Srt (U.map RR.r)) {x : RR} (hx : x = (lastUp o U U.length).getD RR.zero) {B : Bool} (hB : B = (lastUp o U U.length).isSome) :
    Calls Try.prog 29 #[.slice a U.length cap, .int .u32 o] w fun e w' => e = .returned (.tuple #[.agg #[.int .u32 x.r.oid, .int .u32 x.r.ver, .string x.r.nm, .int .u8 x.r.id, .slice x.a x.r.cols.length x.c], .bool B]) ∧ Ext w w' := by
  refine (rlast_any U a cap o w hl hlen hs).mono fun e w' hq => ?_
  obtain ⟨h1, h2⟩ := hq
  refine ⟨?_, h2⟩
  rw [h1, ← hx, ← hB]; rfl
theorem getD_in {W : World} {U : List RR} (h : ∀ p ∈ U, p.in W ∧ p.r.cols.length ≤ 16) {m : Option RR} (hm : ∀ p, m = some p → p ∈ U) : (m.getD RR.zero).in W ∧ (m.getD RR.zero).r.cols.length ≤ 16 := by
  cases m with
  | none => exact ⟨RR.zero_in W, Nat.zero_le _⟩
  | some p => exact h p (hm p rfl)

set_option maxRecDepth 100000 in set_option maxHeartbeats 4000000 in
theorem catruns_law (ps : List RR) (a : Option Addr) (cap : Nat) (ao av : Int) (rs : List Rf) (a2 : Option Addr) (c2 : Nat) (w : World) (hl : RL w (.slice a ps.length cap) ps) (hb : ∀ p ∈ ps, p.r.wb) (hlen : ps.length ≤ 9223372036854775807) (hr : Sl w (.slice a2 rs.length c2) 2 (rs.map Rf.cells)) (hlen2 : rs.length ≤ 9223372036854775807) :
    Calls Try.prog 5 #[.slice a ps.length cap, .agg #[.int .u32 ao, .int .u32 av], .slice a2 rs.length c2] w fun e w' => e = .returned (.bool true) ∧ Ext w w' := by
  obtain ⟨i0, hi, hz0, hz1, hz2⟩ := info_parts Try.infoRf9
  have HL := Hid.mk' hl
  have HB := Hid.mk' hb
  have HR := Hid.mk' hr
  clear hl hb hr
  by_cases h80 : 80 < ps.length
  · go_enter Try.func5, Try.ntmps5
    go_wp2
    go_ret
    exact ⟨rfl, by (repeat (with_reducible (first | exact Ext.refl _ | assumption | exact held_left (by assumption) | apply Ext.drewN | apply Ext.drew | apply Ext.alloc | (refine Ext.setCell ?_ (by first | (simp; done) | (simp; omega) | omega) _) | (refine Ext.trans ?_ (by assumption)) | (refine Ext.trans ?_ (held_left (by assumption))))))⟩
  by_cases h20 : 20 < rs.length
  · go_enter Try.func5, Try.ntmps5
    go_wp2
    go_ret
    exact ⟨rfl, by (repeat (with_reducible (first | exact Ext.refl _ | assumption | exact held_left (by assumption) | apply Ext.drewN | apply Ext.drew | apply Ext.alloc | (refine Ext.setCell ?_ (by first | (simp; done) | (simp; omega) | omega) _) | (refine Ext.trans ?_ (by assumption)) | (refine Ext.trans ?_ (held_left (by assumption))))))⟩
  have HCOL : Hid (∀ k, ∀ p ∈ upP ps k, p.r.cols ≠ [] → ∀ b o, p.a = some ⟨b, o, none⟩ → b < w.heap.size) := Hid.mk' (fun k p hp h0 b o e => (HL.out.sl p (upP_mem hp)).lt h0 e)
  go_enter Try.func5, Try.ntmps5
  go_wp2_with (go_at_call 25; refine (new_any _).mono ?_; rintro e w1 ⟨rfl, rfl⟩)
  have HCA0 := Hid.mk' (Ca.new (w.alloc (.cells #[.int .u32 ao, .int .u32 av] 46)))
  have HE0 : Hid (Ext (w.alloc (.cells #[.int .u32 ao, .int .u32 av] 46)) (((w.alloc (.cells #[.int .u32 ao, .int .u32 av] 46))).alloc (.cells #[.slice none 0 0] 116))) := Hid.mk' ((Ext.refl _).alloc _)
  obtain ⟨w0, hw0⟩ : ∃ w0, w0 = (w.alloc (.cells #[.int .u32 ao, .int .u32 av] 46)) := ⟨_, rfl⟩
  have HW0 : Hid (Ext w w0) := Hid.mk' (by rw [hw0]; exact (Ext.refl _).alloc _)
  have HBOX : Hid (Blk w0 w.heap.size #[.int .u32 ao, .int .u32 av] 46) := Hid.mk' (by rw [hw0]; exact Blk.new _ _ _)
  rw [← hw0] at HCA0 HE0 ⊢
  obtain ⟨G, hG2⟩ : ∃ G, G = w.heap.size + 1 := ⟨_, rfl⟩
  have hG : G = w0.heap.size := by rw [hG2, hw0]; simp
  rw [← hG] at HCA0
  rw [← hG2]
  have HGW : Hid (w.heap.size < G) := Hid.mk' (by rw [hG]; exact HBOX.out.lt)
  have HGX : Hid (∀ {S : Nat → Prop} {W W' : World}, Ext w0 W → (∀ x, S x → G ≤ x) → Kp S W W' → Ext w0 W') := Hid.mk' (fun h hs hk => hk.ext h (fun x hx _ => by rw [← hG]; exact hs x hx))
  clear hw0 hG hG2
  go_loopw [8, 9] (fun v i wr => ∃ (k : Nat) (aw : Option Addr) (cw : Nat) (c' : Value) (qs : List RR), k ≤ ps.length ∧ i = .int .i64 k ∧ v = .slice aw (upP ps k).length cw ∧ Hid (Ca wr G G c' qs) ∧ Hid (qs.map RR.r = ofUp (ps.map RR.r) k) ∧ Hid (RL wr (.slice aw (upP ps k).length cw) (upP ps k)) ∧ Hid (upP ps k ≠ [] → ∀ b o, aw = some ⟨b, o, none⟩ → ¬ Ca.S G c' b) ∧ Hid (Ext w0 wr)) (fun _ i _ => ps.length - (intOf i).toNat)
  case atStart => exact ⟨0, none, 0, _, [], Nat.zero_le _, rfl, rfl, HCA0, Hid.mk' rfl, Hid.mk' (RL.nil _), Hid.mk' (fun h => absurd rfl h), HE0⟩
  case round =>
    obtain ⟨k, aw, cw, c', qs, hk, rfl, rfl, hca, hqs, hrl, haw, hE⟩ := hrel
    have HEW := Hid.mk' (HW0.out.trans hE.out)
    by_cases hlt : k < ps.length
    · obtain ⟨b, o, rfl, hb, hx⟩ := HL.out.row.at_ (i := k) (by simpa using hlt)
      obtain ⟨f0, f1, f2, f3, f4⟩ := RR.at_ hlt hx hb HEW.out
      have HF := Hid.mk' (fun W (h : Ext w W) => RR.at_ hlt hx hb h)
      have HBW : Hid (b < w.heap.size) := Hid.mk' hb
      have hbw : b < wr.heap.size := Nat.lt_of_lt_of_le hb HEW.out.size
      have HIN := Hid.mk' (HL.out.sl _ (List.getElem_mem hlt))
      have HWB := Hid.mk' (HB.out _ (List.getElem_mem hlt))
      have HS := Hid.mk' (upP_succ hlt)
      have HS2 : Hid (ofUp (ps.map RR.r) (k + 1) = addL (qs.map RR.r) ps[k].r) := Hid.mk' (by rw [ofUp_succ (by simpa using hlt), List.getElem_map, hqs.out])
      obtain ⟨p, hp⟩ : ∃ p, p = ps[k] := ⟨_, rfl⟩
      rw [← hp] at f0 f1 f2 f3 f4 HF HIN HWB HS HS2
      have HLT : Hid (k < ps.length) := Hid.mk' hlt
      clear hx hp hb
      obtain ⟨E, hEE⟩ : ∃ E, E = addE (qs.map RR.r) p.r := ⟨_, rfl⟩
      have HEQ : Hid (addE ((upP ps k).map RR.r) p.r = E) := Hid.mk' (by rw [upP_r, ← hqs.out, hEE])
      have HEE := Hid.mk' hEE
      have HAD := Hid.mk' (fun W (h : Ext wr W) => radd_any (upP ps k) aw cw p W (hrl.out.ext h) (HIN.out.ext (HEW.out.trans h)) HWB.out (by have := upP_64 ps k; omega))
      unfold RAddPost RR.agg at HAD
      rw [← HS.out, HEQ.out] at HAD
      have HO8 := Hid.mk' (fun W (h : Ext w W) => own8_is p p.r rfl W (HIN.out.ext h) HWB.out.n)
      have HSG := Hid.mk' hca.out.S_ge
      clear hEE
      go_wp2_with (first
        | (go_at_call 26; refine (HAD.out _ (Ext.refl _)).mono ?_; rintro e w3 ⟨a1, c1, rfl, hl1, ha1, hb1⟩; have HL1 := Hid.mk' hl1; have HA1 := Hid.mk' ha1; have HB3 := Hid.mk' hb1; have HEW3 := Hid.mk' (HEW.out.trans hb1); obtain ⟨f0, f1, f2, f3, f4⟩ := HF.out _ HEW3.out; have hbw3 : b < w3.heap.size := (Nat.lt_of_lt_of_le HBW.out HEW3.out.size); clear hl1 ha1 hb1)
        | (go_at_call 20; refine (HO8.out _ HEW3.out).mono ?_; rintro e w4 ⟨a4, c4, rfl, h4, hi4, hb4⟩; have HB4 := Hid.mk' (HB3.out.trans hb4); have HX4 := Hid.mk' hb4; have HADD := Hid.mk' (cadd_any G G c' qs (⟨p.r, a4, c4⟩ : RR) w4 (hca.out.ext HB4.out) hi4 h4 HWB.out); unfold CAddPost RR.agg at HADD; simp only at HADD; rw [← HEE.out] at HADD; clear h4 hi4 hb4)
        | (go_at_call 19; refine HADD.out.mono ?_; rintro e w5 ⟨c5, q5, rfl, hqr, hc5, hkp, hc6⟩; have HC5 := Hid.mk' hc5; have HQR := Hid.mk' hqr; have HE5 := Hid.mk' (HGX.out (hE.out.trans HB4.out) HSG.out hkp); have HK5 := Hid.mk' hkp; have HC6 := Hid.mk' hc6; have HLN := Hid.mk' (len_any G G c5 (addP qs q5) w5 hc5); rw [show (addP qs q5).length = (upP ps (k + 1)).length by have h1 := congrArg List.length (upP_r ps (k + 1)); have h2 := congrArg List.length (addP_r qs q5); simp only [List.length_map] at h1 h2; rw [h1, h2, HS2.out, hqr]] at HLN; clear hqr hc5 hkp hc6)
        | (go_at_call 24; refine HLN.out.mono ?_; rintro e w6 ⟨rfl, hb6⟩; have HB6 := Hid.mk' hb6; clear hb6))
      have HNS : Hid (upP ps (k + 1) ≠ [] → ∀ b o, a1 = some ⟨b, o, none⟩ → ¬ Ca.S G c' b) := Hid.mk' (fun h0 b o e hq => by
        rcases HA1.out b o e with ⟨h1, h2⟩ | h1
        · have h3 : upP ps (k + 1) = upP ps k := by rw [HS.out]; unfold addP; rw [HEQ.out, if_neg h1]
          rw [h2] at e
          exact haw.out (by rw [← h3]; exact h0) b o e hq
        · have g1 := hca.out.ptr.lt
          rcases hq with hq | hq
          · omega
          · have := (hca.out.own.lt _ hq).2; omega)
      have HL5 := Hid.mk' (RL.kp2 (HL1.out.ext HX4.out) HK5.out HNS.out (fun p hp h0 b o e hq => by
        have h1 := HCOL.out _ p hp h0 b o e
        have h2 := HSG.out b hq
        have := HGW.out; omega))
      go_roundw
      case rel => exact ⟨k + 1, a1, c1, c5, addP qs q5, by have := HLT.out; omega, by go_num, rfl, Hid.mk' (HC5.out.ext HB6.out), Hid.mk' (by rw [addP_r, HQR.out, HS2.out]), Hid.mk' (HL5.out.ext HB6.out), Hid.mk' (fun h0 b o e hq => by
        rcases hq with hq | hq
        · exact HNS.out h0 b o e (.inl hq)
        · rcases HC6.out b hq with h1 | h1
          · exact HNS.out h0 b o e (.inr h1)
          · have h2 := HL1.out.lt h0 e
            have h3 := HX4.out.size
            omega), Hid.mk' (HE5.out.trans HB6.out)⟩
      case measure => have := HLT.out; simp [intOf]; omega
    · obtain rfl : k = ps.length := by omega
      have HQU0 : Hid (qs.map RR.r = (upP ps ps.length).map RR.r) := Hid.mk' (by rw [hqs.out, upP_r])
      have HU16 := Hid.mk' (upP_16k ps)
      obtain ⟨U, hU⟩ : ∃ U, U = upP ps ps.length := ⟨_, rfl⟩
      rw [← hU] at hrl HQU0 HU16 ⊢
      have HOK : Hid (CatOk (U.map RR.r)) := Hid.mk' (by rw [← HQU0.out]; exact hca.out.ok)
      have HUI : ∀ p ∈ U, p.in wr ∧ p.r.cols.length ≤ 16 := fun p hp => ⟨hrl.out.sl p hp, HU16.out.2 p hp⟩
      obtain ⟨x, hx⟩ : ∃ x, x = (getP ao av U).getD RR.zero := ⟨_, rfl⟩
      obtain ⟨y, hy⟩ : ∃ y, y = (lastUp ao U U.length).getD RR.zero := ⟨_, rfl⟩
      obtain ⟨BX, hBX⟩ : ∃ B, B = hasR ao av (U.map RR.r) := ⟨_, rfl⟩
      obtain ⟨BY, hBY⟩ : ∃ B, B = (lastUp ao U U.length).isSome := ⟨_, rfl⟩
      have HX := Hid.mk' (show x.in wr ∧ x.r.cols.length ≤ 16 by rw [hx]; exact getD_in HUI (fun p hp => (getP_some hp).1))
      have HY := Hid.mk' (show y.in wr ∧ y.r.cols.length ≤ 16 by rw [hy]; exact getD_in HUI (fun p hp => by obtain ⟨j, h1, _, h3, _⟩ := lastUp_some hp; rw [h3]; exact List.getElem_mem h1))
      have HGT := Hid.mk' (fun W (h : Ext wr W) => cget_x (hca.out.ext h) HQU0.out (congrArg RR.r hx) hBX)
      have HRG := Hid.mk' (fun W (h : Ext wr W) => rget_x (hrl.out.ext h) (by have := HU16.out.1; omega) hx hBX)
      have HLA := Hid.mk' (fun W (h : Ext wr W) => clast_x (hca.out.ext h) HQU0.out (congrArg RR.r hy) hBY)
      have HRL := Hid.mk' (fun W (h : Ext wr W) => rlast_x (hrl.out.ext h) (by have := HU16.out.1; omega) HOK.out.srt hy hBY)
      have HBK := Hid.mk' (fun W (h : Ext wr W) => back9_any G G c' qs W (hca.out.ext h))
      have HBX := Hid.mk' (HBOX.out.ext hE.out)
      clear hU hx hy hBX hBY HUI HL HB HCOL HCA0 HE0 HGX haw hqs
      go_upto_region 17 with (go_at_call 16; refine (HBK.out _ (Ext.refl _)).mono ?_; rintro e w3 ⟨a3, c3, ts, rfl, hbk, hb3⟩; have HBK3 := Hid.mk' hbk; have HB3 := Hid.mk' hb3; clear hbk hb3)
      have bx := (HBX.out.ext HB3.out).cell
      have bz := (HBX.out.ext HB3.out).lt
      go_upto_region 18 with (first
        | (go_at_call 21; refine (ref9_any _ _ _).mono ?_; rintro e w6 ⟨rfl, hb6⟩; have HC6 := Hid.mk' hb6; have HB6 := Hid.mk' (HB3.out.trans hb6); clear hb6)
        | (go_at_call 15; refine (HGT.out _ HB6.out).mono ?_; rintro e w7 ⟨a7, c7, rfl, h7, hb7⟩; have HI7 := Hid.mk' h7; have HC7 := Hid.mk' (HC6.out.trans hb7); have HB7 := Hid.mk' (HB6.out.trans hb7); clear h7 hb7))
      obtain ⟨v7, hv7⟩ : ∃ v, v = w7.alloc (.cells #[.int .u32 x.r.oid, .int .u32 x.r.ver, .string x.r.nm, .int .u8 x.r.id, .slice a7 x.r.cols.length c7] 36) := ⟨_, rfl⟩
      obtain ⟨G7, hG7⟩ : ∃ G, G = w7.heap.size := ⟨_, rfl⟩
      have HVG7 : Hid (Blk v7 G7 #[.int .u32 x.r.oid, .int .u32 x.r.ver, .string x.r.nm, .int .u8 x.r.id, .slice a7 x.r.cols.length c7] 36) := Hid.mk' (by rw [hv7, hG7]; exact Blk.new _ _ _)
      have HEG7 : Hid (Ext w7 v7) := Hid.mk' (by rw [hv7]; exact (Ext.refl _).alloc _)
      have HXG7 : Hid (Ext wr v7) := Hid.mk' (HB7.out.trans HEG7.out)
      rw [← hv7, ← hG7]
      clear hv7 hG7
      have HI7v := Hid.mk' (RR.in.ext HI7.out HEG7.out)
      clear bx bz HI7 HGT
      have bx := (HBX.out.ext HXG7.out).cell
      have bz := (HBX.out.ext HXG7.out).lt
      go_upto_region 19 with (go_at_call 27; refine (HRG.out _ HXG7.out).mono ?_; rintro e w8 ⟨rfl, hb8⟩; have HC8 := Hid.mk' hb8; have HB8 := Hid.mk' (HXG7.out.trans hb8); clear hb8)
      obtain ⟨v8, hv8⟩ : ∃ v, v = w8.alloc (.cells #[.int .u32 x.r.oid, .int .u32 x.r.ver, .string x.r.nm, .int .u8 x.r.id, .slice x.a x.r.cols.length x.c] 49) := ⟨_, rfl⟩
      obtain ⟨G8, hG8⟩ : ∃ G, G = w8.heap.size := ⟨_, rfl⟩
      have HVG8 : Hid (Blk v8 G8 #[.int .u32 x.r.oid, .int .u32 x.r.ver, .string x.r.nm, .int .u8 x.r.id, .slice x.a x.r.cols.length x.c] 49) := Hid.mk' (by rw [hv8, hG8]; exact Blk.new _ _ _)
      have HEG8 : Hid (Ext w8 v8) := Hid.mk' (by rw [hv8]; exact (Ext.refl _).alloc _)
      have HXG8 : Hid (Ext wr v8) := Hid.mk' (HB8.out.trans HEG8.out)
      rw [← hv8, ← hG8]
      clear hv8 hG8
      clear bx bz HRG
      have bx := (HBX.out.ext HXG8.out).cell
      have bz := (HBX.out.ext HXG8.out).lt
      go_upto_region 20 with (go_at_call 28; refine (HLA.out _ HXG8.out).mono ?_; rintro e w9 ⟨a9, c9, rfl, h9, hb9⟩; have HI9 := Hid.mk' h9; have HC9 := Hid.mk' hb9; have HB9 := Hid.mk' (HXG8.out.trans hb9); clear h9 hb9)
      obtain ⟨v9, hv9⟩ : ∃ v, v = w9.alloc (.cells #[.int .u32 y.r.oid, .int .u32 y.r.ver, .string y.r.nm, .int .u8 y.r.id, .slice a9 y.r.cols.length c9] 36) := ⟨_, rfl⟩
      obtain ⟨G9, hG9⟩ : ∃ G, G = w9.heap.size := ⟨_, rfl⟩
      have HVG9 : Hid (Blk v9 G9 #[.int .u32 y.r.oid, .int .u32 y.r.ver, .string y.r.nm, .int .u8 y.r.id, .slice a9 y.r.cols.length c9] 36) := Hid.mk' (by rw [hv9, hG9]; exact Blk.new _ _ _)
      have HEG9 : Hid (Ext w9 v9) := Hid.mk' (by rw [hv9]; exact (Ext.refl _).alloc _)
      have HXG9 : Hid (Ext wr v9) := Hid.mk' (HB9.out.trans HEG9.out)
      rw [← hv9, ← hG9]
      clear hv9 hG9
      have HI9v := Hid.mk' (RR.in.ext HI9.out HEG9.out)
      clear bx bz HLA HI9
      have bx := (HBX.out.ext HXG9.out).cell
      have bz := (HBX.out.ext HXG9.out).lt
      go_upto_region 21 with (go_at_call 29; refine (HRL.out _ HXG9.out).mono ?_; rintro e w10 ⟨rfl, hb10⟩; have HC10 := Hid.mk' hb10; have HB10 := Hid.mk' (HXG9.out.trans hb10); clear hb10)
      obtain ⟨v10, hv10⟩ : ∃ v, v = w10.alloc (.cells #[.int .u32 y.r.oid, .int .u32 y.r.ver, .string y.r.nm, .int .u8 y.r.id, .slice y.a y.r.cols.length y.c] 49) := ⟨_, rfl⟩
      obtain ⟨G10, hG10⟩ : ∃ G, G = w10.heap.size := ⟨_, rfl⟩
      have HVG10 : Hid (Blk v10 G10 #[.int .u32 y.r.oid, .int .u32 y.r.ver, .string y.r.nm, .int .u8 y.r.id, .slice y.a y.r.cols.length y.c] 49) := Hid.mk' (by rw [hv10, hG10]; exact Blk.new _ _ _)
      have HEG10 : Hid (Ext w10 v10) := Hid.mk' (by rw [hv10]; exact (Ext.refl _).alloc _)
      have HXG10 : Hid (Ext wr v10) := Hid.mk' (HB10.out.trans HEG10.out)
      rw [← hv10, ← hG10]
      clear hv10 hG10
      clear bx bz HRL HBX
      have HT9 := Hid.mk' (HC10.out.trans HEG10.out)
      have HT8 := Hid.mk' ((HC9.out.trans HEG9.out).trans HT9.out)
      have HT7 := Hid.mk' ((HC8.out.trans HEG8.out).trans HT8.out)
      have HK7 := Hid.mk' (HVG7.out.ext HT7.out)
      have HK8 := Hid.mk' (HVG8.out.ext HT8.out)
      have HK9 := Hid.mk' (HVG9.out.ext HT9.out)
      have k7 := HK7.out.cell
      have z7 := HK7.out.lt
      have k8 := HK8.out.cell
      have z8 := HK8.out.lt
      have k9 := HK9.out.cell
      have z9 := HK9.out.lt
      have k10 := HVG10.out.cell
      have z10 := HVG10.out.lt
      have HXX := Hid.mk' (⟨RR.in.ext HI7v.out HT7.out, RR.in.ext HI9v.out HT9.out⟩ : RR.in v10 ⟨x.r, a7, c7⟩ ∧ RR.in v10 ⟨y.r, a9, c9⟩)
      have HR9 := Hid.mk' (fun W (h : Ext v10 W) => rsame9_any ts U a3 aw c3 cw W (HBK3.out.rl.ext (((HC7.out.trans HEG7.out).trans HT7.out).trans h)) (hrl.out.ext (HXG10.out.trans h)) (by have := congrArg List.length (HBK3.out.r.trans HQU0.out); simp only [List.length_map] at this; have := HU16.out.1; omega) (fun p hp => by
        obtain ⟨q, hq, e⟩ := mem_r (HBK3.out.r.trans HQU0.out) hp
        rw [← e]; have := HU16.out.2 q hq; omega) (fun p hp => by have := HU16.out.2 p hp; omega))
      rw [HBK3.out.r, HQU0.out, rlsB_true.2 rfl] at HR9
      have HPX := Hid.mk' (fun W (h : Ext v10 W) => pback_is x.r a7 c7 W (RR.in.ext HXX.out.1 h) (by have := HX.out.2; omega))
      have HPY := Hid.mk' (fun W (h : Ext v10 W) => pback_is y.r a9 c9 W (RR.in.ext HXX.out.2 h) (by have := HY.out.2; omega))
      have HSX := Hid.mk' (fun a c W (hi : RR.in W ⟨x.r, a, c⟩) (h : Ext v10 W) => rsame8_is x.r x.r a x.a c x.c W hi (RR.in.ext HX.out.1 (HXG10.out.trans h)) (by have := HX.out.2; omega) (by have := HX.out.2; omega))
      have HSY := Hid.mk' (fun a c W (hi : RR.in W ⟨y.r, a, c⟩) (h : Ext v10 W) => rsame8_is y.r y.r a y.a c y.c W hi (RR.in.ext HY.out.1 (HXG10.out.trans h)) (by have := HY.out.2; omega) (by have := HY.out.2; omega))
      rw [rlB_true.2 rfl] at HSX HSY
      go_region_held3 (fun w' => Ext (v10) w' ∧ (∀ b o, b < (v10).heap.size → w'.cell? ⟨b, o, none⟩ = (v10).cell? ⟨b, o, none⟩) ∧ (∀ b o, b < (v10).heap.size → w'.frozen? ⟨b, o, none⟩ = (v10).frozen? ⟨b, o, none⟩)) ((exact held_of (by (repeat (with_reducible (first | exact Ext.refl _ | assumption | exact held_left (by assumption) | apply Ext.drewN | apply Ext.drew | apply Ext.alloc | (refine Ext.setCell ?_ (by first | (simp; done) | (simp; omega) | omega) _) | (refine Ext.trans ?_ (by assumption)) | (refine Ext.trans ?_ (held_left (by assumption)))))))))
        (first
          | (go_at_call 17; refine (HR9.out _ (by (repeat (with_reducible (first | exact Ext.refl _ | assumption | exact held_left (by assumption) | apply Ext.drewN | apply Ext.drew | apply Ext.alloc | (refine Ext.setCell ?_ (by first | (simp; done) | (simp; omega) | omega) _) | (refine Ext.trans ?_ (by assumption)) | (refine Ext.trans ?_ (held_left (by assumption)))))))).mono ?_; rintro e w11 ⟨rfl, hb11⟩)
          | (go_at_call 23; (fail_if_success have _ := HI12); refine (HPX.out _ (by (repeat (with_reducible (first | exact Ext.refl _ | assumption | exact held_left (by assumption) | apply Ext.drewN | apply Ext.drew | apply Ext.alloc | (refine Ext.setCell ?_ (by first | (simp; done) | (simp; omega) | omega) _) | (refine Ext.trans ?_ (by assumption)) | (refine Ext.trans ?_ (held_left (by assumption)))))))).mono ?_; rintro e w12 ⟨a12, c12, rfl, h12, hb12⟩; have HI12 := Hid.mk' h12; clear h12)
          | (go_at_call 22; (fail_if_success have _ := HI14); refine (HSX.out _ _ _ (RR.in.ext HI12.out (by (repeat (with_reducible (first | exact Ext.refl _ | assumption | exact held_left (by assumption) | apply Ext.drewN | apply Ext.drew | apply Ext.alloc | (refine Ext.setCell ?_ (by first | (simp; done) | (simp; omega) | omega) _) | (refine Ext.trans ?_ (by assumption)) | (refine Ext.trans ?_ (held_left (by assumption)))))))) (by (repeat (with_reducible (first | exact Ext.refl _ | assumption | exact held_left (by assumption) | apply Ext.drewN | apply Ext.drew | apply Ext.alloc | (refine Ext.setCell ?_ (by first | (simp; done) | (simp; omega) | omega) _) | (refine Ext.trans ?_ (by assumption)) | (refine Ext.trans ?_ (held_left (by assumption)))))))).mono ?_; rintro e w13 ⟨rfl, hb13⟩)
          | (go_at_call 23; refine (HPY.out _ (by (repeat (with_reducible (first | exact Ext.refl _ | assumption | exact held_left (by assumption) | apply Ext.drewN | apply Ext.drew | apply Ext.alloc | (refine Ext.setCell ?_ (by first | (simp; done) | (simp; omega) | omega) _) | (refine Ext.trans ?_ (by assumption)) | (refine Ext.trans ?_ (held_left (by assumption)))))))).mono ?_; rintro e w14 ⟨a14, c14, rfl, h14, hb14⟩; have HI14 := Hid.mk' h14; clear h14)
          | (go_at_call 22; refine (HSY.out _ _ _ (RR.in.ext HI14.out (by (repeat (with_reducible (first | exact Ext.refl _ | assumption | exact held_left (by assumption) | apply Ext.drewN | apply Ext.drew | apply Ext.alloc | (refine Ext.setCell ?_ (by first | (simp; done) | (simp; omega) | omega) _) | (refine Ext.trans ?_ (by assumption)) | (refine Ext.trans ?_ (held_left (by assumption)))))))) (by (repeat (with_reducible (first | exact Ext.refl _ | assumption | exact held_left (by assumption) | apply Ext.drewN | apply Ext.drew | apply Ext.alloc | (refine Ext.setCell ?_ (by first | (simp; done) | (simp; omega) | omega) _) | (refine Ext.trans ?_ (by assumption)) | (refine Ext.trans ?_ (held_left (by assumption)))))))).mono ?_; rintro e w15 ⟨rfl, hb15⟩))
      have HE15 : Hid (Ext wr w15) := Hid.mk' (HXG10.out.trans (by (repeat (with_reducible (first | exact Ext.refl _ | assumption | exact held_left (by assumption) | apply Ext.drewN | apply Ext.drew | apply Ext.alloc | (refine Ext.setCell ?_ (by first | (simp; done) | (simp; omega) | omega) _) | (refine Ext.trans ?_ (by assumption)) | (refine Ext.trans ?_ (held_left (by assumption))))))))
      have HC15 := Hid.mk' (hca.out.ext HE15.out)
      have HL15 := Hid.mk' (hrl.out.ext HE15.out)
      have HW15 := Hid.mk' (HEW.out.trans HE15.out)
      have HR15 := Hid.mk' (Sl.ext HR.out HW15.out)
      clear HPX HPY HSX HSY HR9 HXX HK7 HK8 HK9 k7 k8 k9 k10 z7 z8 z9 z10 HT7 HT8 HT9 HVG7 HVG8 HVG9 HVG10 HXG7 HXG8 HXG9 HXG10 HEG7 HEG8 HEG9 HEG10 HC7 HC8 HC9 HC10 HB3 HB6 HB7 HB8 HB9 HB10 HI12 HI14 HI7v HI9v HX HY HBK3 HBK HR hrl hca hE HC6 hb11 hb12 hb13 hb14 hb15
      obtain ⟨wz, hwz⟩ : ∃ wz, wz = w15 := ⟨_, rfl⟩
      have HZ0 : Hid (Ext wz w15) := Hid.mk' (by rw [hwz]; exact Ext.refl _)
      rw [← hwz] at HC15 HL15 HW15 HR15
      clear hwz HE15
      go_wp2
      go_loopw [22, 23] (fun v i wx => ∃ k : Nat, k ≤ rs.length ∧ i = .int .i64 k ∧ Hid (wx.ownsRow wz.heap.size 33 2 v k ((rs.take k).map Rf.cells).flatten) ∧ Hid (Ext wz wx)) (fun _ i _ => rs.length - (intOf i).toNat)
      case atStart => exact ⟨0, Nat.zero_le _, rfl, Hid.mk' (World.ownsRow_nil _ _ _ _), HZ0⟩
      case round =>
        obtain ⟨k, hk, rfl, hown, hE⟩ := hrel
        by_cases hlt : k < rs.length
        · obtain ⟨b, o, rfl, hb, hx⟩ := HR15.out.at_ (i := k) (by simpa using hlt)
          obtain ⟨f0, f1⟩ := Rf.at_ hlt hx hb hE.out
          have hbw : b < wr.heap.size := Nat.lt_of_lt_of_le hb hE.out.size
          have HT : Hid (rs.take (k + 1) = rs.take k ++ [rs[k]]) := Hid.mk' (List.take_succ_eq_append_getElem hlt)
          obtain ⟨r, hr⟩ : ∃ r, r = rs[k] := ⟨_, rfl⟩
          rw [← hr] at f0 f1 HT
          have HLT : Hid (k < rs.length) := Hid.mk' hlt
          have hz := hE.out.size
          clear hx hr hb
          go_wp2_with (first
            | (go_at_call 21; refine (ref9_any _ _ _).mono ?_; rintro e w16 ⟨rfl, hb16⟩; have hz16 := hb16.size; have HB16 := Hid.mk' hb16)
            | (at_builtin; refine wpList_append_own _ rfl _ _ 65 rfl wz.heap.size 33 i0 _ 2 8 Try.underlying65 hi hz0 hz1 hz2 rfl (by decide) _ _ _ rfl (owns_ext hown.out (HB16.out.alloc _)) ⟨_, 0, none⟩ 1 1 r.cells rfl rfl (cells_new _ #[.int .u32 r.o, .int .u32 r.v] _) (by intro u hu; simp [Rf.cells] at hu; rcases hu with rfl | rfl <;> rfl) (by unfold maxLen; omega) (by omega) (by simp; omega) ?_))
          intro v' w4 hown' hgrow _
          have HX4 : Hid (Ext wz w4) := Hid.mk' (Ext.grown (hE.out.trans (HB16.out.alloc _)) (owns_ext hown.out (HB16.out.alloc _)) hgrow)
          have HO4 := Hid.mk' hown'
          clear hown' hgrow
          go_wp2
          go_roundw
          case rel => exact ⟨k + 1, by have := HLT.out; omega, by go_num, Hid.mk' (by rw [HT.out, List.map_append, List.flatten_append]; simpa using HO4.out), HX4⟩
          case measure => have := HLT.out; simp [intOf]; omega
        · obtain rfl : k = rs.length := by omega
          obtain ⟨ab, cb, rfl⟩ := owns_shape hown.out
          rw [List.take_length] at hown
          have HSL : Hid (Sl wr (.slice ab rs.length cb) 2 (rs.map Rf.cells)) := Hid.mk' (Sl.of_owns (base := wz.heap.size) (e := 33) (by rw [List.length_map]; exact hown.out) (by intro xs hxs; simp at hxs; obtain ⟨_, _, rfl⟩ := hxs; rfl))
          have HON := Hid.mk' (conly_any G G c' qs rs ab cb wr (HC15.out.ext hE.out) HSL.out (by omega))
          have HRN := Hid.mk' (fun W (h : Ext wz W) => ronly_any U rs aw cw a2 c2 W (HL15.out.ext h) (Sl.ext HR15.out h) (by have := HU16.out.1; omega) (by omega))
          rw [HQU0.out] at HON
          unfold COnlyPost at HON
          unfold ROnlyPost at HRN
          obtain ⟨E, hEE⟩ : ∃ E, E = onlyE rs (U.map RR.r) := ⟨_, rfl⟩
          rw [← hEE] at HON HRN
          clear hEE hown HSL HC15 HR15
          by_cases h0 : E = 0
          · subst h0
            go_upto_region 34 with (first
              | (go_at_call 30; refine HON.out.mono ?_; rintro e w17 ⟨pv, rfl, h1, -, hb17⟩; obtain ⟨rfl, cc, qd, hcc, hqd⟩ := h1 (by first | rfl | trivial); have HCC := Hid.mk' hcc; have HQD := Hid.mk' hqd; have HB17 := Hid.mk' (hE.out.trans hb17); clear h1 hcc hqd hb17)
              | (go_at_call 31; refine (HRN.out _ HB17.out).mono ?_; rintro e w18 ⟨⟨a8, n8, c8, rfl, h1⟩, hb18⟩; have H1 := Hid.mk' h1; have HC18 := Hid.mk' hb18; have HB18 := Hid.mk' (HB17.out.trans hb18); clear h1 hb18))
            obtain ⟨rfl, hl8⟩ := H1.out (by first | rfl | trivial)
            have HL8 := Hid.mk' hl8
            have HBK := Hid.mk' (back9_any _ _ cc qd w18 (HCC.out.ext HC18.out))
            have HFU : Hid (qd.map RR.r = (flt rs U).map RR.r) := Hid.mk' (by rw [HQD.out, flt_r])
            clear hl8 H1
            go_upto_region 35 with (go_at_call 16; refine HBK.out.mono ?_; rintro e w19 ⟨a9, c9, tt, rfl, hbk, hb19⟩; have HBK9 := Hid.mk' hbk; have HB19 := Hid.mk' hb19; clear hbk hb19)
            have HR9 := Hid.mk' (rsame9_any tt (flt rs U) a9 a8 c9 c8 w19 HBK9.out.rl (HL8.out.ext HB19.out) (by have := congrArg List.length (HBK9.out.r.trans HFU.out); simp only [List.length_map] at this; have := flt_len rs U; have := HU16.out.1; omega) (fun p hp => by
              obtain ⟨q, hq, e⟩ := mem_r (HBK9.out.r.trans HFU.out) hp
              rw [← e]; have := HU16.out.2 q (flt_mem hq); omega) (fun p hp => by have := HU16.out.2 p (flt_mem hp); omega))
            rw [HBK9.out.r, HFU.out, rlsB_true.2 rfl] at HR9
            go_wp2_with (first
              | (go_at_call 17; refine HR9.out.mono ?_; rintro e w20 ⟨rfl, hb20⟩; have HB20 := Hid.mk' (HB19.out.trans hb20); clear hb20)
              | (go_at_call 18; refine (awake9_any _).mono ?_; rintro e w21 ⟨rfl, hb21⟩; have HB21 := Hid.mk' (HB20.out.trans hb21); clear hb21))
            go_ret
            exact ⟨rfl, HW15.out.trans (HB18.out.trans HB21.out)⟩
          · have h0' : (E != 0) = true := by simpa using h0
            have H0 := Hid.mk' h0
            clear h0
            go_wp2_with (first
              | (go_at_call 30; refine HON.out.mono ?_; rintro e w17 ⟨pv, rfl, -, h1, hb17⟩; obtain rfl := h1 H0.out; have HB17 := Hid.mk' (hE.out.trans hb17); clear h1 hb17)
              | (go_at_call 31; refine (HRN.out _ HB17.out).mono ?_; rintro e w18 ⟨⟨a8, n8, c8, rfl, h1⟩, hb18⟩; have HB18 := Hid.mk' (HB17.out.trans hb18); clear h1 hb18)
              | (go_at_call 18; refine (awake9_any _).mono ?_; rintro e w21 ⟨rfl, hb21⟩; have HB21 := Hid.mk' (HB18.out.trans hb21); clear hb21))
            go_ret
            exact ⟨rfl, HW15.out.trans HB21.out⟩

end Go.Proofs.Ythdjinicmnhgpaa
