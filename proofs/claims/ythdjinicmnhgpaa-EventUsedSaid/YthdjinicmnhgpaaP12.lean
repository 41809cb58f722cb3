/-
The walk of CatalogKeeps.
-/
import Derived.Test.YthdjinicmnhgpaaP11
namespace Go.Proofs.Ythdjinicmnhgpaa
open Go.RowKit

theorem upP_16k (ps : List RR) : (upP ps ps.length).length ≤ 64 ∧ ∀ q ∈ upP ps ps.length, q.r.cols.length ≤ 16 :=
  up_n16 (l := ps.map RR.r) (k := ps.length) (upP_r _ _)
theorem cget_is {N g : Nat} {c : Value} {ps : List RR} {o v : Int} {w : World} (hc : Ca w N g c ps) {x : Rl} (h : getR o v (ps.map RR.r) = some x) :
    Calls Try.prog 15 #[.pointer (some ⟨g, 0, none⟩), .agg #[.int .u32 o, .int .u32 v]] w fun e w' => ∃ q : RR, e = .returned (.tuple #[.agg #[.int .u32 x.oid, .int .u32 x.ver, .string x.nm, .int .u8 x.id, .slice q.a x.cols.length q.c], .bool true]) ∧ q.r = x ∧ q.owned w.heap.size w' ∧ Ext w w' := by
  refine (cget_any N g c ps o v w hc).mono fun e w' hq => ?_
  obtain ⟨q, h1, h2, h3, h4⟩ := hq
  have hh : hasR o v (ps.map RR.r) = true := by
    cases e2 : hasR o v (ps.map RR.r) with
    | true => rfl
    | false => rw [getR_none.2 e2] at h; cases h
  have hg : (getP o v ps).map RR.r = some x := (getP_map o v ps).trans h
  obtain ⟨p, hp, hpx⟩ := Option.map_eq_some_iff.1 hg
  rw [hp, Option.getD_some, hpx] at h2
  refine ⟨q, ?_, h2, h3, h4⟩
  rw [h1, hh]
  unfold RR.agg
  rw [h2]
theorem own8_is (p : RR) (x : Rl) (hx : p.r = x) (w : World) (hp : p.in w) (hn : x.cols.length ≤ 5864062014634) :
    Calls Try.prog 20 #[.agg #[.int .u32 x.oid, .int .u32 x.ver, .string x.nm, .int .u8 x.id, .slice p.a x.cols.length p.c]] w fun e w' => ∃ a' c', e = .returned (.agg #[.int .u32 x.oid, .int .u32 x.ver, .string x.nm, .int .u8 x.id, .slice a' x.cols.length c']) ∧ x.cols.length ≤ c' ∧ RR.in w' ⟨x, a', c'⟩ ∧ Ext w w' := by
  subst hx
  refine (own9_one p w hp hn).mono fun e w' hq => ?_
  obtain ⟨⟨r', a', c'⟩, h1, h2, h3, h4, h5⟩ := hq
  simp only at h2
  subst h2
  exact ⟨a', c', h1, h3, h4.in, h5⟩
theorem pback_is (x : Rl) (a : Option Addr) (c : Nat) (w : World) (hp : RR.in w ⟨x, a, c⟩) (hn : x.cols.length ≤ 1000) :
    Calls Try.prog 23 #[.agg #[.int .u32 x.oid, .int .u32 x.ver, .string x.nm, .int .u8 x.id, .slice a x.cols.length c]] w fun e w' => ∃ a' c', e = .returned (.agg #[.int .u32 x.oid, .int .u32 x.ver, .string x.nm, .int .u8 x.id, .slice a' x.cols.length c']) ∧ RR.in w' ⟨x, a', c'⟩ ∧ Ext w w' := by
  refine (pback_any ⟨x, a, c⟩ w hp hn).mono fun e w' hq => ?_
  obtain ⟨⟨r', a', c'⟩, h1, h2, h3, -, h5⟩ := hq
  simp only at h2
  subst h2
  exact ⟨a', c', h1, h3, h5⟩
theorem rsame8_is (x y : Rl) (a b : Option Addr) (c d : Nat) (w : World) (hp : RR.in w ⟨x, a, c⟩) (hq : RR.in w ⟨y, b, d⟩) (hn : x.cols.length ≤ 1000) (hn2 : y.cols.length ≤ 9223372036854775807) :
    Calls Try.prog 22 #[.agg #[.int .u32 x.oid, .int .u32 x.ver, .string x.nm, .int .u8 x.id, .slice a x.cols.length c], .agg #[.int .u32 y.oid, .int .u32 y.ver, .string y.nm, .int .u8 y.id, .slice b y.cols.length d]] w fun e w' => e = .returned (.bool (rlB x y)) ∧ Ext w w' :=
  rsame8_any ⟨x, a, c⟩ ⟨y, b, d⟩ w hp hq hn hn2

set_option maxRecDepth 100000 in set_option maxHeartbeats 4000000 in
theorem catkeeps_law (ps : List RR) (a : Option Addr) (cap : Nat) (oid ver : Int) (nm : ByteArray) (id : Int) (cols : List Col) (pa : Option Addr) (pc : Nat) (w : World) (hl : RL w (.slice a ps.length cap) ps) (hb : ∀ p ∈ ps, p.r.wb) (hlen : ps.length ≤ 9223372036854775807) (hp : RR.in w (⟨(⟨oid, ver, nm, id, cols⟩ : Rl), pa, pc⟩ : RR)) (hpb : Rl.wb (⟨oid, ver, nm, id, cols⟩ : Rl)) :
    Calls Try.prog 4 #[.slice a ps.length cap, .agg #[.int .u32 oid, .int .u32 ver, .string nm, .int .u8 id, .slice pa cols.length pc]] w fun e w' => e = .returned (.bool true) ∧ Ext w w' := by
  have HRO := Hid.mk' (fun W (h : Ext w W) => rof_any ps a cap W (hl.ext h) hb hlen)
  unfold ROfPost at HRO
  have HL := Hid.mk' hl
  have HB := Hid.mk' hb
  have HP := Hid.mk' hp
  have HPB := Hid.mk' hpb
  clear hl hb hp hpb
  obtain ⟨E, hE⟩ : ∃ E, E = ofE (ps.map RR.r) := ⟨_, rfl⟩
  rw [← hE] at HRO
  by_cases h60 : 60 < ps.length
  · clear hE
    go_enter Try.func4, Try.ntmps4
    go_wp2_with (go_at_call 12; refine (HRO.out _ (by (repeat (with_reducible (first | exact Ext.refl _ | assumption | exact held_left (by assumption) | apply Ext.drewN | apply Ext.drew | apply Ext.alloc | (refine Ext.setCell ?_ (by first | (simp; done) | (simp; omega) | omega) _) | (refine Ext.trans ?_ (by assumption)) | (refine Ext.trans ?_ (held_left (by assumption)))))))).mono ?_; rintro e w1 ⟨a', c', n, rfl, -, -, hb1⟩)
    go_ret
    exact ⟨rfl, by (repeat (with_reducible (first | exact Ext.refl _ | assumption | exact held_left (by assumption) | apply Ext.drewN | apply Ext.drew | apply Ext.alloc | (refine Ext.setCell ?_ (by first | (simp; done) | (simp; omega) | omega) _) | (refine Ext.trans ?_ (by assumption)) | (refine Ext.trans ?_ (held_left (by assumption))))))⟩
  by_cases h0 : E = 0
  case neg =>
    have h0' : (E != 0) = true := by simpa using h0
    clear hE h0
    go_enter Try.func4, Try.ntmps4
    go_wp2_with (go_at_call 12; refine (HRO.out _ (by (repeat (with_reducible (first | exact Ext.refl _ | assumption | exact held_left (by assumption) | apply Ext.drewN | apply Ext.drew | apply Ext.alloc | (refine Ext.setCell ?_ (by first | (simp; done) | (simp; omega) | omega) _) | (refine Ext.trans ?_ (by assumption)) | (refine Ext.trans ?_ (held_left (by assumption)))))))).mono ?_; rintro e w1 ⟨a', c', n, rfl, -, -, hb1⟩)
    go_ret
    exact ⟨rfl, by (repeat (with_reducible (first | exact Ext.refl _ | assumption | exact held_left (by assumption) | apply Ext.drewN | apply Ext.drew | apply Ext.alloc | (refine Ext.setCell ?_ (by first | (simp; done) | (simp; omega) | omega) _) | (refine Ext.trans ?_ (by assumption)) | (refine Ext.trans ?_ (held_left (by assumption))))))⟩
  subst h0
  have HZ := Hid.mk' hE.symm
  have HOW := Hid.mk' (fun W (h : Ext w W) => own9_any ps a cap W (HL.out.ext h) (by omega) HB.out)
  clear hE
  go_enter Try.func4, Try.ntmps4
  go_upto_region 7 with (first
    | (go_at_call 12; refine (HRO.out _ (by (repeat (with_reducible (first | exact Ext.refl _ | assumption | exact held_left (by assumption) | apply Ext.drewN | apply Ext.drew | apply Ext.alloc | (refine Ext.setCell ?_ (by first | (simp; done) | (simp; omega) | omega) _) | (refine Ext.trans ?_ (by assumption)) | (refine Ext.trans ?_ (held_left (by assumption)))))))).mono ?_; rintro e w1 ⟨aw, cw, n, rfl, h1, -, hb1⟩; obtain ⟨rfl, hrl⟩ := h1 (by first | rfl | trivial); have HW := Hid.mk' hrl; have HE1 := Hid.mk' (show Ext w w1 by (repeat (with_reducible (first | exact Ext.refl _ | assumption | exact held_left (by assumption) | apply Ext.drewN | apply Ext.drew | apply Ext.alloc | (refine Ext.setCell ?_ (by first | (simp; done) | (simp; omega) | omega) _) | (refine Ext.trans ?_ (by assumption)) | (refine Ext.trans ?_ (held_left (by assumption))))))); have HB1 := Hid.mk' ((Blk.new w #[.int .u32 oid, .int .u32 ver, .string nm, .int .u8 id, .slice pa cols.length pc] 49).ext hb1); clear h1 hrl hb1)
    | (go_at_call 13; refine (HOW.out _ HE1.out).mono ?_; rintro e w2 ⟨a2, c2, qs2, rfl, ho2, hb2⟩; have HB2 := Hid.mk' hb2; have HOF := Hid.mk' (cof_any qs2 a2 c2 w2 (by rw [ho2.len]; exact ho2.rl) ho2.cap (ho2.wb HB.out) (by rw [ho2.len]; omega)); rw [ho2.rs, ho2.len] at HOF; clear ho2 hb2)
    | (go_at_call 14; refine HOF.out.mono ?_; rintro e w3 ⟨pv, rfl, h1, -, hb3⟩; obtain ⟨rfl, cc, qc, hcc, hqc⟩ := h1 HZ.out; have HCC := Hid.mk' hcc; have HQC := Hid.mk' hqc; have HB3 := Hid.mk' hb3; clear h1 hcc hqc hb3))
  have HX2 := Hid.mk' (HE1.out.trans HB2.out)
  have HX3 := Hid.mk' (HX2.out.trans HB3.out)
  have HR2 := Hid.mk' (HB1.out.ext HB2.out)
  have HR3 := Hid.mk' (HR2.out.ext HB3.out)
  have HW2 := Hid.mk' (HW.out.ext HB2.out)
  have H16 := Hid.mk' (upP_16k ps)
  have HQU : Hid (qc.map RR.r = (upP ps ps.length).map RR.r) := Hid.mk' (by rw [HQC.out, List.length_map, upP_r])
  have HOK : Hid (CatOk ((upP ps ps.length).map RR.r)) := Hid.mk' (by rw [← HQU.out]; exact HCC.out.ok)
  obtain ⟨U, hU⟩ : ∃ U, U = upP ps ps.length := ⟨_, rfl⟩
  rw [← hU] at HW2 H16 HQU HOK ⊢
  obtain ⟨E5, hE5⟩ : ∃ E, E = addE (U.map RR.r) (⟨oid, ver, nm, id, cols⟩ : Rl) := ⟨_, rfl⟩
  obtain ⟨G, hG⟩ : ∃ G, G = w2.heap.size := ⟨_, rfl⟩
  rw [← hG] at HCC ⊢
  have HG : Hid (w.heap.size < G) := Hid.mk' (by rw [hG]; exact (HB1.out.ext HB2.out).lt)
  have HGX : Hid (∀ {S : Nat → Prop} {W W' : World}, Ext w2 W → (∀ x, S x → G ≤ x) → Kp S W W' → Ext w2 W') := Hid.mk' (fun h hs hk => hk.ext h (fun x hx _ => by rw [← hG]; exact hs x hx))
  have HE5 := Hid.mk' hE5
  have g3 := HR3.out.cell
  have z3 := HR3.out.lt
  have HSG := Hid.mk' HCC.out.S_ge
  have HO8 := Hid.mk' (fun W (h : Ext w W) => own8_is (⟨(⟨oid, ver, nm, id, cols⟩ : Rl), pa, pc⟩ : RR) (⟨oid, ver, nm, id, cols⟩ : Rl) rfl W (HP.out.ext h) HPB.out.n)
  clear HRO HW HB1 hU hG hE5 HQC HL HB HOW HOF HZ
  simp only at HO8
  go_wp2_with (first
    | (go_at_call 20; refine (HO8.out _ HX3.out).mono ?_; rintro e w4 ⟨a4, c4, rfl, h4, hi4, hb4⟩; have HB4 := Hid.mk' hb4; have HADD := Hid.mk' (cadd_any G G cc qc (⟨(⟨oid, ver, nm, id, cols⟩ : Rl), a4, c4⟩ : RR) w4 (HCC.out.ext hb4) hi4 h4 HPB.out); unfold CAddPost at HADD; rw [HQU.out, ← HE5.out] at HADD; clear h4 hi4 hb4)
    | (go_at_call 19; refine HADD.out.mono ?_; rintro e w5 ⟨c', q', rfl, hqr, hc', hkp, -⟩; have HC5 := Hid.mk' hc'; have HQR := Hid.mk' hqr; have HE25 := Hid.mk' (HGX.out (HB3.out.trans HB4.out) HSG.out hkp); have HK5 := Hid.mk' hkp; clear hc' hqr hkp))
  have HX5 := Hid.mk' (HX2.out.trans HE25.out)
  have HW5 := Hid.mk' (HW2.out.ext HE25.out)
  have HR5 := Hid.mk' (HR2.out.ext HE25.out)
  have HP5 := Hid.mk' (HP.out.ext HX5.out)
  have HQ : Hid ((addP qc q').map RR.r = addL (U.map RR.r) (⟨oid, ver, nm, id, cols⟩ : Rl)) := Hid.mk' (by rw [addP_r, HQU.out, HQR.out])
  obtain ⟨Q, hQ⟩ : ∃ Q, Q = addP qc q' := ⟨_, rfl⟩
  rw [← hQ] at HC5 HQ
  clear hQ HQR HQU HCC HW2 HR3 g3 z3 HADD HK5 HB4 HX3 HX2 HE1 HB2 HB3
  have hU64 := H16.out.1
  go_loopw [12] (fun i wr => ∃ (k : Nat), k ≤ U.length ∧ i = .int .i64 k ∧ Hid (Ext w5 wr)) (fun i _ => U.length - (intOf i).toNat)
  case atStart => exact ⟨0, Nat.zero_le _, rfl, Hid.mk' (Ext.refl _)⟩
  case round =>
    obtain ⟨k, hk, rfl, hE⟩ := hrel
    by_cases hlt : k < U.length
    · obtain ⟨b, o, rfl, hb, hx⟩ := HW5.out.row.at_ (i := k) (by simpa using hlt)
      obtain ⟨f0, f1, f2, f3, f4⟩ := RR.at_ hlt hx hb hE.out
      have HF := Hid.mk' (fun W (h : Ext w5 W) => RR.at_ hlt hx hb h)
      have hbw : b < wr.heap.size := Nat.lt_of_lt_of_le hb hE.out.size
      have HG1 : Hid (getR U[k].r.oid U[k].r.ver (Q.map RR.r) = some U[k].r) := Hid.mk' (by rw [HQ.out]; exact add_get HOK.out _ (List.mem_map_of_mem (List.getElem_mem hlt)))
      have HUI := Hid.mk' (HW5.out.sl _ (List.getElem_mem hlt))
      have HUN := Hid.mk' (H16.out.2 _ (List.getElem_mem hlt))
      obtain ⟨u, hu⟩ : ∃ u, u = U[k] := ⟨_, rfl⟩
      rw [← hu] at f0 f1 f2 f3 f4 HF HG1 HUI HUN
      have HGT := Hid.mk' (fun W (h : Ext w5 W) => cget_is (HC5.out.ext h) HG1.out)
      have HLT : Hid (k < U.length) := Hid.mk' hlt
      clear hx hu HG1
      go_upto_region 12 with (first
        | (go_at_call 21; refine (ref9_any _ _ _).mono ?_; rintro e w6 ⟨rfl, hb6⟩; have HB6 := Hid.mk' hb6; clear hb6)
        | (go_at_call 15; refine (HGT.out _ (hE.out.trans HB6.out)).mono ?_; rintro e w7 ⟨⟨r7, a7, c7⟩, rfl, hr7, ho7, hb7⟩; simp only at hr7; subst hr7; have HI7 := Hid.mk' ho7.in; have HB7 := Hid.mk' (HB6.out.trans hb7); clear ho7 hb7; try simp only))
      obtain ⟨w8, hw8⟩ : ∃ w8, w8 = w7.alloc (.cells #[.int .u32 u.r.oid, .int .u32 u.r.ver, .string u.r.nm, .int .u8 u.r.id, .slice a7 u.r.cols.length c7] 36) := ⟨_, rfl⟩
      obtain ⟨G7, hG7⟩ : ∃ G, G = w7.heap.size := ⟨_, rfl⟩
      have HB8 : Hid (Blk w8 G7 #[.int .u32 u.r.oid, .int .u32 u.r.ver, .string u.r.nm, .int .u8 u.r.id, .slice a7 u.r.cols.length c7] 36) := Hid.mk' (by rw [hw8, hG7]; exact Blk.new _ _ _)
      have HX8 : Hid (Ext wr w8) := Hid.mk' (by rw [hw8]; exact HB7.out.alloc _)
      have HI8 : Hid (RR.in w8 ⟨u.r, a7, c7⟩) := Hid.mk' (by rw [hw8]; exact RR.in.ext HI7.out ((Ext.refl w7).alloc _))
      rw [← hw8, ← hG7]
      clear hw8 hG7 HI7 HB7 HB6 HGT
      have HS : Hid (∀ w', Ext w8 w' → Ext w8 w' ∧ (∀ i, w'.cell? ⟨G7, i, none⟩ = (#[.int .u32 u.r.oid, .int .u32 u.r.ver, .string u.r.nm, .int .u8 u.r.id, .slice a7 u.r.cols.length c7])[i]?) ∧ w'.cell? ⟨b, o + k * 5, none⟩ = some (.int .u32 u.r.oid) ∧ w'.cell? ⟨b, o + k * 5 + 1, none⟩ = some (.int .u32 u.r.ver) ∧ w'.cell? ⟨b, o + k * 5 + 2, none⟩ = some (.string u.r.nm) ∧ w'.cell? ⟨b, o + k * 5 + 3, none⟩ = some (.int .u8 u.r.id) ∧ w'.cell? ⟨b, o + k * 5 + 4, none⟩ = some (.slice u.a u.r.cols.length u.c) ∧ b < w'.heap.size ∧ G7 < w'.heap.size) := Hid.mk' (fun w' h => by
        obtain ⟨q0, q1, q2, q3, q4⟩ := HF.out w' (hE.out.trans (HX8.out.trans h))
        exact ⟨h, (HB8.out.ext h).cell, q0, q1, q2, q3, q4, Nat.lt_of_lt_of_le hbw (HX8.out.trans h).size, (HB8.out.ext h).lt⟩)
      have HBK := Hid.mk' (fun W (h : Ext w8 W) => pback_is u.r a7 c7 W (RR.in.ext HI8.out h) (by have := HUN.out; omega))
      clear f0 f1 f2 f3 f4 HF hbw hb
      go_region_held3 (fun w' => Ext w8 w' ∧ (∀ i, w'.cell? ⟨G7, i, none⟩ = (#[.int .u32 u.r.oid, .int .u32 u.r.ver, .string u.r.nm, .int .u8 u.r.id, .slice a7 u.r.cols.length c7])[i]?) ∧ w'.cell? ⟨b, o + k * 5, none⟩ = some (.int .u32 u.r.oid) ∧ w'.cell? ⟨b, o + k * 5 + 1, none⟩ = some (.int .u32 u.r.ver) ∧ w'.cell? ⟨b, o + k * 5 + 2, none⟩ = some (.string u.r.nm) ∧ w'.cell? ⟨b, o + k * 5 + 3, none⟩ = some (.int .u8 u.r.id) ∧ w'.cell? ⟨b, o + k * 5 + 4, none⟩ = some (.slice u.a u.r.cols.length u.c) ∧ b < w'.heap.size ∧ G7 < w'.heap.size) (exact HS.out _ (by (repeat (with_reducible (first | exact Ext.refl _ | assumption | exact held_left (by assumption) | apply Ext.drewN | apply Ext.drew | apply Ext.alloc | (refine Ext.setCell ?_ (by first | (simp; done) | (simp; omega) | omega) _) | (refine Ext.trans ?_ (by assumption)) | (refine Ext.trans ?_ (held_left (by assumption))))))))
        (first
          | (go_at_call 23; refine (HBK.out _ (by (repeat (with_reducible (first | exact Ext.refl _ | assumption | exact held_left (by assumption) | apply Ext.drewN | apply Ext.drew | apply Ext.alloc | (refine Ext.setCell ?_ (by first | (simp; done) | (simp; omega) | omega) _) | (refine Ext.trans ?_ (by assumption)) | (refine Ext.trans ?_ (held_left (by assumption)))))))).mono ?_; rintro e w9 ⟨a9, c9, rfl, h9, hb9⟩; have HI9 := Hid.mk' h9; clear h9)
          | (go_at_call 22; refine (rsame8_is u.r u.r a9 u.a c9 u.c _ (RR.in.ext HI9.out (by (repeat (with_reducible (first | exact Ext.refl _ | assumption | exact held_left (by assumption) | apply Ext.drewN | apply Ext.drew | apply Ext.alloc | (refine Ext.setCell ?_ (by first | (simp; done) | (simp; omega) | omega) _) | (refine Ext.trans ?_ (by assumption)) | (refine Ext.trans ?_ (held_left (by assumption)))))))) (RR.in.ext HUI.out (hE.out.trans (HX8.out.trans (by (repeat (with_reducible (first | exact Ext.refl _ | assumption | exact held_left (by assumption) | apply Ext.drewN | apply Ext.drew | apply Ext.alloc | (refine Ext.setCell ?_ (by first | (simp; done) | (simp; omega) | omega) _) | (refine Ext.trans ?_ (by assumption)) | (refine Ext.trans ?_ (held_left (by assumption)))))))))) (by have := HUN.out; omega) (by have := HUN.out; omega)).mono ?_; rintro e w10 ⟨rfl, hb10⟩; have HR10 := Hid.mk' (rlB_true.2 (rfl : u.r = u.r)); rw [HR10.out]))
      have HX10 : Hid (Ext w5 w10) := Hid.mk' (hE.out.trans (HX8.out.trans (by (repeat (with_reducible (first | exact Ext.refl _ | assumption | exact held_left (by assumption) | apply Ext.drewN | apply Ext.drew | apply Ext.alloc | (refine Ext.setCell ?_ (by first | (simp; done) | (simp; omega) | omega) _) | (refine Ext.trans ?_ (by assumption)) | (refine Ext.trans ?_ (held_left (by assumption)))))))))
      go_wp2
      go_roundw
      case rel => exact ⟨k + 1, by have := HLT.out; omega, by go_num, HX10⟩
      case measure => have := HLT.out; simp [intOf]; omega
    · obtain rfl : k = U.length := by omega
      have HX6 := Hid.mk' (HX5.out.trans hE.out)
      by_cases h5 : E5 = 0
      case neg =>
        have h5' : (E5 != 0) = true := by simpa using h5
        have HLN := Hid.mk' (len_any G G c' Q wr (HC5.out.ext hE.out))
        have hQU : Q.length = U.length := by
          have := congrArg List.length HQ.out
          rw [addL_len (by rw [← HE5.out]; exact h5), List.length_map, List.length_map] at this
          exact this
        rw [hQU] at HLN
        clear h5 hQU
        go_wp2_with (first
          | (go_at_call 24; refine HLN.out.mono ?_; rintro e w11 ⟨rfl, hb11⟩; have HB11 := Hid.mk' hb11; clear hb11)
          | (go_at_call 18; refine (awake9_any _).mono ?_; rintro e w12 ⟨rfl, hb12⟩; have HB12 := Hid.mk' hb12; clear hb12))
        go_ret
        exact ⟨rfl, HX6.out.trans (HB11.out.trans HB12.out)⟩
      subst h5
      have hnew := add_new HOK.out HE5.out.symm
      rw [← HQ.out] at hnew
      obtain ⟨hn1, hn2, hn3⟩ := hnew
      rw [List.length_map, List.length_map] at hn2
      have HN2 := Hid.mk' hn2
      have HN3 := Hid.mk' hn3
      have HGT := Hid.mk' (fun W (h : Ext w5 W) => cget_is (HC5.out.ext h) hn1)
      clear hn1 hn2 hn3
      have hr0 := (HR5.out.ext hE.out).cell
      have hr1 := (HR5.out.ext hE.out).lt
      go_upto_region 17 with (first
        | (go_at_call 21; refine (ref9_any _ _ _).mono ?_; rintro e w6 ⟨rfl, hb6⟩; have HB6 := Hid.mk' hb6; clear hb6)
        | (go_at_call 15; refine (HGT.out _ (hE.out.trans HB6.out)).mono ?_; rintro e w7 ⟨⟨r7, a7, c7⟩, rfl, hr7, ho7, hb7⟩; simp only at hr7; subst hr7; have HI7 := Hid.mk' ho7.in; have HB7 := Hid.mk' (HB6.out.trans hb7); clear ho7 hb7; try simp only))
      have HX7 := Hid.mk' (hE.out.trans HB7.out)
      obtain ⟨w8, hw8⟩ : ∃ w8, w8 = w7.alloc (.cells #[.int .u32 oid, .int .u32 ver, .string nm, .int .u8 id, .slice a7 cols.length c7] 36) := ⟨_, rfl⟩
      obtain ⟨G7, hG7⟩ : ∃ G, G = w7.heap.size := ⟨_, rfl⟩
      have HB8 : Hid (Blk w8 G7 #[.int .u32 oid, .int .u32 ver, .string nm, .int .u8 id, .slice a7 cols.length c7] 36) := Hid.mk' (by rw [hw8, hG7]; exact Blk.new _ _ _)
      have HX8 : Hid (Ext w5 w8) := Hid.mk' (by rw [hw8]; exact HX7.out.alloc _)
      have HI8 : Hid (RR.in w8 ⟨(⟨oid, ver, nm, id, cols⟩ : Rl), a7, c7⟩) := Hid.mk' (by rw [hw8]; exact RR.in.ext HI7.out ((Ext.refl w7).alloc _))
      have HC8 : Hid (Ca w8 G G c' Q) := Hid.mk' (HC5.out.ext HX8.out)
      have HNS : Hid (¬ Ca.S G c' G7 ∧ ¬ Ca.S G c' w.heap.size) := Hid.mk' (by
        have h1 := (HC5.out.ext HX7.out).ptr.lt
        have h2 := HG.out
        refine ⟨fun h => ?_, fun h => ?_⟩
        · rcases h with h | h
          · omega
          · have := ((HC5.out.ext HX7.out).own.lt _ h).2; omega
        · have := HC5.out.S_ge _ h; omega)
      have HR8 : Hid (Blk w8 w.heap.size #[.int .u32 oid, .int .u32 ver, .string nm, .int .u8 id, .slice pa cols.length pc] 49) := Hid.mk' (HR5.out.ext HX8.out)
      rw [← hw8, ← hG7]
      clear hw8 hG7 HI7 HB7 HB6 HGT hr0 hr1
      have HS : Hid (∀ w', Kp (Ca.S G c') w8 w' → (∀ i, w'.cell? ⟨G7, i, none⟩ = (#[.int .u32 oid, .int .u32 ver, .string nm, .int .u8 id, .slice a7 cols.length c7])[i]?) ∧ (∀ i, w'.cell? ⟨w.heap.size, i, none⟩ = (#[.int .u32 oid, .int .u32 ver, .string nm, .int .u8 id, .slice pa cols.length pc])[i]?) ∧ G7 < w'.heap.size ∧ w.heap.size < w'.heap.size) := Hid.mk' (fun w' h => by
        have h1 := HB8.out.kp h HNS.out.1
        have h2 := HR8.out.kp h HNS.out.2
        exact ⟨h1.cell, h2.cell, h1.lt, h2.lt⟩)
      have HPN : Hid (cols.length ≤ 16) := Hid.mk' (Rl.cols_le (r := (⟨oid, ver, nm, id, cols⟩ : Rl)) (addE_zero HE5.out.symm).1)
      have HBK := Hid.mk' (fun W (h : Ext w8 W) => pback_is (⟨oid, ver, nm, id, cols⟩ : Rl) a7 c7 W (RR.in.ext HI8.out h) (by have := HPN.out; simp only; omega))
      have HSM := Hid.mk' (fun a9 c9 W (hi : RR.in W ⟨(⟨oid, ver, nm, id, cols⟩ : Rl), a9, c9⟩) (h : Ext w8 W) => rsame8_is (⟨oid, ver, nm, id, cols⟩ : Rl) (⟨oid, ver, nm, id, cols⟩ : Rl) a9 pa c9 pc W hi (RR.in.ext HP5.out (HX8.out.trans h)) (by have := HPN.out; simp only; omega) (by have := HPN.out; simp only; omega))
      rw [rlB_true.2 rfl] at HSM
      have HLN := Hid.mk' (fun W (h : Ext w8 W) => len_any G G c' Q W (HC8.out.ext h))
      rw [HN2.out, show ((U.length + 1 : Nat) : Int) = (U.length : Int) + 1 from rfl] at HLN
      have hw1 : IntKind.i64.wrap ((U.length : Int) + 1) = (U.length : Int) + 1 := by simp [IntKind.wrap, IntKind.signed, IntKind.bits]; split <;> omega
      have HO8' := Hid.mk' (fun W (h : Ext w8 W) => own8_is (⟨(⟨oid, ver, nm, id, cols⟩ : Rl), pa, pc⟩ : RR) (⟨oid, ver, nm, id, cols⟩ : Rl) rfl W (HP5.out.ext (HX8.out.trans h)) HPB.out.n)
      simp only at HBK HSM HO8'
      clear HO8
      go_region_held3 (fun w' => (∀ i, w'.cell? ⟨G7, i, none⟩ = (#[.int .u32 oid, .int .u32 ver, .string nm, .int .u8 id, .slice a7 cols.length c7])[i]?) ∧ (∀ i, w'.cell? ⟨w.heap.size, i, none⟩ = (#[.int .u32 oid, .int .u32 ver, .string nm, .int .u8 id, .slice pa cols.length pc])[i]?) ∧ G7 < w'.heap.size ∧ w.heap.size < w'.heap.size) (first | exact HS.out _ HKG.out | exact HS.out _ HKF.out | exact HS.out _ (Kp.of_ext (by (repeat (with_reducible (first | exact Ext.refl _ | assumption | exact held_left (by assumption) | apply Ext.drewN | apply Ext.drew | apply Ext.alloc | (refine Ext.setCell ?_ (by first | (simp; done) | (simp; omega) | omega) _) | (refine Ext.trans ?_ (by assumption)) | (refine Ext.trans ?_ (held_left (by assumption)))))))))
        (first
          | (go_at_call 23; refine (HBK.out _ (by (repeat (with_reducible (first | exact Ext.refl _ | assumption | exact held_left (by assumption) | apply Ext.drewN | apply Ext.drew | apply Ext.alloc | (refine Ext.setCell ?_ (by first | (simp; done) | (simp; omega) | omega) _) | (refine Ext.trans ?_ (by assumption)) | (refine Ext.trans ?_ (held_left (by assumption)))))))).mono ?_; rintro e w9 ⟨a9, c9, rfl, h9, hb9⟩; have HI9 := Hid.mk' h9; clear h9)
          | (go_at_call 22; refine (HSM.out _ _ _ (RR.in.ext HI9.out (by (repeat (with_reducible (first | exact Ext.refl _ | assumption | exact held_left (by assumption) | apply Ext.drewN | apply Ext.drew | apply Ext.alloc | (refine Ext.setCell ?_ (by first | (simp; done) | (simp; omega) | omega) _) | (refine Ext.trans ?_ (by assumption)) | (refine Ext.trans ?_ (held_left (by assumption)))))))) (by (repeat (with_reducible (first | exact Ext.refl _ | assumption | exact held_left (by assumption) | apply Ext.drewN | apply Ext.drew | apply Ext.alloc | (refine Ext.setCell ?_ (by first | (simp; done) | (simp; omega) | omega) _) | (refine Ext.trans ?_ (by assumption)) | (refine Ext.trans ?_ (held_left (by assumption)))))))).mono ?_; rintro e w10 ⟨rfl, hb10⟩)
          | (go_at_call 24; refine (HLN.out _ (by (repeat (with_reducible (first | exact Ext.refl _ | assumption | exact held_left (by assumption) | apply Ext.drewN | apply Ext.drew | apply Ext.alloc | (refine Ext.setCell ?_ (by first | (simp; done) | (simp; omega) | omega) _) | (refine Ext.trans ?_ (by assumption)) | (refine Ext.trans ?_ (held_left (by assumption)))))))).mono ?_; rintro e w11 ⟨rfl, hb11⟩)
          | (go_at_call 20; refine (HO8'.out _ (by (repeat (with_reducible (first | exact Ext.refl _ | assumption | exact held_left (by assumption) | apply Ext.drewN | apply Ext.drew | apply Ext.alloc | (refine Ext.setCell ?_ (by first | (simp; done) | (simp; omega) | omega) _) | (refine Ext.trans ?_ (by assumption)) | (refine Ext.trans ?_ (held_left (by assumption)))))))).mono ?_; rintro e w12 ⟨a12, c12, rfl, h12, hi12, hb12⟩; have HX12 : Hid (Ext w8 w12) := Hid.mk' (by (repeat (with_reducible (first | exact Ext.refl _ | assumption | exact held_left (by assumption) | apply Ext.drewN | apply Ext.drew | apply Ext.alloc | (refine Ext.setCell ?_ (by first | (simp; done) | (simp; omega) | omega) _) | (refine Ext.trans ?_ (by assumption)) | (refine Ext.trans ?_ (held_left (by assumption))))))); have HADD := Hid.mk' (fun W (h : Ext w12 W) => cadd_any G G c' Q (⟨(⟨oid, ver, nm, id, cols⟩ : Rl), a12, c12⟩ : RR) W (HC8.out.ext (HX12.out.trans h)) (RR.in.ext hi12 h) h12 HPB.out); unfold CAddPost at HADD; rw [HN3.out] at HADD; clear h12 hi12)
          | (go_at_call 19; refine (HADD.out _ (by (repeat (with_reducible (first | exact Ext.refl _ | assumption | exact held_left (by assumption) | apply Ext.drewN | apply Ext.drew | apply Ext.alloc | (refine Ext.setCell ?_ (by first | (simp; done) | (simp; omega) | omega) _) | (refine Ext.trans ?_ (by assumption)) | (refine Ext.trans ?_ (held_left (by assumption)))))))).mono ?_; rintro e w13 ⟨c13, q13, rfl, -, -, hkp, -⟩; have HKF : Hid (Kp (Ca.S G c') w8 w13) := Hid.mk' ((Kp.of_ext (show Ext w8 _ by (repeat (with_reducible (first | exact Ext.refl _ | assumption | exact held_left (by assumption) | apply Ext.drewN | apply Ext.drew | apply Ext.alloc | (refine Ext.setCell ?_ (by first | (simp; done) | (simp; omega) | omega) _) | (refine Ext.trans ?_ (by assumption)) | (refine Ext.trans ?_ (held_left (by assumption)))))))).trans hkp (fun x hx _ => hx)); clear hkp)
          | (go_at_call 18; refine (awake9_any _).mono ?_; rintro e w14 ⟨rfl, hb14⟩; have HKG : Hid (Kp (Ca.S G c') w8 w14) := Hid.mk' (HKF.out.trans (Kp.of_ext (show Ext w13 w14 by (repeat (with_reducible (first | exact Ext.refl _ | assumption | exact held_left (by assumption) | apply Ext.drewN | apply Ext.drew | apply Ext.alloc | (refine Ext.setCell ?_ (by first | (simp; done) | (simp; omega) | omega) _) | (refine Ext.trans ?_ (by assumption)) | (refine Ext.trans ?_ (held_left (by assumption)))))))) (fun x hx _ => hx))))
      go_wp2
      go_ret
      exact ⟨rfl, Kp.ext (HX5.out.trans HX8.out) (fun x hx _ => by have := HC5.out.S_ge _ hx; have := HG.out; omega) HKG.out⟩

end Go.Proofs.Ythdjinicmnhgpaa

/-
What is wrong with an event: the program's rowed, own, truncate, Right.
-/
namespace Go.Proofs.Ythdjinicmnhgpaa
open Go.RowKit

def rowedB (k : Int) : Bool := decide (4 ≤ k ∧ k ≤ 6)
/-- An event that has nothing but what is its kind's. -/
def Ev.only (e : Ev) : Ev := if rowedB e.kind = true then ⟨e.kind, e.ao, e.av, e.old, e.b, e.a, [], 0⟩ else ⟨e.kind, 0, 0, 0, [], [], e.rs, e.fl⟩
noncomputable def ownB (e : Ev) : Bool := evB e e.only
noncomputable def risB (l : List Rf) : Bool := @decide (∀ i (h : i + 1 < l.length), aheadB l[i].o l[i].v l[i + 1].o l[i + 1].v = true) (Classical.propDecidable _)
theorem risB_true {l : List Rf} : risB l = true ↔ ∀ i (h : i + 1 < l.length), aheadB l[i].o l[i].v l[i + 1].o l[i + 1].v = true := by unfold risB; simp
theorem risB_no {l : List Rf} {i : Nat} (h : i + 1 < l.length) (hn : aheadB l[i].o l[i].v l[i + 1].o l[i + 1].v = false) : risB l = false := by
  cases hr : risB l with
  | false => rfl
  | true => rw [risB_true.1 hr i h] at hn; cases hn
def hasAll (rs : List Rf) (l : List Rl) : Bool := rs.all (fun x => hasR x.o x.v l)
theorem hasAll_no {rs : List Rf} {l : List Rl} {k : Nat} (hk : k < rs.length) (h : hasR rs[k].o rs[k].v l = false) : hasAll rs l = false := by
  unfold hasAll
  rw [List.all_eq_false]
  exact ⟨_, List.getElem_mem hk, by rw [h]; simp⟩
theorem hasAll_yes {rs : List Rf} {l : List Rl} (h : ∀ k (hk : k < rs.length), hasR rs[k].o rs[k].v l = true) : hasAll rs l = true := by
  unfold hasAll
  rw [List.all_eq_true]
  intro x hx
  obtain ⟨k, hk, rfl⟩ := List.getElem_of_mem hx
  exact h k hk
noncomputable def truncE (e : Ev) (l : List Rl) : Int := if e.rs.length < 1 ∨ 8 < e.rs.length then 17 else if risB e.rs = false then 15 else if hasAll e.rs l = false then 10 else if 3 < e.fl then 4 else 0
noncomputable def evE (e : Ev) (l : List Rl) : Int :=
  if e.kind < 4 ∨ 7 < e.kind then 7 else if ownB e = false then 3 else if e.kind = 7 then truncE e l else match getR e.ao e.av l with
    | none => 10
    | some r => imgE r e.kind e.old e.b e.a

set_option maxRecDepth 100000 in set_option maxHeartbeats 1600000 in
theorem rowed_any (x : EL) (w : World) : Calls Try.prog 62 #[x.agg] w fun e w' => e = .returned (.bool (rowedB x.e.kind)) ∧ Ext w w' := by
  obtain ⟨⟨k1, ao1, av1, old1, b1, a1, r1, fl1⟩, ba1, bc1, aa1, ac1, ra1, rc1⟩ := x
  unfold EL.agg
  simp only
  by_cases h4 : 4 ≤ k1
  · by_cases h6 : k1 ≤ 6
    · have HR := Hid.mk' (show rowedB k1 = true from decide_eq_true ⟨h4, h6⟩)
      go_enter Try.func62, Try.ntmps62
      go_wp2
      go_ret
      exact ⟨ret_bool HR.out.symm, by (repeat (with_reducible (first | exact Ext.refl _ | assumption | exact held_left (by assumption) | apply Ext.drewN | apply Ext.drew | apply Ext.alloc | (refine Ext.setCell ?_ (by first | (simp; done) | (simp; omega) | omega) _) | (refine Ext.trans ?_ (by assumption)) | (refine Ext.trans ?_ (held_left (by assumption))))))⟩
    · have HR := Hid.mk' (show rowedB k1 = false from decide_eq_false (fun h => h6 h.2))
      go_enter Try.func62, Try.ntmps62
      go_wp2
      go_ret
      exact ⟨ret_bool HR.out.symm, by (repeat (with_reducible (first | exact Ext.refl _ | assumption | exact held_left (by assumption) | apply Ext.drewN | apply Ext.drew | apply Ext.alloc | (refine Ext.setCell ?_ (by first | (simp; done) | (simp; omega) | omega) _) | (refine Ext.trans ?_ (by assumption)) | (refine Ext.trans ?_ (held_left (by assumption))))))⟩
  · have HR := Hid.mk' (show rowedB k1 = false from decide_eq_false (fun h => h4 h.1))
    go_enter Try.func62, Try.ntmps62
    go_wp2
    go_ret
    exact ⟨ret_bool HR.out.symm, by (repeat (with_reducible (first | exact Ext.refl _ | assumption | exact held_left (by assumption) | apply Ext.drewN | apply Ext.drew | apply Ext.alloc | (refine Ext.setCell ?_ (by first | (simp; done) | (simp; omega) | omega) _) | (refine Ext.trans ?_ (by assumption)) | (refine Ext.trans ?_ (held_left (by assumption))))))⟩

theorem nilRef (w : World) : Sl w (.slice none 0 0) 2 (([] : List Rf).map Rf.cells) := ⟨none, 0, rfl, .inl rfl⟩
theorem nilRowP (w : World) : Sl w (.slice none 0 0) 5 (([] : List K).map K.pc) := ⟨none, 0, rfl, .inl rfl⟩
set_option maxRecDepth 100000 in set_option maxHeartbeats 4000000 in
theorem pown13_any (x : EL) (w : World) (hx : x.at 5 K.pc w) (hs : x.e.small) : Calls Try.prog 64 #[x.agg] w fun e w' => e = .returned (.bool (ownB x.e)) ∧ Ext w w' := by
  have HRW := Hid.mk' (fun W => rowed_any x W)
  have HAK := Hid.mk' (fun y W (h : Ext w W) (h2 : y.at 5 K.pc W) (h3 : y.e.small) => ealike_any x y W (hx.ext h) h2 hs h3)
  have HX := Hid.mk' (And.intro hx hs)
  obtain ⟨⟨k1, ao1, av1, old1, b1, a1, r1, fl1⟩, ba1, bc1, aa1, ac1, ra1, rc1⟩ := x
  unfold EL.agg at HRW HAK ⊢
  simp only at HRW HAK ⊢
  clear hx hs
  cases hr : rowedB k1 with
  | true =>
    have HR := Hid.mk' (show ownB (⟨k1, ao1, av1, old1, b1, a1, r1, fl1⟩ : Ev) = evB (⟨k1, ao1, av1, old1, b1, a1, r1, fl1⟩ : Ev) ⟨k1, ao1, av1, old1, b1, a1, [], 0⟩ from by unfold ownB Ev.only; rw [if_pos hr])
    rw [hr] at HRW
    clear hr
    go_enter Try.func64, Try.ntmps64
    go_upto_region 3 with (go_at_call 62; refine (HRW.out _).mono ?_; rintro e w1 ⟨rfl, hb1⟩; have HB1 := Hid.mk' hb1; have hE_w1 : Ext ((w.alloc (.cells #[.int .u8 k1, .int .u32 ao1, .int .u32 av1, .int .u8 old1, .slice ba1 b1.length bc1, .slice aa1 a1.length ac1, .slice ra1 r1.length rc1, .int .u8 fl1] 83)).alloc (.cells #[.int .u8 k1, .int .u32 0, .int .u32 0, .int .u8 0, .slice none 0 0, .slice none 0 0, .slice none 0 0, .int .u8 0] 83)) w1 := (by (repeat (with_reducible (first | exact Ext.refl _ | assumption | exact held_left (by assumption) | apply Ext.drewN | apply Ext.drew | apply Ext.alloc | (refine Ext.setCell ?_ (by first | (simp; done) | (simp; omega) | omega) _) | (refine Ext.trans ?_ (by assumption)) | (refine Ext.trans ?_ (held_left (by assumption))))))); obtain ⟨hc_w1, hf_w1⟩ := hE_w1.cells; have hz_w1 := hE_w1.size)
    have HW1 := Hid.mk' (((Ext.refl (w.alloc (.cells #[.int .u8 k1, .int .u32 ao1, .int .u32 av1, .int .u8 old1, .slice ba1 b1.length bc1, .slice aa1 a1.length ac1, .slice ra1 r1.length rc1, .int .u8 fl1] 83))).alloc (.cells #[.int .u8 k1, .int .u32 0, .int .u32 0, .int .u8 0, .slice none 0 0, .slice none 0 0, .slice none 0 0, .int .u8 0] 83)).trans HB1.out)
    have hV : Blk w1 w.heap.size #[.int .u8 k1, .int .u32 ao1, .int .u32 av1, .int .u8 old1, .slice ba1 b1.length bc1, .slice aa1 a1.length ac1, .slice ra1 r1.length rc1, .int .u8 fl1] 83 := (((Blk.new w #[.int .u8 k1, .int .u32 ao1, .int .u32 av1, .int .u8 old1, .slice ba1 b1.length bc1, .slice aa1 a1.length ac1, .slice ra1 r1.length rc1, .int .u8 fl1] 83).alloc _).ext HB1.out)
    have hZ : Blk w1 (w.heap.size + 1) #[.int .u8 k1, .int .u32 0, .int .u32 0, .int .u8 0, .slice none 0 0, .slice none 0 0, .slice none 0 0, .int .u8 0] 83 := ((Blk.new' (w := w.alloc (.cells #[.int .u8 k1, .int .u32 ao1, .int .u32 av1, .int .u8 old1, .slice ba1 b1.length bc1, .slice aa1 a1.length ac1, .slice ra1 r1.length rc1, .int .u8 fl1] 83)) _ _ (by simp)).ext HB1.out)
    have HV := Hid.mk' hV
    have HZ := Hid.mk' hZ
    have gv := hV.cell
    have gz := hZ.cell
    have gzf := hZ.frozen
    have zv := hV.lt
    have zz := hZ.lt
    have hE1 := HW1.out
    clear hV hZ hE_w1 hc_w1 hf_w1 hz_w1
    go_region_held3 (fun w' => Ext (w.alloc (.cells #[.int .u8 k1, .int .u32 ao1, .int .u32 av1, .int .u8 old1, .slice ba1 b1.length bc1, .slice aa1 a1.length ac1, .slice ra1 r1.length rc1, .int .u8 fl1] 83)) w' ∧ (∀ b o, b < (w.alloc (.cells #[.int .u8 k1, .int .u32 ao1, .int .u32 av1, .int .u8 old1, .slice ba1 b1.length bc1, .slice aa1 a1.length ac1, .slice ra1 r1.length rc1, .int .u8 fl1] 83)).heap.size → w'.cell? ⟨b, o, none⟩ = (w.alloc (.cells #[.int .u8 k1, .int .u32 ao1, .int .u32 av1, .int .u8 old1, .slice ba1 b1.length bc1, .slice aa1 a1.length ac1, .slice ra1 r1.length rc1, .int .u8 fl1] 83)).cell? ⟨b, o, none⟩) ∧ (∀ b o, b < (w.alloc (.cells #[.int .u8 k1, .int .u32 ao1, .int .u32 av1, .int .u8 old1, .slice ba1 b1.length bc1, .slice aa1 a1.length ac1, .slice ra1 r1.length rc1, .int .u8 fl1] 83)).heap.size → w'.frozen? ⟨b, o, none⟩ = (w.alloc (.cells #[.int .u8 k1, .int .u32 ao1, .int .u32 av1, .int .u8 old1, .slice ba1 b1.length bc1, .slice aa1 a1.length ac1, .slice ra1 r1.length rc1, .int .u8 fl1] 83)).frozen? ⟨b, o, none⟩)) ((exact held_of (by (repeat (with_reducible (first | exact Ext.refl _ | assumption | exact held_left (by assumption) | apply Ext.drewN | apply Ext.drew | apply Ext.alloc | (refine Ext.setCell ?_ (by first | (simp; done) | (simp; omega) | omega) _) | (refine Ext.trans ?_ (by assumption)) | (refine Ext.trans ?_ (held_left (by assumption))))))))) (fail)
    have HZ2 := Hid.mk' (show Blk (((((w1.setCell ⟨w.heap.size + 1, 1, none⟩ (.int .u32 ao1)).setCell ⟨w.heap.size + 1, 2, none⟩ (.int .u32 av1)).setCell ⟨w.heap.size + 1, 3, none⟩ (.int .u8 old1)).setCell ⟨w.heap.size + 1, 4, none⟩ (.slice ba1 b1.length bc1)).setCell ⟨w.heap.size + 1, 5, none⟩ (.slice aa1 a1.length ac1)) (w.heap.size + 1) #[.int .u8 k1, .int .u32 ao1, .int .u32 av1, .int .u8 old1, .slice ba1 b1.length bc1, .slice aa1 a1.length ac1, .slice none 0 0, .int .u8 0] 83 from by
      have := ((((HZ.out.set 1 (.int .u32 ao1)).set 2 (.int .u32 av1)).set 3 (.int .u8 old1)).set 4 (.slice ba1 b1.length bc1)).set 5 (.slice aa1 a1.length ac1)
      simpa only [List.setIfInBounds_toArray, List.set_cons_zero, List.set_cons_succ] using this)
    have HE2 := Hid.mk' (show Ext (w.alloc (.cells #[.int .u8 k1, .int .u32 ao1, .int .u32 av1, .int .u8 old1, .slice ba1 b1.length bc1, .slice aa1 a1.length ac1, .slice ra1 r1.length rc1, .int .u8 fl1] 83)) (((((w1.setCell ⟨w.heap.size + 1, 1, none⟩ (.int .u32 ao1)).setCell ⟨w.heap.size + 1, 2, none⟩ (.int .u32 av1)).setCell ⟨w.heap.size + 1, 3, none⟩ (.int .u8 old1)).setCell ⟨w.heap.size + 1, 4, none⟩ (.slice ba1 b1.length bc1)).setCell ⟨w.heap.size + 1, 5, none⟩ (.slice aa1 a1.length ac1)) from by (repeat (with_reducible (first | exact Ext.refl _ | assumption | exact held_left (by assumption) | apply Ext.drewN | apply Ext.drew | apply Ext.alloc | (refine Ext.setCell ?_ (by first | (simp; done) | (simp; omega) | omega) _) | (refine Ext.trans ?_ (by assumption)) | (refine Ext.trans ?_ (held_left (by assumption)))))))
    have HD := Hid.mk' HZ2.out.drew
    have HE3 := Hid.mk' HE2.out.drew
    obtain ⟨w2, hw2⟩ : ∃ w2, w2 = (((((w1.setCell ⟨w.heap.size + 1, 1, none⟩ (.int .u32 ao1)).setCell ⟨w.heap.size + 1, 2, none⟩ (.int .u32 av1)).setCell ⟨w.heap.size + 1, 3, none⟩ (.int .u8 old1)).setCell ⟨w.heap.size + 1, 4, none⟩ (.slice ba1 b1.length bc1)).setCell ⟨w.heap.size + 1, 5, none⟩ (.slice aa1 a1.length ac1)).drew := ⟨_, rfl⟩
    rw [← hw2] at HD HE3 ⊢
    have HV2 := Hid.mk' ((Blk.new w #[.int .u8 k1, .int .u32 ao1, .int .u32 av1, .int .u8 old1, .slice ba1 b1.length bc1, .slice aa1 a1.length ac1, .slice ra1 r1.length rc1, .int .u8 fl1] 83).ext HE3.out)
    clear hw2 HZ2 HE2 gv gz gzf zv zz hE1
    have gv := HV2.out.cell
    have gz := HD.out.cell
    have zv := HV2.out.lt
    have zz := HD.out.lt
    have HEw : Hid (Ext w w2) := Hid.mk' (((Ext.refl w).alloc _).trans HE3.out)
    have HC := Hid.mk' (HAK.out ⟨⟨k1, ao1, av1, old1, b1, a1, [], 0⟩, ba1, bc1, aa1, ac1, none, 0⟩ w2 HEw.out ⟨HX.out.1.b.ext HEw.out, HX.out.1.a.ext HEw.out, nilRef _⟩ ⟨HX.out.2.b, HX.out.2.a, Nat.zero_le _⟩)
    simp only at HC
    go_wp2_with (go_at_call 39; refine HC.out.mono ?_; rintro e w3 ⟨rfl, hb3⟩)
    go_ret
    exact ⟨ret_bool HR.out.symm, HEw.out.trans hb3⟩
  | false =>
    have HR := Hid.mk' (show ownB (⟨k1, ao1, av1, old1, b1, a1, r1, fl1⟩ : Ev) = evB (⟨k1, ao1, av1, old1, b1, a1, r1, fl1⟩ : Ev) ⟨k1, 0, 0, 0, [], [], r1, fl1⟩ from by unfold ownB Ev.only; rw [if_neg (by rw [hr]; simp)])
    rw [hr] at HRW
    clear hr
    go_enter Try.func64, Try.ntmps64
    go_upto_region 4 with (go_at_call 62; refine (HRW.out _).mono ?_; rintro e w1 ⟨rfl, hb1⟩; have HB1 := Hid.mk' hb1; have hE_w1 : Ext ((w.alloc (.cells #[.int .u8 k1, .int .u32 ao1, .int .u32 av1, .int .u8 old1, .slice ba1 b1.length bc1, .slice aa1 a1.length ac1, .slice ra1 r1.length rc1, .int .u8 fl1] 83)).alloc (.cells #[.int .u8 k1, .int .u32 0, .int .u32 0, .int .u8 0, .slice none 0 0, .slice none 0 0, .slice none 0 0, .int .u8 0] 83)) w1 := (by (repeat (with_reducible (first | exact Ext.refl _ | assumption | exact held_left (by assumption) | apply Ext.drewN | apply Ext.drew | apply Ext.alloc | (refine Ext.setCell ?_ (by first | (simp; done) | (simp; omega) | omega) _) | (refine Ext.trans ?_ (by assumption)) | (refine Ext.trans ?_ (held_left (by assumption))))))); obtain ⟨hc_w1, hf_w1⟩ := hE_w1.cells; have hz_w1 := hE_w1.size)
    have HW1 := Hid.mk' (((Ext.refl (w.alloc (.cells #[.int .u8 k1, .int .u32 ao1, .int .u32 av1, .int .u8 old1, .slice ba1 b1.length bc1, .slice aa1 a1.length ac1, .slice ra1 r1.length rc1, .int .u8 fl1] 83))).alloc (.cells #[.int .u8 k1, .int .u32 0, .int .u32 0, .int .u8 0, .slice none 0 0, .slice none 0 0, .slice none 0 0, .int .u8 0] 83)).trans HB1.out)
    have hV : Blk w1 w.heap.size #[.int .u8 k1, .int .u32 ao1, .int .u32 av1, .int .u8 old1, .slice ba1 b1.length bc1, .slice aa1 a1.length ac1, .slice ra1 r1.length rc1, .int .u8 fl1] 83 := (((Blk.new w #[.int .u8 k1, .int .u32 ao1, .int .u32 av1, .int .u8 old1, .slice ba1 b1.length bc1, .slice aa1 a1.length ac1, .slice ra1 r1.length rc1, .int .u8 fl1] 83).alloc _).ext HB1.out)
    have hZ : Blk w1 (w.heap.size + 1) #[.int .u8 k1, .int .u32 0, .int .u32 0, .int .u8 0, .slice none 0 0, .slice none 0 0, .slice none 0 0, .int .u8 0] 83 := ((Blk.new' (w := w.alloc (.cells #[.int .u8 k1, .int .u32 ao1, .int .u32 av1, .int .u8 old1, .slice ba1 b1.length bc1, .slice aa1 a1.length ac1, .slice ra1 r1.length rc1, .int .u8 fl1] 83)) _ _ (by simp)).ext HB1.out)
    have HV := Hid.mk' hV
    have HZ := Hid.mk' hZ
    have gv := hV.cell
    have gz := hZ.cell
    have gzf := hZ.frozen
    have zv := hV.lt
    have zz := hZ.lt
    have hE1 := HW1.out
    clear hV hZ hE_w1 hc_w1 hf_w1 hz_w1
    go_region_held3 (fun w' => Ext (w.alloc (.cells #[.int .u8 k1, .int .u32 ao1, .int .u32 av1, .int .u8 old1, .slice ba1 b1.length bc1, .slice aa1 a1.length ac1, .slice ra1 r1.length rc1, .int .u8 fl1] 83)) w' ∧ (∀ b o, b < (w.alloc (.cells #[.int .u8 k1, .int .u32 ao1, .int .u32 av1, .int .u8 old1, .slice ba1 b1.length bc1, .slice aa1 a1.length ac1, .slice ra1 r1.length rc1, .int .u8 fl1] 83)).heap.size → w'.cell? ⟨b, o, none⟩ = (w.alloc (.cells #[.int .u8 k1, .int .u32 ao1, .int .u32 av1, .int .u8 old1, .slice ba1 b1.length bc1, .slice aa1 a1.length ac1, .slice ra1 r1.length rc1, .int .u8 fl1] 83)).cell? ⟨b, o, none⟩) ∧ (∀ b o, b < (w.alloc (.cells #[.int .u8 k1, .int .u32 ao1, .int .u32 av1, .int .u8 old1, .slice ba1 b1.length bc1, .slice aa1 a1.length ac1, .slice ra1 r1.length rc1, .int .u8 fl1] 83)).heap.size → w'.frozen? ⟨b, o, none⟩ = (w.alloc (.cells #[.int .u8 k1, .int .u32 ao1, .int .u32 av1, .int .u8 old1, .slice ba1 b1.length bc1, .slice aa1 a1.length ac1, .slice ra1 r1.length rc1, .int .u8 fl1] 83)).frozen? ⟨b, o, none⟩)) ((exact held_of (by (repeat (with_reducible (first | exact Ext.refl _ | assumption | exact held_left (by assumption) | apply Ext.drewN | apply Ext.drew | apply Ext.alloc | (refine Ext.setCell ?_ (by first | (simp; done) | (simp; omega) | omega) _) | (refine Ext.trans ?_ (by assumption)) | (refine Ext.trans ?_ (held_left (by assumption))))))))) (fail)
    have HZ2 := Hid.mk' (show Blk ((w1.setCell ⟨w.heap.size + 1, 6, none⟩ (.slice ra1 r1.length rc1)).setCell ⟨w.heap.size + 1, 7, none⟩ (.int .u8 fl1)) (w.heap.size + 1) #[.int .u8 k1, .int .u32 0, .int .u32 0, .int .u8 0, .slice none 0 0, .slice none 0 0, .slice ra1 r1.length rc1, .int .u8 fl1] 83 from by
      have := (HZ.out.set 6 (.slice ra1 r1.length rc1)).set 7 (.int .u8 fl1)
      simpa only [List.setIfInBounds_toArray, List.set_cons_zero, List.set_cons_succ] using this)
    have HE2 := Hid.mk' (show Ext (w.alloc (.cells #[.int .u8 k1, .int .u32 ao1, .int .u32 av1, .int .u8 old1, .slice ba1 b1.length bc1, .slice aa1 a1.length ac1, .slice ra1 r1.length rc1, .int .u8 fl1] 83)) ((w1.setCell ⟨w.heap.size + 1, 6, none⟩ (.slice ra1 r1.length rc1)).setCell ⟨w.heap.size + 1, 7, none⟩ (.int .u8 fl1)) from by (repeat (with_reducible (first | exact Ext.refl _ | assumption | exact held_left (by assumption) | apply Ext.drewN | apply Ext.drew | apply Ext.alloc | (refine Ext.setCell ?_ (by first | (simp; done) | (simp; omega) | omega) _) | (refine Ext.trans ?_ (by assumption)) | (refine Ext.trans ?_ (held_left (by assumption)))))))
    have HD := Hid.mk' HZ2.out.drew
    have HE3 := Hid.mk' HE2.out.drew
    obtain ⟨w2, hw2⟩ : ∃ w2, w2 = ((w1.setCell ⟨w.heap.size + 1, 6, none⟩ (.slice ra1 r1.length rc1)).setCell ⟨w.heap.size + 1, 7, none⟩ (.int .u8 fl1)).drew := ⟨_, rfl⟩
    rw [← hw2] at HD HE3 ⊢
    have HV2 := Hid.mk' ((Blk.new w #[.int .u8 k1, .int .u32 ao1, .int .u32 av1, .int .u8 old1, .slice ba1 b1.length bc1, .slice aa1 a1.length ac1, .slice ra1 r1.length rc1, .int .u8 fl1] 83).ext HE3.out)
    clear hw2 HZ2 HE2 gv gz gzf zv zz hE1
    have gv := HV2.out.cell
    have gz := HD.out.cell
    have zv := HV2.out.lt
    have zz := HD.out.lt
    have HEw : Hid (Ext w w2) := Hid.mk' (((Ext.refl w).alloc _).trans HE3.out)
    have HC := Hid.mk' (HAK.out ⟨⟨k1, 0, 0, 0, [], [], r1, fl1⟩, none, 0, none, 0, ra1, rc1⟩ w2 HEw.out ⟨nilRowP _, nilRowP _, HX.out.1.r.ext HEw.out⟩ ⟨Nat.zero_le _, Nat.zero_le _, HX.out.2.r⟩)
    simp only at HC
    go_wp2_with (go_at_call 39; refine HC.out.mono ?_; rintro e w3 ⟨rfl, hb3⟩)
    go_ret
    exact ⟨ret_bool HR.out.symm, HEw.out.trans hb3⟩

end Go.Proofs.Ythdjinicmnhgpaa

/-
What is wrong with an event: the program's truncate.
-/
namespace Go.Proofs.Ythdjinicmnhgpaa
open Go.RowKit

set_option maxRecDepth 100000 in set_option maxHeartbeats 4000000 in
theorem trunc_any (x : EL) (N g : Nat) (c : Value) (ps : List RR) (w : World) (hx : x.at 5 K.pc w) (hs : x.e.small) (hc : Ca w N g c ps) :
    Calls Try.prog 65 #[x.agg, .pointer (some ⟨g, 0, none⟩)] w fun e w' => e = .returned (.int .i64 (truncE x.e (ps.map RR.r))) ∧ Ext w w' := by
  have HL := Hid.mk' hx.r
  have HG := Hid.mk' (fun o v W (h : Ext w W) => cget_any N g c ps o v W (hc.ext h))
  have hn := hs.r
  obtain ⟨⟨k1, ao1, av1, old1, b1, a1, r1, fl1⟩, ba1, bc1, aa1, ac1, ra1, rc1⟩ := x
  unfold EL.agg
  simp only at HL hn ⊢
  clear hx hs hc
  by_cases h1 : r1.length < 1
  · have HR := Hid.mk' (show truncE (⟨k1, ao1, av1, old1, b1, a1, r1, fl1⟩ : Ev) (ps.map RR.r) = 17 from if_pos (.inl h1))
    go_enter Try.func65, Try.ntmps65
    go_wp2
    go_ret
    exact ⟨ret_int HR.out.symm, by (repeat (with_reducible (first | exact Ext.refl _ | assumption | exact held_left (by assumption) | apply Ext.drewN | apply Ext.drew | apply Ext.alloc | (refine Ext.setCell ?_ (by first | (simp; done) | (simp; omega) | omega) _) | (refine Ext.trans ?_ (by assumption)) | (refine Ext.trans ?_ (held_left (by assumption))))))⟩
  by_cases h8 : 8 < r1.length
  · have HR := Hid.mk' (show truncE (⟨k1, ao1, av1, old1, b1, a1, r1, fl1⟩ : Ev) (ps.map RR.r) = 17 from if_pos (.inr h8))
    go_enter Try.func65, Try.ntmps65
    go_wp2
    go_ret
    exact ⟨ret_int HR.out.symm, by (repeat (with_reducible (first | exact Ext.refl _ | assumption | exact held_left (by assumption) | apply Ext.drewN | apply Ext.drew | apply Ext.alloc | (refine Ext.setCell ?_ (by first | (simp; done) | (simp; omega) | omega) _) | (refine Ext.trans ?_ (by assumption)) | (refine Ext.trans ?_ (held_left (by assumption))))))⟩
  have HR0 := Hid.mk' (show truncE (⟨k1, ao1, av1, old1, b1, a1, r1, fl1⟩ : Ev) (ps.map RR.r) = if risB r1 = false then 15 else if hasAll r1 (ps.map RR.r) = false then 10 else if 3 < fl1 then 4 else 0 from if_neg (by simp only; omega))
  generalize truncE (⟨k1, ao1, av1, old1, b1, a1, r1, fl1⟩ : Ev) (ps.map RR.r) = R at HR0 ⊢
  go_enter Try.func65, Try.ntmps65
  go_wp2
  go_loopw [6] (fun i wr => ∃ k : Nat, k + 1 ≤ r1.length ∧ i = .int .i64 ((k : Int) + 1) ∧ Hid (∀ j (h : j + 1 < r1.length), j < k → aheadB r1[j].o r1[j].v r1[j + 1].o r1[j + 1].v = true) ∧ Hid (Blk wr w.heap.size #[.int .u8 k1, .int .u32 ao1, .int .u32 av1, .int .u8 old1, .slice ba1 b1.length bc1, .slice aa1 a1.length ac1, .slice ra1 r1.length rc1, .int .u8 fl1] 83) ∧ Hid (Ext w wr)) (fun i _ => r1.length - (intOf i).toNat)
  case atStart => exact ⟨0, by omega, rfl, Hid.mk' (fun j _ h => by omega), Hid.mk' (Blk.new _ _ _), Hid.mk' (by (repeat (with_reducible (first | exact Ext.refl _ | assumption | exact held_left (by assumption) | apply Ext.drewN | apply Ext.drew | apply Ext.alloc | (refine Ext.setCell ?_ (by first | (simp; done) | (simp; omega) | omega) _) | (refine Ext.trans ?_ (by assumption)) | (refine Ext.trans ?_ (held_left (by assumption)))))))⟩
  case round =>
    obtain ⟨k, hk, rfl, hrel, hX, hE⟩ := hrel
    have gv := hX.out.cell
    have zv := hX.out.lt
    by_cases hlt : k + 1 < r1.length
    · have hlt0 : k < r1.length := by omega
      obtain ⟨o1, p1, rfl, hb1, hx1⟩ := HL.out.at_ (i := k) (by simpa using hlt0)
      obtain ⟨f0, f1⟩ := Rf.at_ hlt0 hx1 hb1 hE.out
      obtain ⟨o2, p2, he2, hb2, hx2⟩ := HL.out.at_ (i := k + 1) (by simpa using hlt)
      simp only [Option.some.injEq, Addr.mk.injEq] at he2
      obtain ⟨rfl, rfl, -⟩ := he2
      obtain ⟨s0, s1⟩ := Rf.at_ hlt hx2 hb2 hE.out
      have hbw : o1 < wr.heap.size := Nat.lt_of_lt_of_le hb1 hE.out.size
      have HCP := Hid.mk' (fun W => compare_any r1[k].o r1[k].v r1[k + 1].o r1[k + 1].v W)
      have hcc := cmpR_cases r1[k].o r1[k].v r1[k + 1].o r1[k + 1].v
      have q1 : IntKind.i64.wrap (k : Int) = (k : Int) := IntWalk.i64_in _ (by omega)
      have q2 : ((k : Int) + 1).toNat = k + 1 := by omega
      have i1 : (k : Int) < (r1.length : Int) := by omega
      have i2 : (k : Int) + 1 < (r1.length : Int) := by omega
      have i3 : (0 : Int) ≤ (k : Int) + 1 := by omega
      have i4 : (0 : Int) ≤ (k : Int) := by omega
      have i5 : ((k + 1 : Nat) : Int) = (k : Int) + 1 := by omega
      clear hx1 hx2
      cases hA : aheadB r1[k].o r1[k].v r1[k + 1].o r1[k + 1].v with
      | true =>
        have HA := Hid.mk' hA
        have hneg : cmpR r1[k].o r1[k].v r1[k + 1].o r1[k + 1].v < 0 := cmpR_neg.2 (of_decide_eq_true hA)
        obtain ⟨D, hD⟩ : ∃ D, D = cmpR r1[k].o r1[k].v r1[k + 1].o r1[k + 1].v := ⟨_, rfl⟩
        rw [← hD] at HCP hneg
        have hdd : decide (0 ≤ D) = false := decide_eq_false (by omega)
        clear hA hD hcc hneg
        go_wp2
        go_region_held3 (fun w' => Ext (wr) w' ∧ (∀ b o, b < (wr).heap.size → w'.cell? ⟨b, o, none⟩ = (wr).cell? ⟨b, o, none⟩) ∧ (∀ b o, b < (wr).heap.size → w'.frozen? ⟨b, o, none⟩ = (wr).frozen? ⟨b, o, none⟩)) ((exact held_of (by (repeat (with_reducible (first | exact Ext.refl _ | assumption | exact held_left (by assumption) | apply Ext.drewN | apply Ext.drew | apply Ext.alloc | (refine Ext.setCell ?_ (by first | (simp; done) | (simp; omega) | omega) _) | (refine Ext.trans ?_ (by assumption)) | (refine Ext.trans ?_ (held_left (by assumption))))))))) ((go_at_call 48; refine (HCP.out _).mono ?_; rintro e w2 ⟨rfl, hb2⟩))
        clear q1 q2
        go_wp2
        go_roundw
        case rel => exact ⟨k + 1, by omega, by go_num, Hid.mk' (fun j h hj => by
          by_cases e : j = k
          · subst e; exact HA.out
          · exact hrel.out j h (by omega)), Hid.mk' (hX.out.ext (by (repeat (with_reducible (first | exact Ext.refl _ | assumption | exact held_left (by assumption) | apply Ext.drewN | apply Ext.drew | apply Ext.alloc | (refine Ext.setCell ?_ (by first | (simp; done) | (simp; omega) | omega) _) | (refine Ext.trans ?_ (by assumption)) | (refine Ext.trans ?_ (held_left (by assumption)))))))), Hid.mk' (hE.out.trans (by (repeat (with_reducible (first | exact Ext.refl _ | assumption | exact held_left (by assumption) | apply Ext.drewN | apply Ext.drew | apply Ext.alloc | (refine Ext.setCell ?_ (by first | (simp; done) | (simp; omega) | omega) _) | (refine Ext.trans ?_ (by assumption)) | (refine Ext.trans ?_ (held_left (by assumption))))))))⟩
        case measure => simp [intOf]; omega
      | false =>
        have HR := Hid.mk' (show R = 15 from by rw [HR0.out, if_pos (risB_no hlt hA)])
        have hneg : 0 ≤ cmpR r1[k].o r1[k].v r1[k + 1].o r1[k + 1].v := by
          by_cases h : cmpR r1[k].o r1[k].v r1[k + 1].o r1[k + 1].v < 0
          · rw [show aheadB r1[k].o r1[k].v r1[k + 1].o r1[k + 1].v = true from decide_eq_true (cmpR_neg.1 h)] at hA; cases hA
          · omega
        obtain ⟨D, hD⟩ : ∃ D, D = cmpR r1[k].o r1[k].v r1[k + 1].o r1[k + 1].v := ⟨_, rfl⟩
        rw [← hD] at HCP hneg
        have hdd : decide (0 ≤ D) = true := decide_eq_true hneg
        clear hA hD hcc hneg
        go_wp2
        go_region_held3 (fun w' => Ext (wr) w' ∧ (∀ b o, b < (wr).heap.size → w'.cell? ⟨b, o, none⟩ = (wr).cell? ⟨b, o, none⟩) ∧ (∀ b o, b < (wr).heap.size → w'.frozen? ⟨b, o, none⟩ = (wr).frozen? ⟨b, o, none⟩)) ((exact held_of (by (repeat (with_reducible (first | exact Ext.refl _ | assumption | exact held_left (by assumption) | apply Ext.drewN | apply Ext.drew | apply Ext.alloc | (refine Ext.setCell ?_ (by first | (simp; done) | (simp; omega) | omega) _) | (refine Ext.trans ?_ (by assumption)) | (refine Ext.trans ?_ (held_left (by assumption))))))))) ((go_at_call 48; refine (HCP.out _).mono ?_; rintro e w2 ⟨rfl, hb2⟩))
        clear q1 q2
        go_wp2
        go_ret
        exact ⟨ret_int HR.out.symm, hE.out.trans (by (repeat (with_reducible (first | exact Ext.refl _ | assumption | exact held_left (by assumption) | apply Ext.drewN | apply Ext.drew | apply Ext.alloc | (refine Ext.setCell ?_ (by first | (simp; done) | (simp; omega) | omega) _) | (refine Ext.trans ?_ (by assumption)) | (refine Ext.trans ?_ (held_left (by assumption)))))))⟩
    · have HR1 := Hid.mk' (show R = if hasAll r1 (ps.map RR.r) = false then 10 else if 3 < fl1 then 4 else 0 from by rw [HR0.out, if_neg (by rw [risB_true.2 (fun i h => hrel.out i h (by omega))]; simp)])
      clear HR0 hrel
      obtain ⟨wo, hwo⟩ : ∃ x, x = wr := ⟨_, rfl⟩
      subst hwo
      go_wp2
      go_loopw [41] (fun i wr => ∃ k : Nat, k ≤ r1.length ∧ i = .int .i64 k ∧ Hid (∀ j (h : j < r1.length), j < k → hasR r1[j].o r1[j].v (ps.map RR.r) = true) ∧ Hid (Ext wo wr)) (fun i _ => r1.length - (intOf i).toNat)
      case atStart => exact ⟨0, by omega, rfl, Hid.mk' (fun j _ h => by omega), Hid.mk' (by (repeat (with_reducible (first | exact Ext.refl _ | assumption | exact held_left (by assumption) | apply Ext.drewN | apply Ext.drew | apply Ext.alloc | (refine Ext.setCell ?_ (by first | (simp; done) | (simp; omega) | omega) _) | (refine Ext.trans ?_ (by assumption)) | (refine Ext.trans ?_ (held_left (by assumption)))))))⟩
      case round =>
        obtain ⟨m, hm, rfl, hrel, hF⟩ := hrel
        have gv2 := (hX.out.ext hF.out).cell
        have zv2 := (hX.out.ext hF.out).lt
        clear gv zv
        by_cases hlt2 : m < r1.length
        · obtain ⟨o1, p1, rfl, hb1, hx1⟩ := HL.out.at_ (i := m) (by simpa using hlt2)
          obtain ⟨f0, f1⟩ := Rf.at_ hlt2 hx1 hb1 (hE.out.trans hF.out)
          have hbw : o1 < wr.heap.size := Nat.lt_of_lt_of_le hb1 (hE.out.trans hF.out).size
          have HGT := Hid.mk' (fun W (h : Ext wr W) => HG.out r1[m].o r1[m].v W (hE.out.trans (hF.out.trans h)))
          clear hx1
          cases hA : hasR r1[m].o r1[m].v (ps.map RR.r) with
          | true =>
            have HA := Hid.mk' hA
            rw [hA] at HGT
            clear hA
            go_wp2_with (go_at_call 15; refine (HGT.out _ (by (repeat (with_reducible (first | exact Ext.refl _ | assumption | exact held_left (by assumption) | apply Ext.drewN | apply Ext.drew | apply Ext.alloc | (refine Ext.setCell ?_ (by first | (simp; done) | (simp; omega) | omega) _) | (refine Ext.trans ?_ (by assumption)) | (refine Ext.trans ?_ (held_left (by assumption)))))))).mono ?_; rintro e w3 ⟨⟨⟨oid, ver, nm, id, cols⟩, qa, qc⟩, rfl, -, -, hb3⟩; (try unfold RR.agg); (try simp only))
            go_roundw
            case rel => exact ⟨m + 1, by omega, by go_num, Hid.mk' (fun j h hj => by
              by_cases e : j = m
              · subst e; exact HA.out
              · exact hrel.out j h (by omega)), Hid.mk' (hF.out.trans (by (repeat (with_reducible (first | exact Ext.refl _ | assumption | exact held_left (by assumption) | apply Ext.drewN | apply Ext.drew | apply Ext.alloc | (refine Ext.setCell ?_ (by first | (simp; done) | (simp; omega) | omega) _) | (refine Ext.trans ?_ (by assumption)) | (refine Ext.trans ?_ (held_left (by assumption))))))))⟩
            case measure => simp [intOf]; omega
          | false =>
            have HR := Hid.mk' (show R = 10 from by rw [HR1.out, if_pos (hasAll_no hlt2 hA)])
            rw [hA] at HGT
            clear hA
            go_wp2_with (go_at_call 15; refine (HGT.out _ (by (repeat (with_reducible (first | exact Ext.refl _ | assumption | exact held_left (by assumption) | apply Ext.drewN | apply Ext.drew | apply Ext.alloc | (refine Ext.setCell ?_ (by first | (simp; done) | (simp; omega) | omega) _) | (refine Ext.trans ?_ (by assumption)) | (refine Ext.trans ?_ (held_left (by assumption)))))))).mono ?_; rintro e w3 ⟨⟨⟨oid, ver, nm, id, cols⟩, qa, qc⟩, rfl, -, -, hb3⟩; (try unfold RR.agg); (try simp only))
            go_ret
            exact ⟨ret_int HR.out.symm, hE.out.trans (hF.out.trans (by (repeat (with_reducible (first | exact Ext.refl _ | assumption | exact held_left (by assumption) | apply Ext.drewN | apply Ext.drew | apply Ext.alloc | (refine Ext.setCell ?_ (by first | (simp; done) | (simp; omega) | omega) _) | (refine Ext.trans ?_ (by assumption)) | (refine Ext.trans ?_ (held_left (by assumption))))))))⟩
        · have HR2 := Hid.mk' (show R = if 3 < fl1 then 4 else 0 from by rw [HR1.out, if_neg (by rw [hasAll_yes (fun i h => hrel.out i h (by omega))]; simp)])
          clear HR1 hrel
          by_cases h3 : 3 < fl1
          · have HR := Hid.mk' (show R = 4 from by rw [HR2.out, if_pos h3])
            go_wp2
            go_ret
            exact ⟨ret_int HR.out.symm, hE.out.trans hF.out⟩
          · have HR := Hid.mk' (show R = 0 from by rw [HR2.out, if_neg h3])
            go_wp2
            go_ret
            exact ⟨ret_int HR.out.symm, hE.out.trans hF.out⟩

end Go.Proofs.Ythdjinicmnhgpaa

/-
What is wrong with an event: the program's Right.
-/
namespace Go.Proofs.Ythdjinicmnhgpaa
open Go.RowKit

structure Ev.wk (e : Ev) : Prop where
  b : ∀ c ∈ e.b, c.wk
  a : ∀ c ∈ e.a, c.wk
  old : 0 ≤ e.old

set_option maxRecDepth 100000 in set_option maxHeartbeats 4000000 in
theorem eright_any (x : EL) (N g : Nat) (c : Value) (ps : List RR) (w : World) (hx : x.at 5 K.pc w) (hs : x.e.small) (hwk : x.e.wk) (hc : Ca w N g c ps) :
    Calls Try.prog 37 #[x.agg, .pointer (some ⟨g, 0, none⟩)] w fun e w' => e = .returned (.int .i64 (evE x.e (ps.map RR.r))) ∧ Ext w w' := by
  have HRW := Hid.mk' (fun W => rowed_any x W)
  have HOW := Hid.mk' (fun W (h : Ext w W) => pown13_any x W (hx.ext h) hs)
  have HTR := Hid.mk' (fun W (h : Ext w W) => trunc_any x N g c ps W (hx.ext h) hs (hc.ext h))
  have HG := Hid.mk' (fun W (h : Ext w W) => cget_any N g c ps x.e.ao x.e.av W (hc.ext h))
  have HGI := Hid.mk' (fun (r : Rl) (h : getR x.e.ao x.e.av (ps.map RR.r) = some r) W (h2 : Ext w W) => cget_is (hc.ext h2) h)
  have HIM := Hid.mk' (fun (r : Rl) (a2 : Option Addr) (c2 : Nat) (hr : r ∈ ps.map RR.r) W (h : Ext w W) (hl : Sl W (.slice a2 r.cols.length c2) 3 (r.cols.map Col.cells)) (hcp : r.cols.length ≤ c2) =>
    (show Calls Try.prog 66 #[.agg #[.int .u32 r.oid, .int .u32 r.ver, .string r.nm, .int .u8 r.id, .slice a2 r.cols.length c2], .int .u8 x.e.kind, .int .u8 x.e.old, .slice x.ba x.e.b.length x.bc, .slice x.aa x.e.a.length x.ac] W (fun e w' => e = .returned (.int .i64 (imgE r x.e.kind x.e.old x.e.b x.e.a)) ∧ Ext W w') from by
      obtain ⟨p, hp, rfl⟩ := List.mem_map.1 hr
      have hwb := hc.wb p hp
      exact image_any x.e.kind x.e.old x.e.b x.e.a x.ba x.aa x.bc x.ac p.r.oid p.r.ver p.r.nm p.r.id p.r.cols a2 c2 W hl hcp (by have := hc.n16 hp; omega) (hx.b.ext h) (hx.a.ext h) hs.b hs.a hwk.b hwk.a hwb.cs hwb.nm hwb.idn hwk.old))
  clear hx hs hwk hc
  obtain ⟨⟨k1, ao1, av1, old1, b1, a1, r1, fl1⟩, ba1, bc1, aa1, ac1, ra1, rc1⟩ := x
  unfold EL.agg at HRW HOW HTR ⊢
  simp only at HRW HOW HTR HG HGI HIM ⊢
  by_cases h0 : k1 < 4 ∨ 7 < k1
  · have HR := Hid.mk' (show evE (⟨k1, ao1, av1, old1, b1, a1, r1, fl1⟩ : Ev) (ps.map RR.r) = 7 from if_pos h0)
    have hr : rowedB k1 = false := decide_eq_false (by omega)
    have h7 : (k1 != 7) = true := by simp; omega
    rw [hr] at HRW
    clear hr h0
    go_enter Try.func37, Try.ntmps37
    go_wp2_with (go_at_call 62; refine (HRW.out _).mono ?_; rintro e w1 ⟨rfl, hb1⟩; have hE_w1 : Ext (w.alloc (.cells #[.int .u8 k1, .int .u32 ao1, .int .u32 av1, .int .u8 old1, .slice ba1 b1.length bc1, .slice aa1 a1.length ac1, .slice ra1 r1.length rc1, .int .u8 fl1] 83)) w1 := (by (repeat (with_reducible (first | exact Ext.refl _ | assumption | exact held_left (by assumption) | apply Ext.drewN | apply Ext.drew | apply Ext.alloc | (refine Ext.setCell ?_ (by first | (simp; done) | (simp; omega) | omega) _) | (refine Ext.trans ?_ (by assumption)) | (refine Ext.trans ?_ (held_left (by assumption))))))); obtain ⟨hc_w1, hf_w1⟩ := hE_w1.cells; have hz_w1 := hE_w1.size)
    go_ret
    exact ⟨ret_int HR.out.symm, by (repeat (with_reducible (first | exact Ext.refl _ | assumption | exact held_left (by assumption) | apply Ext.drewN | apply Ext.drew | apply Ext.alloc | (refine Ext.setCell ?_ (by first | (simp; done) | (simp; omega) | omega) _) | (refine Ext.trans ?_ (by assumption)) | (refine Ext.trans ?_ (held_left (by assumption))))))⟩
  have HR0 := Hid.mk' (show evE (⟨k1, ao1, av1, old1, b1, a1, r1, fl1⟩ : Ev) (ps.map RR.r) = _ from if_neg h0)
  simp only at HR0
  cases ho : ownB (⟨k1, ao1, av1, old1, b1, a1, r1, fl1⟩ : Ev) with
  | false =>
    have HR := Hid.mk' (show evE (⟨k1, ao1, av1, old1, b1, a1, r1, fl1⟩ : Ev) (ps.map RR.r) = 3 from by rw [HR0.out, if_pos ho])
    rw [ho] at HOW
    clear HR0 ho
    by_cases h7 : k1 = 7
    · have hr : rowedB k1 = false := decide_eq_false (by omega)
      have h7' : (k1 != 7) = false := by simp; omega
      rw [hr] at HRW
      clear hr h0 h7
      go_enter Try.func37, Try.ntmps37
      go_wp2_with (first | (go_at_call 62; refine (HRW.out _).mono ?_; rintro e w1 ⟨rfl, hb1⟩; have hE_w1 : Ext (w.alloc (.cells #[.int .u8 k1, .int .u32 ao1, .int .u32 av1, .int .u8 old1, .slice ba1 b1.length bc1, .slice aa1 a1.length ac1, .slice ra1 r1.length rc1, .int .u8 fl1] 83)) w1 := (by (repeat (with_reducible (first | exact Ext.refl _ | assumption | exact held_left (by assumption) | apply Ext.drewN | apply Ext.drew | apply Ext.alloc | (refine Ext.setCell ?_ (by first | (simp; done) | (simp; omega) | omega) _) | (refine Ext.trans ?_ (by assumption)) | (refine Ext.trans ?_ (held_left (by assumption))))))); obtain ⟨hc_w1, hf_w1⟩ := hE_w1.cells; have hz_w1 := hE_w1.size) | (go_at_call 64; refine (HOW.out _ (by (repeat (with_reducible (first | exact Ext.refl _ | assumption | exact held_left (by assumption) | apply Ext.drewN | apply Ext.drew | apply Ext.alloc | (refine Ext.setCell ?_ (by first | (simp; done) | (simp; omega) | omega) _) | (refine Ext.trans ?_ (by assumption)) | (refine Ext.trans ?_ (held_left (by assumption)))))))).mono ?_; rintro e w2 ⟨rfl, hb2⟩; (have hE_w2 : Ext (w.alloc (.cells #[.int .u8 k1, .int .u32 ao1, .int .u32 av1, .int .u8 old1, .slice ba1 b1.length bc1, .slice aa1 a1.length ac1, .slice ra1 r1.length rc1, .int .u8 fl1] 83)) w2 := (by (repeat (with_reducible (first | exact Ext.refl _ | assumption | exact held_left (by assumption) | apply Ext.drewN | apply Ext.drew | apply Ext.alloc | (refine Ext.setCell ?_ (by first | (simp; done) | (simp; omega) | omega) _) | (refine Ext.trans ?_ (by assumption)) | (refine Ext.trans ?_ (held_left (by assumption))))))); obtain ⟨hc_w2, hf_w2⟩ := hE_w2.cells; have hz_w2 := hE_w2.size)))
      go_ret
      exact ⟨ret_int HR.out.symm, by (repeat (with_reducible (first | exact Ext.refl _ | assumption | exact held_left (by assumption) | apply Ext.drewN | apply Ext.drew | apply Ext.alloc | (refine Ext.setCell ?_ (by first | (simp; done) | (simp; omega) | omega) _) | (refine Ext.trans ?_ (by assumption)) | (refine Ext.trans ?_ (held_left (by assumption))))))⟩
    · have hr : rowedB k1 = true := decide_eq_true (by omega)
      rw [hr] at HRW
      clear hr h0 h7
      go_enter Try.func37, Try.ntmps37
      go_wp2_with (first | (go_at_call 62; refine (HRW.out _).mono ?_; rintro e w1 ⟨rfl, hb1⟩; have hE_w1 : Ext (w.alloc (.cells #[.int .u8 k1, .int .u32 ao1, .int .u32 av1, .int .u8 old1, .slice ba1 b1.length bc1, .slice aa1 a1.length ac1, .slice ra1 r1.length rc1, .int .u8 fl1] 83)) w1 := (by (repeat (with_reducible (first | exact Ext.refl _ | assumption | exact held_left (by assumption) | apply Ext.drewN | apply Ext.drew | apply Ext.alloc | (refine Ext.setCell ?_ (by first | (simp; done) | (simp; omega) | omega) _) | (refine Ext.trans ?_ (by assumption)) | (refine Ext.trans ?_ (held_left (by assumption))))))); obtain ⟨hc_w1, hf_w1⟩ := hE_w1.cells; have hz_w1 := hE_w1.size) | (go_at_call 64; refine (HOW.out _ (by (repeat (with_reducible (first | exact Ext.refl _ | assumption | exact held_left (by assumption) | apply Ext.drewN | apply Ext.drew | apply Ext.alloc | (refine Ext.setCell ?_ (by first | (simp; done) | (simp; omega) | omega) _) | (refine Ext.trans ?_ (by assumption)) | (refine Ext.trans ?_ (held_left (by assumption)))))))).mono ?_; rintro e w2 ⟨rfl, hb2⟩; (have hE_w2 : Ext (w.alloc (.cells #[.int .u8 k1, .int .u32 ao1, .int .u32 av1, .int .u8 old1, .slice ba1 b1.length bc1, .slice aa1 a1.length ac1, .slice ra1 r1.length rc1, .int .u8 fl1] 83)) w2 := (by (repeat (with_reducible (first | exact Ext.refl _ | assumption | exact held_left (by assumption) | apply Ext.drewN | apply Ext.drew | apply Ext.alloc | (refine Ext.setCell ?_ (by first | (simp; done) | (simp; omega) | omega) _) | (refine Ext.trans ?_ (by assumption)) | (refine Ext.trans ?_ (held_left (by assumption))))))); obtain ⟨hc_w2, hf_w2⟩ := hE_w2.cells; have hz_w2 := hE_w2.size)))
      go_ret
      exact ⟨ret_int HR.out.symm, by (repeat (with_reducible (first | exact Ext.refl _ | assumption | exact held_left (by assumption) | apply Ext.drewN | apply Ext.drew | apply Ext.alloc | (refine Ext.setCell ?_ (by first | (simp; done) | (simp; omega) | omega) _) | (refine Ext.trans ?_ (by assumption)) | (refine Ext.trans ?_ (held_left (by assumption))))))⟩
  | true =>
  rw [ho] at HOW
  by_cases h7 : k1 = 7
  · have HR := Hid.mk' (show evE (⟨k1, ao1, av1, old1, b1, a1, r1, fl1⟩ : Ev) (ps.map RR.r) = truncE (⟨k1, ao1, av1, old1, b1, a1, r1, fl1⟩ : Ev) (ps.map RR.r) from by rw [HR0.out, if_neg (by rw [ho]; simp), if_pos h7])
    have hr : rowedB k1 = false := decide_eq_false (by omega)
    have h7' : (k1 != 7) = false := by simp; omega
    have h7'' : (k1 == 7) = true := by simp; omega
    rw [hr] at HRW
    clear hr h0 h7 HR0 ho
    go_enter Try.func37, Try.ntmps37
    go_wp2_with (first | (go_at_call 62; refine (HRW.out _).mono ?_; rintro e w1 ⟨rfl, hb1⟩; have hE_w1 : Ext (w.alloc (.cells #[.int .u8 k1, .int .u32 ao1, .int .u32 av1, .int .u8 old1, .slice ba1 b1.length bc1, .slice aa1 a1.length ac1, .slice ra1 r1.length rc1, .int .u8 fl1] 83)) w1 := (by (repeat (with_reducible (first | exact Ext.refl _ | assumption | exact held_left (by assumption) | apply Ext.drewN | apply Ext.drew | apply Ext.alloc | (refine Ext.setCell ?_ (by first | (simp; done) | (simp; omega) | omega) _) | (refine Ext.trans ?_ (by assumption)) | (refine Ext.trans ?_ (held_left (by assumption))))))); obtain ⟨hc_w1, hf_w1⟩ := hE_w1.cells; have hz_w1 := hE_w1.size) | (go_at_call 64; refine (HOW.out _ (by (repeat (with_reducible (first | exact Ext.refl _ | assumption | exact held_left (by assumption) | apply Ext.drewN | apply Ext.drew | apply Ext.alloc | (refine Ext.setCell ?_ (by first | (simp; done) | (simp; omega) | omega) _) | (refine Ext.trans ?_ (by assumption)) | (refine Ext.trans ?_ (held_left (by assumption)))))))).mono ?_; rintro e w2 ⟨rfl, hb2⟩; (have hE_w2 : Ext (w.alloc (.cells #[.int .u8 k1, .int .u32 ao1, .int .u32 av1, .int .u8 old1, .slice ba1 b1.length bc1, .slice aa1 a1.length ac1, .slice ra1 r1.length rc1, .int .u8 fl1] 83)) w2 := (by (repeat (with_reducible (first | exact Ext.refl _ | assumption | exact held_left (by assumption) | apply Ext.drewN | apply Ext.drew | apply Ext.alloc | (refine Ext.setCell ?_ (by first | (simp; done) | (simp; omega) | omega) _) | (refine Ext.trans ?_ (by assumption)) | (refine Ext.trans ?_ (held_left (by assumption))))))); obtain ⟨hc_w2, hf_w2⟩ := hE_w2.cells; have hz_w2 := hE_w2.size)) | (go_at_call 65; refine (HTR.out _ (by (repeat (with_reducible (first | exact Ext.refl _ | assumption | exact held_left (by assumption) | apply Ext.drewN | apply Ext.drew | apply Ext.alloc | (refine Ext.setCell ?_ (by first | (simp; done) | (simp; omega) | omega) _) | (refine Ext.trans ?_ (by assumption)) | (refine Ext.trans ?_ (held_left (by assumption)))))))).mono ?_; rintro e w3 ⟨rfl, hb3⟩))
    go_ret
    exact ⟨ret_int HR.out.symm, by (repeat (with_reducible (first | exact Ext.refl _ | assumption | exact held_left (by assumption) | apply Ext.drewN | apply Ext.drew | apply Ext.alloc | (refine Ext.setCell ?_ (by first | (simp; done) | (simp; omega) | omega) _) | (refine Ext.trans ?_ (by assumption)) | (refine Ext.trans ?_ (held_left (by assumption))))))⟩
  have hr : rowedB k1 = true := decide_eq_true (by omega)
  have h7' : (k1 == 7) = false := by simpa using h7
  rw [hr] at HRW
  rw [if_neg (by rw [ho]; simp), if_neg h7] at HR0
  clear hr h0 h7 ho
  cases hg : getR ao1 av1 (ps.map RR.r) with
  | none =>
    have HR := Hid.mk' (show evE (⟨k1, ao1, av1, old1, b1, a1, r1, fl1⟩ : Ev) (ps.map RR.r) = 10 from by rw [HR0.out, hg])
    have hh : hasR ao1 av1 (ps.map RR.r) = false := getR_none.1 hg
    rw [hh] at HG
    clear hg hh HR0
    go_enter Try.func37, Try.ntmps37
    go_wp2_with (first | (go_at_call 62; refine (HRW.out _).mono ?_; rintro e w1 ⟨rfl, hb1⟩; have hE_w1 : Ext (w.alloc (.cells #[.int .u8 k1, .int .u32 ao1, .int .u32 av1, .int .u8 old1, .slice ba1 b1.length bc1, .slice aa1 a1.length ac1, .slice ra1 r1.length rc1, .int .u8 fl1] 83)) w1 := (by (repeat (with_reducible (first | exact Ext.refl _ | assumption | exact held_left (by assumption) | apply Ext.drewN | apply Ext.drew | apply Ext.alloc | (refine Ext.setCell ?_ (by first | (simp; done) | (simp; omega) | omega) _) | (refine Ext.trans ?_ (by assumption)) | (refine Ext.trans ?_ (held_left (by assumption))))))); obtain ⟨hc_w1, hf_w1⟩ := hE_w1.cells; have hz_w1 := hE_w1.size) | (go_at_call 64; refine (HOW.out _ (by (repeat (with_reducible (first | exact Ext.refl _ | assumption | exact held_left (by assumption) | apply Ext.drewN | apply Ext.drew | apply Ext.alloc | (refine Ext.setCell ?_ (by first | (simp; done) | (simp; omega) | omega) _) | (refine Ext.trans ?_ (by assumption)) | (refine Ext.trans ?_ (held_left (by assumption)))))))).mono ?_; rintro e w2 ⟨rfl, hb2⟩; (have hE_w2 : Ext (w.alloc (.cells #[.int .u8 k1, .int .u32 ao1, .int .u32 av1, .int .u8 old1, .slice ba1 b1.length bc1, .slice aa1 a1.length ac1, .slice ra1 r1.length rc1, .int .u8 fl1] 83)) w2 := (by (repeat (with_reducible (first | exact Ext.refl _ | assumption | exact held_left (by assumption) | apply Ext.drewN | apply Ext.drew | apply Ext.alloc | (refine Ext.setCell ?_ (by first | (simp; done) | (simp; omega) | omega) _) | (refine Ext.trans ?_ (by assumption)) | (refine Ext.trans ?_ (held_left (by assumption))))))); obtain ⟨hc_w2, hf_w2⟩ := hE_w2.cells; have hz_w2 := hE_w2.size)) | (go_at_call 15; refine (HG.out _ (by (repeat (with_reducible (first | exact Ext.refl _ | assumption | exact held_left (by assumption) | apply Ext.drewN | apply Ext.drew | apply Ext.alloc | (refine Ext.setCell ?_ (by first | (simp; done) | (simp; omega) | omega) _) | (refine Ext.trans ?_ (by assumption)) | (refine Ext.trans ?_ (held_left (by assumption)))))))).mono ?_; rintro e w3 ⟨⟨⟨oid, ver, nm, id, cols⟩, qa, qc⟩, rfl, -, -, hb3⟩; (try unfold RR.agg); (try simp only)))
    go_ret
    exact ⟨ret_int HR.out.symm, by (repeat (with_reducible (first | exact Ext.refl _ | assumption | exact held_left (by assumption) | apply Ext.drewN | apply Ext.drew | apply Ext.alloc | (refine Ext.setCell ?_ (by first | (simp; done) | (simp; omega) | omega) _) | (refine Ext.trans ?_ (by assumption)) | (refine Ext.trans ?_ (held_left (by assumption))))))⟩
  | some r =>
    have HR := Hid.mk' (show evE (⟨k1, ao1, av1, old1, b1, a1, r1, fl1⟩ : Ev) (ps.map RR.r) = imgE r k1 old1 b1 a1 from by rw [HR0.out, hg])
    have HGI2 := Hid.mk' (HGI.out r hg)
    have HM := Hid.mk' ((getR_some hg).1)
    have HIM2 := Hid.mk' (fun a2 c2 => HIM.out r a2 c2 HM.out)
    generalize imgE r k1 old1 b1 a1 = R at HR HIM2
    obtain ⟨oid, ver, nm, id, cols⟩ := r
    simp only at HGI2 HIM2
    clear hg HR0 HGI HG
    go_enter Try.func37, Try.ntmps37
    go_wp2_with (first
      | (go_at_call 62; refine (HRW.out _).mono ?_; rintro e w1 ⟨rfl, hb1⟩; have hE_w1 : Ext (w.alloc (.cells #[.int .u8 k1, .int .u32 ao1, .int .u32 av1, .int .u8 old1, .slice ba1 b1.length bc1, .slice aa1 a1.length ac1, .slice ra1 r1.length rc1, .int .u8 fl1] 83)) w1 := (by (repeat (with_reducible (first | exact Ext.refl _ | assumption | exact held_left (by assumption) | apply Ext.drewN | apply Ext.drew | apply Ext.alloc | (refine Ext.setCell ?_ (by first | (simp; done) | (simp; omega) | omega) _) | (refine Ext.trans ?_ (by assumption)) | (refine Ext.trans ?_ (held_left (by assumption))))))); obtain ⟨hc_w1, hf_w1⟩ := hE_w1.cells; have hz_w1 := hE_w1.size)
      | (go_at_call 64; refine (HOW.out _ (by (repeat (with_reducible (first | exact Ext.refl _ | assumption | exact held_left (by assumption) | apply Ext.drewN | apply Ext.drew | apply Ext.alloc | (refine Ext.setCell ?_ (by first | (simp; done) | (simp; omega) | omega) _) | (refine Ext.trans ?_ (by assumption)) | (refine Ext.trans ?_ (held_left (by assumption)))))))).mono ?_; rintro e w2 ⟨rfl, hb2⟩; (have hE_w2 : Ext (w.alloc (.cells #[.int .u8 k1, .int .u32 ao1, .int .u32 av1, .int .u8 old1, .slice ba1 b1.length bc1, .slice aa1 a1.length ac1, .slice ra1 r1.length rc1, .int .u8 fl1] 83)) w2 := (by (repeat (with_reducible (first | exact Ext.refl _ | assumption | exact held_left (by assumption) | apply Ext.drewN | apply Ext.drew | apply Ext.alloc | (refine Ext.setCell ?_ (by first | (simp; done) | (simp; omega) | omega) _) | (refine Ext.trans ?_ (by assumption)) | (refine Ext.trans ?_ (held_left (by assumption))))))); obtain ⟨hc_w2, hf_w2⟩ := hE_w2.cells; have hz_w2 := hE_w2.size))
      | (go_at_call 15; refine (HGI2.out _ (by (repeat (with_reducible (first | exact Ext.refl _ | assumption | exact held_left (by assumption) | apply Ext.drewN | apply Ext.drew | apply Ext.alloc | (refine Ext.setCell ?_ (by first | (simp; done) | (simp; omega) | omega) _) | (refine Ext.trans ?_ (by assumption)) | (refine Ext.trans ?_ (held_left (by assumption)))))))).mono ?_; rintro e w3 ⟨⟨qr, qa, qc⟩, rfl, hqr, hqo, hb3⟩; simp only at hqr; subst hqr; have HQO := Hid.mk' hqo; (have hE_w3 : Ext (w.alloc (.cells #[.int .u8 k1, .int .u32 ao1, .int .u32 av1, .int .u8 old1, .slice ba1 b1.length bc1, .slice aa1 a1.length ac1, .slice ra1 r1.length rc1, .int .u8 fl1] 83)) w3 := (by (repeat (with_reducible (first | exact Ext.refl _ | assumption | exact held_left (by assumption) | apply Ext.drewN | apply Ext.drew | apply Ext.alloc | (refine Ext.setCell ?_ (by first | (simp; done) | (simp; omega) | omega) _) | (refine Ext.trans ?_ (by assumption)) | (refine Ext.trans ?_ (held_left (by assumption))))))); obtain ⟨hc_w3, hf_w3⟩ := hE_w3.cells; have hz_w3 := hE_w3.size); have z3 : w.heap.size < w3.heap.size := (by have := hE_w3.size; simp at this; omega); clear hqo; (try simp only))
      | (go_at_call 66; refine (HIM2.out _ _ _ (by (repeat (with_reducible (first | exact Ext.refl _ | assumption | exact held_left (by assumption) | apply Ext.drewN | apply Ext.drew | apply Ext.alloc | (refine Ext.setCell ?_ (by first | (simp; done) | (simp; omega) | omega) _) | (refine Ext.trans ?_ (by assumption)) | (refine Ext.trans ?_ (held_left (by assumption))))))) (HQO.out.in.ext (by (repeat (with_reducible (first | exact Ext.refl _ | assumption | exact held_left (by assumption) | apply Ext.drewN | apply Ext.drew | apply Ext.alloc | (refine Ext.setCell ?_ (by first | (simp; done) | (simp; omega) | omega) _) | (refine Ext.trans ?_ (by assumption)) | (refine Ext.trans ?_ (held_left (by assumption)))))))) (owns_cap HQO.out)).mono ?_; rintro e w4 ⟨rfl, hb4⟩))
    go_ret
    exact ⟨ret_int HR.out.symm, by (repeat (with_reducible (first | exact Ext.refl _ | assumption | exact held_left (by assumption) | apply Ext.drewN | apply Ext.drew | apply Ext.alloc | (refine Ext.setCell ?_ (by first | (simp; done) | (simp; omega) | omega) _) | (refine Ext.trans ?_ (by assumption)) | (refine Ext.trans ?_ (held_left (by assumption))))))⟩

end Go.Proofs.Ythdjinicmnhgpaa

/-
slices.Clone of a row.
-/
namespace Go.Proofs.Ythdjinicmnhgpaa
open Go.RowKit

theorem flatK_len (l : List K) : (l.map K.pc).flatten.length = l.length * 5 := by
  have := flat_length 5 (l.map K.pc) (fun xs hxs => by simp at hxs; obtain ⟨c, _, rfl⟩ := hxs; rfl)
  rwa [List.length_map] at this
theorem news_row {w : World} {b o : Nat} {l : List K} (h : ∀ i, i < l.length → ∀ j, j < 5 → w.cell? ⟨b, o + i * 5 + j, none⟩ = ((l.map K.pc).getD i [])[j]?) : ∀ j u, ((l.map K.pc).flatten)[j]? = some u → w.cell? ((⟨b, o, none⟩ : Addr).add j) = some u := by
  intro j u hj
  have hjl : j < l.length * 5 := by
    rcases Nat.lt_or_ge j (l.length * 5) with h | h
    · exact h
    · rw [List.getElem?_eq_none (by rw [flatK_len]; exact h)] at hj; cases hj
  have hplain : (⟨b, o, none⟩ : Addr).add j = ⟨b, o + j, none⟩ := by unfold Addr.add; split <;> simp_all
  have hi : j / 5 < l.length := by omega
  have hq := flat_get 5 (l.map K.pc) (fun xs hxs => by simp at hxs; obtain ⟨c, _, rfl⟩ := hxs; rfl) (j / 5) (by simpa using hi) (j % 5) (Nat.mod_lt _ (by decide))
  have hm : j / 5 * 5 + j % 5 = j := by omega
  rw [hm] at hq
  rw [hplain, ← hj, hq, ← h (j / 5) hi (j % 5) (Nat.mod_lt _ (by decide)), Nat.add_assoc, hm]

set_option maxRecDepth 100000 in set_option maxHeartbeats 1600000 in
theorem clonek_any (l : List K) (a : Option Addr) (cap : Nat) (w : World) (hl : Sl w (.slice a l.length cap) 5 (l.map K.pc)) (hlen : l.length ≤ 1000) :
    Calls Try.prog 72 #[.slice a l.length cap] w fun e w' => ∃ a' cap', e = .returned (.slice a' l.length cap') ∧ w'.ownsRow w.heap.size 98 5 (.slice a' l.length cap') l.length ((l.map K.pc).flatten) ∧ Ext w w' := by
  obtain ⟨i0, hi, hz0, hz1, hz2⟩ := info_parts Try.infoCellP
  have HL := Hid.mk' hl
  clear hl
  cases a with
  | none =>
    have h0 : l = [] := by
      obtain ⟨a, c, hv, h⟩ := HL.out
      simp only [Value.slice.injEq] at hv
      rcases h with h | ⟨b, o, ha, _⟩
      · simpa using h
      · rw [← hv.1] at ha; cases ha
    obtain ⟨a, c, hv, -⟩ := HL.out
    subst h0
    clear HL hv
    go_enter Try.func72, Try.ntmps72
    go_wp2
    go_ret
    exact ⟨_, _, rfl, World.ownsRow_nil _ _ _ _, by (repeat (with_reducible (first | exact Ext.refl _ | assumption | exact held_left (by assumption) | apply Ext.drewN | apply Ext.drew | apply Ext.alloc | (refine Ext.setCell ?_ (by first | (simp; done) | (simp; omega) | omega) _) | (refine Ext.trans ?_ (by assumption)) | (refine Ext.trans ?_ (held_left (by assumption))))))⟩
  | some ad =>
    have hnews : ∀ j u, ((l.map K.pc).flatten)[j]? = some u → (w.alloc (.cells #[] 98)).cell? (ad.add j) = some u := by
      obtain ⟨a, c, hv, h⟩ := HL.out
      simp only [Value.slice.injEq] at hv
      obtain ⟨rfl, -, -⟩ := hv
      rcases h with h | ⟨b, o, ha, hb, hc⟩
      · have h0 : l = [] := by simpa using h
        subst h0; intro j u hj; simp at hj
      · cases ha
        refine news_row fun i hi j hj => ?_
        have hE : Ext w (w.alloc (.cells #[] 98)) := (Ext.refl w).alloc _
        rw [hE.cells.1 b _ hb]
        exact hc i (by simpa using hi) j hj
    have HN := Hid.mk' hnews
    clear HL hnews
    go_enter Try.func72, Try.ntmps72
    go_wp2_with (at_builtin; refine wpList_append_own _ rfl _ _ 81 rfl w.heap.size 98 i0 _ 5 56 Try.underlying81 hi hz0 hz1 hz2 rfl (by decide) (.slice (some ⟨w.heap.size, 0, none⟩) 0 0) 0 [] rfl ?c0 _ l.length _ ((l.map K.pc).flatten) rfl (flatK_len l) HN.out ?c2 ?c3 ?c4 ?c5 ?_)
    case c0 => exact ⟨rfl, .inr ⟨_, 0, #[], rfl, Nat.le_refl _, Blk.new w #[] _, Nat.le_refl _, Nat.zero_le _, rfl, rfl⟩⟩
    case c2 => intro u hu; rw [List.mem_flatten] at hu; obtain ⟨xs, hxs, hu⟩ := hu; rw [List.mem_map] at hxs; obtain ⟨c, _, rfl⟩ := hxs; simp [K.pc] at hu; rcases hu with rfl | rfl | rfl | rfl | rfl <;> rfl
    case c3 => unfold maxLen; omega
    case c4 => omega
    case c5 => simp
    intro v' w2 hown hgrow _
    have hown : w2.ownsRow w.heap.size 98 5 v' l.length ((l.map K.pc).flatten) := by simpa using hown
    have hE2 : Ext w w2 := ((Ext.refl w).alloc (.cells #[] 98)).grown (v := .slice (some ⟨w.heap.size, 0, none⟩) 0 0) (e := 98) (size := 5) (n := 0) (xs := []) ⟨rfl, .inr ⟨_, 0, #[], rfl, Nat.le_refl _, Blk.new w #[] _, Nat.le_refl _, Nat.zero_le _, rfl, rfl⟩⟩ hgrow
    obtain ⟨a', c', rfl⟩ := owns_shape hown
    have HO := Hid.mk' hown
    have HE2 := Hid.mk' hE2
    clear hown hE2 hgrow
    go_wp2
    go_ret
    exact ⟨a', c', rfl, HO.out, HE2.out⟩

end Go.Proofs.Ythdjinicmnhgpaa
