/-
The walk of CatalogKeeps.
-/
import Derived.Test.YthdjinicmnhgpaaP7
namespace Go.Proofs.Ythdjinicmnhgpaa
open Go.RowKit

theorem upP_16k (ps : List RR) : (upP ps ps.length).length ≤ 64 ∧ ∀ q ∈ upP ps ps.length, q.r.cols.length ≤ 16 :=
  up_n16 (l := ps.map RR.r) (k := ps.length) (upP_r _ _)
theorem cget_is {N g : Nat} {c : Value} {ps : List RR} {o v : Int} {w : World} (hc : Ca w N g c ps) {x : Rl} (h : getR o v (ps.map RR.r) = some x) :
    Calls Try.prog 15 #[.pointer (some ⟨g, 0, none⟩), .agg #[.int .u32 o, .int .u32 v]] w fun e w' => ∃ q : RR, e = .returned (.tuple #[.agg #[.int .u32 x.oid, .int .u32 x.ver, .string x.nm, .int .u8 x.id, .slice q.a x.cols.length q.c], .bool true]) ∧ q.r = x ∧ q.owned w.heap.size w' ∧ Ext w w' := by
  refine (cget_any N g c ps o v w hc).mono fun e w' hq => ?_
  obtain ⟨q, h1, h2, h3, h4⟩ := hq
  have hh : hasR o v (ps.map RR.r) = true := by
    cases e2 : hasR o v (ps.map RR.r) with
    | true => rfl
    | false => rw [getR_none.2 e2] at h; cases h
  have hg : (getP o v ps).map RR.r = some x := (getP_map o v ps).trans h
  obtain ⟨p, hp, hpx⟩ := Option.map_eq_some_iff.1 hg
  rw [hp, Option.getD_some, hpx] at h2
  refine ⟨q, ?_, h2, h3, h4⟩
  rw [h1, hh]
  unfold RR.agg
  rw [h2]
theorem own8_is (p : RR) (x : Rl) (hx : p.r = x) (w : World) (hp : p.in w) (hn : x.cols.length ≤ 5864062014634) :
    Calls Try.prog 20 #[.agg #[.int .u32 x.oid, .int .u32 x.ver, .string x.nm, .int .u8 x.id, .slice p.a x.cols.length p.c]] w fun e w' => ∃ a' c', e = .returned (.agg #[.int .u32 x.oid, .int .u32 x.ver, .string x.nm, .int .u8 x.id, .slice a' x.cols.length c']) ∧ x.cols.length ≤ c' ∧ RR.in w' ⟨x, a', c'⟩ ∧ Ext w w' := by
  subst hx
  refine (own9_one p w hp hn).mono fun e w' hq => ?_
  obtain ⟨⟨r', a', c'⟩, h1, h2, h3, h4, h5⟩ := hq
  simp only at h2
  subst h2
  exact ⟨a', c', h1, h3, h4.in, h5⟩
theorem pback_is (x : Rl) (a : Option Addr) (c : Nat) (w : World) (hp : RR.in w ⟨x, a, c⟩) (hn : x.cols.length ≤ 1000) :
    Calls Try.prog 23 #[.agg #[.int .u32 x.oid, .int .u32 x.ver, .string x.nm, .int .u8 x.id, .slice a x.cols.length c]] w fun e w' => ∃ a' c', e = .returned (.agg #[.int .u32 x.oid, .int .u32 x.ver, .string x.nm, .int .u8 x.id, .slice a' x.cols.length c']) ∧ RR.in w' ⟨x, a', c'⟩ ∧ Ext w w' := by
  refine (pback_any ⟨x, a, c⟩ w hp hn).mono fun e w' hq => ?_
  obtain ⟨⟨r', a', c'⟩, h1, h2, h3, -, h5⟩ := hq
  simp only at h2
  subst h2
  exact ⟨a', c', h1, h3, h5⟩
theorem rsame8_is (x y : Rl) (a b : Option Addr) (c d : Nat) (w : World) (hp : RR.in w ⟨x, a, c⟩) (hq : RR.in w ⟨y, b, d⟩) (hn : x.cols.length ≤ 1000) (hn2 : y.cols.length ≤ 9223372036854775807) :
    Calls Try.prog 22 #[.agg #[.int .u32 x.oid, .int .u32 x.ver, .string x.nm, .int .u8 x.id, .slice a x.cols.length c], .agg #[.int .u32 y.oid, .int .u32 y.ver, .string y.nm, .int .u8 y.id, .slice b y.cols.length d]] w fun e w' => e = .returned (.bool (rlB x y)) ∧ Ext w w' :=
  rsame8_any ⟨x, a, c⟩ ⟨y, b, d⟩ w hp hq hn hn2

set_option maxRecDepth 100000 in set_option maxHeartbeats 4000000 in
theorem catkeeps_law (ps : List RR) (a : Option Addr) (cap : Nat) (oid ver : Int) (nm : ByteArray) (id : Int) (cols : List Col) (pa : Option Addr) (pc : Nat) (w : World) (hl : RL w (.slice a ps.length cap) ps) (hb : ∀ p ∈ ps, p.r.wb) (hlen : ps.length ≤ 9223372036854775807) (hp : RR.in w (⟨(⟨oid, ver, nm, id, cols⟩ : Rl), pa, pc⟩ : RR)) (hpb : Rl.wb (⟨oid, ver, nm, id, cols⟩ : Rl)) :
    Calls Try.prog 4 #[.slice a ps.length cap, .agg #[.int .u32 oid, .int .u32 ver, .string nm, .int .u8 id, .slice pa cols.length pc]] w fun e w' => e = .returned (.bool true) ∧ Ext w w' := by
  have HRO := Hid.mk' (fun W (h : Ext w W) => rof_any ps a cap W (hl.ext h) hb hlen)
  unfold ROfPost at HRO
  have HL := Hid.mk' hl
  have HB := Hid.mk' hb
  have HP := Hid.mk' hp
  have HPB := Hid.mk' hpb
  clear hl hb hp hpb
  obtain ⟨E, hE⟩ : ∃ E, E = ofE (ps.map RR.r) := ⟨_, rfl⟩
  rw [← hE] at HRO
  by_cases h60 : 60 < ps.length
  · clear hE
    go_enter Try.func4, Try.ntmps4
    go_wp2_with (go_at_call 12; refine (HRO.out _ (by (repeat (with_reducible (first | exact Ext.refl _ | assumption | exact held_left (by assumption) | apply Ext.drewN | apply Ext.drew | apply Ext.alloc | (refine Ext.setCell ?_ (by first | (simp; done) | (simp; omega) | omega) _) | (refine Ext.trans ?_ (by assumption)) | (refine Ext.trans ?_ (held_left (by assumption)))))))).mono ?_; rintro e w1 ⟨a', c', n, rfl, -, -, hb1⟩)
    go_ret
    exact ⟨rfl, by (repeat (with_reducible (first | exact Ext.refl _ | assumption | exact held_left (by assumption) | apply Ext.drewN | apply Ext.drew | apply Ext.alloc | (refine Ext.setCell ?_ (by first | (simp; done) | (simp; omega) | omega) _) | (refine Ext.trans ?_ (by assumption)) | (refine Ext.trans ?_ (held_left (by assumption))))))⟩
  by_cases h0 : E = 0
  case neg =>
    have h0' : (E != 0) = true := by simpa using h0
    clear hE h0
    go_enter Try.func4, Try.ntmps4
    go_wp2_with (go_at_call 12; refine (HRO.out _ (by (repeat (with_reducible (first | exact Ext.refl _ | assumption | exact held_left (by assumption) | apply Ext.drewN | apply Ext.drew | apply Ext.alloc | (refine Ext.setCell ?_ (by first | (simp; done) | (simp; omega) | omega) _) | (refine Ext.trans ?_ (by assumption)) | (refine Ext.trans ?_ (held_left (by assumption)))))))).mono ?_; rintro e w1 ⟨a', c', n, rfl, -, -, hb1⟩)
    go_ret
    exact ⟨rfl, by (repeat (with_reducible (first | exact Ext.refl _ | assumption | exact held_left (by assumption) | apply Ext.drewN | apply Ext.drew | apply Ext.alloc | (refine Ext.setCell ?_ (by first | (simp; done) | (simp; omega) | omega) _) | (refine Ext.trans ?_ (by assumption)) | (refine Ext.trans ?_ (held_left (by assumption))))))⟩
  subst h0
  have HZ := Hid.mk' hE.symm
  have HOW := Hid.mk' (fun W (h : Ext w W) => own9_any ps a cap W (HL.out.ext h) (by omega) HB.out)
  clear hE
  go_enter Try.func4, Try.ntmps4
  go_upto_region 7 with (first
    | (go_at_call 12; refine (HRO.out _ (by (repeat (with_reducible (first | exact Ext.refl _ | assumption | exact held_left (by assumption) | apply Ext.drewN | apply Ext.drew | apply Ext.alloc | (refine Ext.setCell ?_ (by first | (simp; done) | (simp; omega) | omega) _) | (refine Ext.trans ?_ (by assumption)) | (refine Ext.trans ?_ (held_left (by assumption)))))))).mono ?_; rintro e w1 ⟨aw, cw, n, rfl, h1, -, hb1⟩; obtain ⟨rfl, hrl⟩ := h1 (by first | rfl | trivial); have HW := Hid.mk' hrl; have HE1 := Hid.mk' (show Ext w w1 by (repeat (with_reducible (first | exact Ext.refl _ | assumption | exact held_left (by assumption) | apply Ext.drewN | apply Ext.drew | apply Ext.alloc | (refine Ext.setCell ?_ (by first | (simp; done) | (simp; omega) | omega) _) | (refine Ext.trans ?_ (by assumption)) | (refine Ext.trans ?_ (held_left (by assumption))))))); have HB1 := Hid.mk' ((Blk.new w #[.int .u32 oid, .int .u32 ver, .string nm, .int .u8 id, .slice pa cols.length pc] 49).ext hb1); clear h1 hrl hb1)
    | (go_at_call 13; refine (HOW.out _ HE1.out).mono ?_; rintro e w2 ⟨a2, c2, qs2, rfl, ho2, hb2⟩; have HB2 := Hid.mk' hb2; have HOF := Hid.mk' (cof_any qs2 a2 c2 w2 (by rw [ho2.len]; exact ho2.rl) ho2.cap (ho2.wb HB.out) (by rw [ho2.len]; omega)); rw [ho2.rs, ho2.len] at HOF; clear ho2 hb2)
    | (go_at_call 14; refine HOF.out.mono ?_; rintro e w3 ⟨pv, rfl, h1, -, hb3⟩; obtain ⟨rfl, cc, qc, hcc, hqc⟩ := h1 HZ.out; have HCC := Hid.mk' hcc; have HQC := Hid.mk' hqc; have HB3 := Hid.mk' hb3; clear h1 hcc hqc hb3))
  have HX2 := Hid.mk' (HE1.out.trans HB2.out)
  have HX3 := Hid.mk' (HX2.out.trans HB3.out)
  have HR2 := Hid.mk' (HB1.out.ext HB2.out)
  have HR3 := Hid.mk' (HR2.out.ext HB3.out)
  have HW2 := Hid.mk' (HW.out.ext HB2.out)
  have H16 := Hid.mk' (upP_16k ps)
  have HQU : Hid (qc.map RR.r = (upP ps ps.length).map RR.r) := Hid.mk' (by rw [HQC.out, List.length_map, upP_r])
  have HOK : Hid (CatOk ((upP ps ps.length).map RR.r)) := Hid.mk' (by rw [← HQU.out]; exact HCC.out.ok)
  obtain ⟨U, hU⟩ : ∃ U, U = upP ps ps.length := ⟨_, rfl⟩
  rw [← hU] at HW2 H16 HQU HOK ⊢
  obtain ⟨E5, hE5⟩ : ∃ E, E = addE (U.map RR.r) (⟨oid, ver, nm, id, cols⟩ : Rl) := ⟨_, rfl⟩
  obtain ⟨G, hG⟩ : ∃ G, G = w2.heap.size := ⟨_, rfl⟩
  rw [← hG] at HCC ⊢
  have HG : Hid (w.heap.size < G) := Hid.mk' (by rw [hG]; exact (HB1.out.ext HB2.out).lt)
  have HGX : Hid (∀ {S : Nat → Prop} {W W' : World}, Ext w2 W → (∀ x, S x → G ≤ x) → Kp S W W' → Ext w2 W') := Hid.mk' (fun h hs hk => hk.ext h (fun x hx _ => by rw [← hG]; exact hs x hx))
  have HE5 := Hid.mk' hE5
  have g3 := HR3.out.cell
  have z3 := HR3.out.lt
  have HSG := Hid.mk' HCC.out.S_ge
  have HO8 := Hid.mk' (fun W (h : Ext w W) => own8_is (⟨(⟨oid, ver, nm, id, cols⟩ : Rl), pa, pc⟩ : RR) (⟨oid, ver, nm, id, cols⟩ : Rl) rfl W (HP.out.ext h) HPB.out.n)
  clear HRO HW HB1 hU hG hE5 HQC HL HB HOW HOF HZ
  simp only at HO8
  go_wp2_with (first
    | (go_at_call 20; refine (HO8.out _ HX3.out).mono ?_; rintro e w4 ⟨a4, c4, rfl, h4, hi4, hb4⟩; have HB4 := Hid.mk' hb4; have HADD := Hid.mk' (cadd_any G G cc qc (⟨(⟨oid, ver, nm, id, cols⟩ : Rl), a4, c4⟩ : RR) w4 (HCC.out.ext hb4) hi4 h4 HPB.out); unfold CAddPost at HADD; rw [HQU.out, ← HE5.out] at HADD; clear h4 hi4 hb4)
    | (go_at_call 19; refine HADD.out.mono ?_; rintro e w5 ⟨c', q', rfl, hqr, hc', hkp, -⟩; have HC5 := Hid.mk' hc'; have HQR := Hid.mk' hqr; have HE25 := Hid.mk' (HGX.out (HB3.out.trans HB4.out) HSG.out hkp); have HK5 := Hid.mk' hkp; clear hc' hqr hkp))
  have HX5 := Hid.mk' (HX2.out.trans HE25.out)
  have HW5 := Hid.mk' (HW2.out.ext HE25.out)
  have HR5 := Hid.mk' (HR2.out.ext HE25.out)
  have HP5 := Hid.mk' (HP.out.ext HX5.out)
  have HQ : Hid ((addP qc q').map RR.r = addL (U.map RR.r) (⟨oid, ver, nm, id, cols⟩ : Rl)) := Hid.mk' (by rw [addP_r, HQU.out, HQR.out])
  obtain ⟨Q, hQ⟩ : ∃ Q, Q = addP qc q' := ⟨_, rfl⟩
  rw [← hQ] at HC5 HQ
  clear hQ HQR HQU HCC HW2 HR3 g3 z3 HADD HK5 HB4 HX3 HX2 HE1 HB2 HB3
  have hU64 := H16.out.1
  go_loopw [12] (fun i wr => ∃ (k : Nat), k ≤ U.length ∧ i = .int .i64 k ∧ Hid (Ext w5 wr)) (fun i _ => U.length - (intOf i).toNat)
  case atStart => exact ⟨0, Nat.zero_le _, rfl, Hid.mk' (Ext.refl _)⟩
  case round =>
    obtain ⟨k, hk, rfl, hE⟩ := hrel
    by_cases hlt : k < U.length
    · obtain ⟨b, o, rfl, hb, hx⟩ := HW5.out.row.at_ (i := k) (by simpa using hlt)
      obtain ⟨f0, f1, f2, f3, f4⟩ := RR.at_ hlt hx hb hE.out
      have HF := Hid.mk' (fun W (h : Ext w5 W) => RR.at_ hlt hx hb h)
      have hbw : b < wr.heap.size := Nat.lt_of_lt_of_le hb hE.out.size
      have HG1 : Hid (getR U[k].r.oid U[k].r.ver (Q.map RR.r) = some U[k].r) := Hid.mk' (by rw [HQ.out]; exact add_get HOK.out _ (List.mem_map_of_mem (List.getElem_mem hlt)))
      have HUI := Hid.mk' (HW5.out.sl _ (List.getElem_mem hlt))
      have HUN := Hid.mk' (H16.out.2 _ (List.getElem_mem hlt))
      obtain ⟨u, hu⟩ : ∃ u, u = U[k] := ⟨_, rfl⟩
      rw [← hu] at f0 f1 f2 f3 f4 HF HG1 HUI HUN
      have HGT := Hid.mk' (fun W (h : Ext w5 W) => cget_is (HC5.out.ext h) HG1.out)
      have HLT : Hid (k < U.length) := Hid.mk' hlt
      clear hx hu HG1
      go_upto_region 12 with (first
        | (go_at_call 21; refine (ref9_any _ _ _).mono ?_; rintro e w6 ⟨rfl, hb6⟩; have HB6 := Hid.mk' hb6; clear hb6)
        | (go_at_call 15; refine (HGT.out _ (hE.out.trans HB6.out)).mono ?_; rintro e w7 ⟨⟨r7, a7, c7⟩, rfl, hr7, ho7, hb7⟩; simp only at hr7; subst hr7; have HI7 := Hid.mk' ho7.in; have HB7 := Hid.mk' (HB6.out.trans hb7); clear ho7 hb7; try simp only))
      obtain ⟨w8, hw8⟩ : ∃ w8, w8 = w7.alloc (.cells #[.int .u32 u.r.oid, .int .u32 u.r.ver, .string u.r.nm, .int .u8 u.r.id, .slice a7 u.r.cols.length c7] 36) := ⟨_, rfl⟩
      obtain ⟨G7, hG7⟩ : ∃ G, G = w7.heap.size := ⟨_, rfl⟩
      have HB8 : Hid (Blk w8 G7 #[.int .u32 u.r.oid, .int .u32 u.r.ver, .string u.r.nm, .int .u8 u.r.id, .slice a7 u.r.cols.length c7] 36) := Hid.mk' (by rw [hw8, hG7]; exact Blk.new _ _ _)
      have HX8 : Hid (Ext wr w8) := Hid.mk' (by rw [hw8]; exact HB7.out.alloc _)
      have HI8 : Hid (RR.in w8 ⟨u.r, a7, c7⟩) := Hid.mk' (by rw [hw8]; exact RR.in.ext HI7.out ((Ext.refl w7).alloc _))
      rw [← hw8, ← hG7]
      clear hw8 hG7 HI7 HB7 HB6 HGT
      have HS : Hid (∀ w', Ext w8 w' → Ext w8 w' ∧ (∀ i, w'.cell? ⟨G7, i, none⟩ = (#[.int .u32 u.r.oid, .int .u32 u.r.ver, .string u.r.nm, .int .u8 u.r.id, .slice a7 u.r.cols.length c7])[i]?) ∧ w'.cell? ⟨b, o + k * 5, none⟩ = some (.int .u32 u.r.oid) ∧ w'.cell? ⟨b, o + k * 5 + 1, none⟩ = some (.int .u32 u.r.ver) ∧ w'.cell? ⟨b, o + k * 5 + 2, none⟩ = some (.string u.r.nm) ∧ w'.cell? ⟨b, o + k * 5 + 3, none⟩ = some (.int .u8 u.r.id) ∧ w'.cell? ⟨b, o + k * 5 + 4, none⟩ = some (.slice u.a u.r.cols.length u.c) ∧ b < w'.heap.size ∧ G7 < w'.heap.size) := Hid.mk' (fun w' h => by
        obtain ⟨q0, q1, q2, q3, q4⟩ := HF.out w' (hE.out.trans (HX8.out.trans h))
        exact ⟨h, (HB8.out.ext h).cell, q0, q1, q2, q3, q4, Nat.lt_of_lt_of_le hbw (HX8.out.trans h).size, (HB8.out.ext h).lt⟩)
      have HBK := Hid.mk' (fun W (h : Ext w8 W) => pback_is u.r a7 c7 W (RR.in.ext HI8.out h) (by have := HUN.out; omega))
      clear f0 f1 f2 f3 f4 HF hbw hb
      go_region_held3 (fun w' => Ext w8 w' ∧ (∀ i, w'.cell? ⟨G7, i, none⟩ = (#[.int .u32 u.r.oid, .int .u32 u.r.ver, .string u.r.nm, .int .u8 u.r.id, .slice a7 u.r.cols.length c7])[i]?) ∧ w'.cell? ⟨b, o + k * 5, none⟩ = some (.int .u32 u.r.oid) ∧ w'.cell? ⟨b, o + k * 5 + 1, none⟩ = some (.int .u32 u.r.ver) ∧ w'.cell? ⟨b, o + k * 5 + 2, none⟩ = some (.string u.r.nm) ∧ w'.cell? ⟨b, o + k * 5 + 3, none⟩ = some (.int .u8 u.r.id) ∧ w'.cell? ⟨b, o + k * 5 + 4, none⟩ = some (.slice u.a u.r.cols.length u.c) ∧ b < w'.heap.size ∧ G7 < w'.heap.size) (exact HS.out _ (by (repeat (with_reducible (first | exact Ext.refl _ | assumption | exact held_left (by assumption) | apply Ext.drewN | apply Ext.drew | apply Ext.alloc | (refine Ext.setCell ?_ (by first | (simp; done) | (simp; omega) | omega) _) | (refine Ext.trans ?_ (by assumption)) | (refine Ext.trans ?_ (held_left (by assumption))))))))
        (first
          | (go_at_call 23; refine (HBK.out _ (by (repeat (with_reducible (first | exact Ext.refl _ | assumption | exact held_left (by assumption) | apply Ext.drewN | apply Ext.drew | apply Ext.alloc | (refine Ext.setCell ?_ (by first | (simp; done) | (simp; omega) | omega) _) | (refine Ext.trans ?_ (by assumption)) | (refine Ext.trans ?_ (held_left (by assumption)))))))).mono ?_; rintro e w9 ⟨a9, c9, rfl, h9, hb9⟩; have HI9 := Hid.mk' h9; clear h9)
          | (go_at_call 22; refine (rsame8_is u.r u.r a9 u.a c9 u.c _ (RR.in.ext HI9.out (by (repeat (with_reducible (first | exact Ext.refl _ | assumption | exact held_left (by assumption) | apply Ext.drewN | apply Ext.drew | apply Ext.alloc | (refine Ext.setCell ?_ (by first | (simp; done) | (simp; omega) | omega) _) | (refine Ext.trans ?_ (by assumption)) | (refine Ext.trans ?_ (held_left (by assumption)))))))) (RR.in.ext HUI.out (hE.out.trans (HX8.out.trans (by (repeat (with_reducible (first | exact Ext.refl _ | assumption | exact held_left (by assumption) | apply Ext.drewN | apply Ext.drew | apply Ext.alloc | (refine Ext.setCell ?_ (by first | (simp; done) | (simp; omega) | omega) _) | (refine Ext.trans ?_ (by assumption)) | (refine Ext.trans ?_ (held_left (by assumption)))))))))) (by have := HUN.out; omega) (by have := HUN.out; omega)).mono ?_; rintro e w10 ⟨rfl, hb10⟩; have HR10 := Hid.mk' (rlB_true.2 (rfl : u.r = u.r)); rw [HR10.out]))
      have HX10 : Hid (Ext w5 w10) := Hid.mk' (hE.out.trans (HX8.out.trans (by (repeat (with_reducible (first | exact Ext.refl _ | assumption | exact held_left (by assumption) | apply Ext.drewN | apply Ext.drew | apply Ext.alloc | (refine Ext.setCell ?_ (by first | (simp; done) | (simp; omega) | omega) _) | (refine Ext.trans ?_ (by assumption)) | (refine Ext.trans ?_ (held_left (by assumption)))))))))
      go_wp2
      go_roundw
      case rel => exact ⟨k + 1, by have := HLT.out; omega, by go_num, HX10⟩
      case measure => have := HLT.out; simp [intOf]; omega
    · obtain rfl : k = U.length := by omega
      have HX6 := Hid.mk' (HX5.out.trans hE.out)
      by_cases h5 : E5 = 0
      case neg =>
        have h5' : (E5 != 0) = true := by simpa using h5
        have HLN := Hid.mk' (len_any G G c' Q wr (HC5.out.ext hE.out))
        have hQU : Q.length = U.length := by
          have := congrArg List.length HQ.out
          rw [addL_len (by rw [← HE5.out]; exact h5), List.length_map, List.length_map] at this
          exact this
        rw [hQU] at HLN
        clear h5 hQU
        go_wp2_with (first
          | (go_at_call 24; refine HLN.out.mono ?_; rintro e w11 ⟨rfl, hb11⟩; have HB11 := Hid.mk' hb11; clear hb11)
          | (go_at_call 18; refine (awake9_any _).mono ?_; rintro e w12 ⟨rfl, hb12⟩; have HB12 := Hid.mk' hb12; clear hb12))
        go_ret
        exact ⟨rfl, HX6.out.trans (HB11.out.trans HB12.out)⟩
      subst h5
      have hnew := add_new HOK.out HE5.out.symm
      rw [← HQ.out] at hnew
      obtain ⟨hn1, hn2, hn3⟩ := hnew
      rw [List.length_map, List.length_map] at hn2
      have HN2 := Hid.mk' hn2
      have HN3 := Hid.mk' hn3
      have HGT := Hid.mk' (fun W (h : Ext w5 W) => cget_is (HC5.out.ext h) hn1)
      clear hn1 hn2 hn3
      have hr0 := (HR5.out.ext hE.out).cell
      have hr1 := (HR5.out.ext hE.out).lt
      go_upto_region 17 with (first
        | (go_at_call 21; refine (ref9_any _ _ _).mono ?_; rintro e w6 ⟨rfl, hb6⟩; have HB6 := Hid.mk' hb6; clear hb6)
        | (go_at_call 15; refine (HGT.out _ (hE.out.trans HB6.out)).mono ?_; rintro e w7 ⟨⟨r7, a7, c7⟩, rfl, hr7, ho7, hb7⟩; simp only at hr7; subst hr7; have HI7 := Hid.mk' ho7.in; have HB7 := Hid.mk' (HB6.out.trans hb7); clear ho7 hb7; try simp only))
      have HX7 := Hid.mk' (hE.out.trans HB7.out)
      obtain ⟨w8, hw8⟩ : ∃ w8, w8 = w7.alloc (.cells #[.int .u32 oid, .int .u32 ver, .string nm, .int .u8 id, .slice a7 cols.length c7] 36) := ⟨_, rfl⟩
      obtain ⟨G7, hG7⟩ : ∃ G, G = w7.heap.size := ⟨_, rfl⟩
      have HB8 : Hid (Blk w8 G7 #[.int .u32 oid, .int .u32 ver, .string nm, .int .u8 id, .slice a7 cols.length c7] 36) := Hid.mk' (by rw [hw8, hG7]; exact Blk.new _ _ _)
      have HX8 : Hid (Ext w5 w8) := Hid.mk' (by rw [hw8]; exact HX7.out.alloc _)
      have HI8 : Hid (RR.in w8 ⟨(⟨oid, ver, nm, id, cols⟩ : Rl), a7, c7⟩) := Hid.mk' (by rw [hw8]; exact RR.in.ext HI7.out ((Ext.refl w7).alloc _))
      have HC8 : Hid (Ca w8 G G c' Q) := Hid.mk' (HC5.out.ext HX8.out)
      have HNS : Hid (¬ Ca.S G c' G7 ∧ ¬ Ca.S G c' w.heap.size) := Hid.mk' (by
        have h1 := (HC5.out.ext HX7.out).ptr.lt
        have h2 := HG.out
        refine ⟨fun h => ?_, fun h => ?_⟩
        · rcases h with h | h
          · omega
          · have := ((HC5.out.ext HX7.out).own.lt _ h).2; omega
        · have := HC5.out.S_ge _ h; omega)
      have HR8 : Hid (Blk w8 w.heap.size #[.int .u32 oid, .int .u32 ver, .string nm, .int .u8 id, .slice pa cols.length pc] 49) := Hid.mk' (HR5.out.ext HX8.out)
      rw [← hw8, ← hG7]
      clear hw8 hG7 HI7 HB7 HB6 HGT hr0 hr1
      have HS : Hid (∀ w', Kp (Ca.S G c') w8 w' → (∀ i, w'.cell? ⟨G7, i, none⟩ = (#[.int .u32 oid, .int .u32 ver, .string nm, .int .u8 id, .slice a7 cols.length c7])[i]?) ∧ (∀ i, w'.cell? ⟨w.heap.size, i, none⟩ = (#[.int .u32 oid, .int .u32 ver, .string nm, .int .u8 id, .slice pa cols.length pc])[i]?) ∧ G7 < w'.heap.size ∧ w.heap.size < w'.heap.size) := Hid.mk' (fun w' h => by
        have h1 := HB8.out.kp h HNS.out.1
        have h2 := HR8.out.kp h HNS.out.2
        exact ⟨h1.cell, h2.cell, h1.lt, h2.lt⟩)
      have HPN : Hid (cols.length ≤ 16) := Hid.mk' (Rl.cols_le (r := (⟨oid, ver, nm, id, cols⟩ : Rl)) (addE_zero HE5.out.symm).1)
      have HBK := Hid.mk' (fun W (h : Ext w8 W) => pback_is (⟨oid, ver, nm, id, cols⟩ : Rl) a7 c7 W (RR.in.ext HI8.out h) (by have := HPN.out; simp only; omega))
      have HSM := Hid.mk' (fun a9 c9 W (hi : RR.in W ⟨(⟨oid, ver, nm, id, cols⟩ : Rl), a9, c9⟩) (h : Ext w8 W) => rsame8_is (⟨oid, ver, nm, id, cols⟩ : Rl) (⟨oid, ver, nm, id, cols⟩ : Rl) a9 pa c9 pc W hi (RR.in.ext HP5.out (HX8.out.trans h)) (by have := HPN.out; simp only; omega) (by have := HPN.out; simp only; omega))
      rw [rlB_true.2 rfl] at HSM
      have HLN := Hid.mk' (fun W (h : Ext w8 W) => len_any G G c' Q W (HC8.out.ext h))
      rw [HN2.out, show ((U.length + 1 : Nat) : Int) = (U.length : Int) + 1 from rfl] at HLN
      have hw1 : IntKind.i64.wrap ((U.length : Int) + 1) = (U.length : Int) + 1 := by simp [IntKind.wrap, IntKind.signed, IntKind.bits]; split <;> omega
      have HO8' := Hid.mk' (fun W (h : Ext w8 W) => own8_is (⟨(⟨oid, ver, nm, id, cols⟩ : Rl), pa, pc⟩ : RR) (⟨oid, ver, nm, id, cols⟩ : Rl) rfl W (HP5.out.ext (HX8.out.trans h)) HPB.out.n)
      simp only at HBK HSM HO8'
      clear HO8
      go_region_held3 (fun w' => (∀ i, w'.cell? ⟨G7, i, none⟩ = (#[.int .u32 oid, .int .u32 ver, .string nm, .int .u8 id, .slice a7 cols.length c7])[i]?) ∧ (∀ i, w'.cell? ⟨w.heap.size, i, none⟩ = (#[.int .u32 oid, .int .u32 ver, .string nm, .int .u8 id, .slice pa cols.length pc])[i]?) ∧ G7 < w'.heap.size ∧ w.heap.size < w'.heap.size) (first | exact HS.out _ HKG.out | exact HS.out _ HKF.out | exact HS.out _ (Kp.of_ext (by (repeat (with_reducible (first | exact Ext.refl _ | assumption | exact held_left (by assumption) | apply Ext.drewN | apply Ext.drew | apply Ext.alloc | (refine Ext.setCell ?_ (by first | (simp; done) | (simp; omega) | omega) _) | (refine Ext.trans ?_ (by assumption)) | (refine Ext.trans ?_ (held_left (by assumption)))))))))
        (first
          | (go_at_call 23; refine (HBK.out _ (by (repeat (with_reducible (first | exact Ext.refl _ | assumption | exact held_left (by assumption) | apply Ext.drewN | apply Ext.drew | apply Ext.alloc | (refine Ext.setCell ?_ (by first | (simp; done) | (simp; omega) | omega) _) | (refine Ext.trans ?_ (by assumption)) | (refine Ext.trans ?_ (held_left (by assumption)))))))).mono ?_; rintro e w9 ⟨a9, c9, rfl, h9, hb9⟩; have HI9 := Hid.mk' h9; clear h9)
          | (go_at_call 22; refine (HSM.out _ _ _ (RR.in.ext HI9.out (by (repeat (with_reducible (first | exact Ext.refl _ | assumption | exact held_left (by assumption) | apply Ext.drewN | apply Ext.drew | apply Ext.alloc | (refine Ext.setCell ?_ (by first | (simp; done) | (simp; omega) | omega) _) | (refine Ext.trans ?_ (by assumption)) | (refine Ext.trans ?_ (held_left (by assumption)))))))) (by (repeat (with_reducible (first | exact Ext.refl _ | assumption | exact held_left (by assumption) | apply Ext.drewN | apply Ext.drew | apply Ext.alloc | (refine Ext.setCell ?_ (by first | (simp; done) | (simp; omega) | omega) _) | (refine Ext.trans ?_ (by assumption)) | (refine Ext.trans ?_ (held_left (by assumption)))))))).mono ?_; rintro e w10 ⟨rfl, hb10⟩)
          | (go_at_call 24; refine (HLN.out _ (by (repeat (with_reducible (first | exact Ext.refl _ | assumption | exact held_left (by assumption) | apply Ext.drewN | apply Ext.drew | apply Ext.alloc | (refine Ext.setCell ?_ (by first | (simp; done) | (simp; omega) | omega) _) | (refine Ext.trans ?_ (by assumption)) | (refine Ext.trans ?_ (held_left (by assumption)))))))).mono ?_; rintro e w11 ⟨rfl, hb11⟩)
          | (go_at_call 20; refine (HO8'.out _ (by (repeat (with_reducible (first | exact Ext.refl _ | assumption | exact held_left (by assumption) | apply Ext.drewN | apply Ext.drew | apply Ext.alloc | (refine Ext.setCell ?_ (by first | (simp; done) | (simp; omega) | omega) _) | (refine Ext.trans ?_ (by assumption)) | (refine Ext.trans ?_ (held_left (by assumption)))))))).mono ?_; rintro e w12 ⟨a12, c12, rfl, h12, hi12, hb12⟩; have HX12 : Hid (Ext w8 w12) := Hid.mk' (by (repeat (with_reducible (first | exact Ext.refl _ | assumption | exact held_left (by assumption) | apply Ext.drewN | apply Ext.drew | apply Ext.alloc | (refine Ext.setCell ?_ (by first | (simp; done) | (simp; omega) | omega) _) | (refine Ext.trans ?_ (by assumption)) | (refine Ext.trans ?_ (held_left (by assumption))))))); have HADD := Hid.mk' (fun W (h : Ext w12 W) => cadd_any G G c' Q (⟨(⟨oid, ver, nm, id, cols⟩ : Rl), a12, c12⟩ : RR) W (HC8.out.ext (HX12.out.trans h)) (RR.in.ext hi12 h) h12 HPB.out); unfold CAddPost at HADD; rw [HN3.out] at HADD; clear h12 hi12)
          | (go_at_call 19; refine (HADD.out _ (by (repeat (with_reducible (first | exact Ext.refl _ | assumption | exact held_left (by assumption) | apply Ext.drewN | apply Ext.drew | apply Ext.alloc | (refine Ext.setCell ?_ (by first | (simp; done) | (simp; omega) | omega) _) | (refine Ext.trans ?_ (by assumption)) | (refine Ext.trans ?_ (held_left (by assumption)))))))).mono ?_; rintro e w13 ⟨c13, q13, rfl, -, -, hkp, -⟩; have HKF : Hid (Kp (Ca.S G c') w8 w13) := Hid.mk' ((Kp.of_ext (show Ext w8 _ by (repeat (with_reducible (first | exact Ext.refl _ | assumption | exact held_left (by assumption) | apply Ext.drewN | apply Ext.drew | apply Ext.alloc | (refine Ext.setCell ?_ (by first | (simp; done) | (simp; omega) | omega) _) | (refine Ext.trans ?_ (by assumption)) | (refine Ext.trans ?_ (held_left (by assumption)))))))).trans hkp (fun x hx _ => hx)); clear hkp)
          | (go_at_call 18; refine (awake9_any _).mono ?_; rintro e w14 ⟨rfl, hb14⟩; have HKG : Hid (Kp (Ca.S G c') w8 w14) := Hid.mk' (HKF.out.trans (Kp.of_ext (show Ext w13 w14 by (repeat (with_reducible (first | exact Ext.refl _ | assumption | exact held_left (by assumption) | apply Ext.drewN | apply Ext.drew | apply Ext.alloc | (refine Ext.setCell ?_ (by first | (simp; done) | (simp; omega) | omega) _) | (refine Ext.trans ?_ (by assumption)) | (refine Ext.trans ?_ (held_left (by assumption)))))))) (fun x hx _ => hx))))
      go_wp2
      go_ret
      exact ⟨rfl, Kp.ext (HX5.out.trans HX8.out) (fun x hx _ => by have := HC5.out.S_ge _ hx; have := HG.out; omega) HKG.out⟩

end Go.Proofs.Ythdjinicmnhgpaa
