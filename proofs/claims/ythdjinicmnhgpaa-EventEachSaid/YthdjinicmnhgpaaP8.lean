/-
The walk of CatalogKeeps.
-/
import Derived.Test.YthdjinicmnhgpaaP7
namespace Go.Proofs.Ythdjinicmnhgpaa
open Go.RowKit

theorem upP_16k (ps : List RR) : (upP ps ps.length).length ≤ 64 ∧ ∀ q ∈ upP ps ps.length, q.r.cols.length ≤ 16 :=
  up_n16 (l := ps.map RR.r) (k := ps.length) (upP_r _ _)
theorem cget_is {N g : Nat} {c : Value} {ps : List RR} {o v : Int} {w : World} (hc : Ca w N g c ps) {x : Rl} (h : getR o v (ps.map RR.r) = some x) :
    Calls Try.prog 15 #[.pointer (some ⟨g, 0, none⟩), .agg #[.int .u32 o, .int .u32 v]] w fun e w' => ∃ q : RR, e = .returned (.tuple #[.agg #[.int .u32 x.oid, .int .u32 x.ver, .string x.nm, .int .u8 x.id, .slice q.a x.cols.length q.c], .bool true]) ∧ q.r = x ∧ q.owned w.heap.size w' ∧ Ext w w' := by
  refine (cget_any N g c ps o v w hc).mono fun e w' hq => ?_
  obtain ⟨q, h1, h2, h3, h4⟩ := hq
  have hh : hasR o v (ps.map RR.r) = true := by
    cases e2 : hasR o v (ps.map RR.r) with
    | true => rfl
    | false => rw [getR_none.2 e2] at h; cases h
  have hg : (getP o v ps).map RR.r = some x := (getP_map o v ps).trans h
  obtain ⟨p, hp, hpx⟩ := Option.map_eq_some_iff.1 hg
  rw [hp, Option.getD_some, hpx] at h2
  refine ⟨q, ?_, h2, h3, h4⟩
  rw [h1, hh]
  unfold RR.agg
  rw [h2]
theorem own8_is (p : RR) (x : Rl) (hx : p.r = x) (w : World) (hp : p.in w) (hn : x.cols.length ≤ 5864062014634) :
    Calls Try.prog 20 #[.agg #[.int .u32 x.oid, .int .u32 x.ver, .string x.nm, .int .u8 x.id, .slice p.a x.cols.length p.c]] w fun e w' => ∃ a' c', e = .returned (.agg #[.int .u32 x.oid, .int .u32 x.ver, .string x.nm, .int .u8 x.id, .slice a' x.cols.length c']) ∧ x.cols.length ≤ c' ∧ RR.in w' ⟨x, a', c'⟩ ∧ Ext w w' := by
  subst hx
  refine (own9_one p w hp hn).mono fun e w' hq => ?_
  obtain ⟨⟨r', a', c'⟩, h1, h2, h3, h4, h5⟩ := hq
  simp only at h2
  subst h2
  exact ⟨a', c', h1, h3, h4.in, h5⟩
theorem pback_is (x : Rl) (a : Option Addr) (c : Nat) (w : World) (hp : RR.in w ⟨x, a, c⟩) (hn : x.cols.length ≤ 1000) :
    Calls Try.prog 23 #[.agg #[.int .u32 x.oid, .int .u32 x.ver, .string x.nm, .int .u8 x.id, .slice a x.cols.length c]] w fun e w' => ∃ a' c', e = .returned (.agg #[.int .u32 x.oid, .int .u32 x.ver, .string x.nm, .int .u8 x.id, .slice a' x.cols.length c']) ∧ RR.in w' ⟨x, a', c'⟩ ∧ Ext w w' := by
  refine (pback_any ⟨x, a, c⟩ w hp hn).mono fun e w' hq => ?_
  obtain ⟨⟨r', a', c'⟩, h1, h2, h3, -, h5⟩ := hq
  simp only at h2
  subst h2
  exact ⟨a', c', h1, h3, h5⟩
theorem rsame8_is (x y : Rl) (a b : Option Addr) (c d : Nat) (w : World) (hp : RR.in w ⟨x, a, c⟩) (hq : RR.in w ⟨y, b, d⟩) (hn : x.cols.length ≤ 1000) (hn2 : y.cols.length ≤ 9223372036854775807) :
    Calls Try.prog 22 #[.agg #[.int .u32 x.oid, .int .u32 x.ver, .string x.nm, .int .u8 x.id, .slice a x.cols.length c], .agg #[.int .u32 y.oid, .int .u32 y.ver, .string y.nm, .int .u8 y.id, .slice b y.cols.length d]] w fun e w' => e = .returned (.bool (rlB x y)) ∧ Ext w w' :=
  rsame8_any ⟨x, a, c⟩ ⟨y, b, d⟩ w hp hq hn hn2

set_option maxRecDepth 100000 in set_option maxHeartbeats 4000000 in
theorem catkeeps_law (ps : List RR) (a : Option Addr) (cap : Nat) (oid ver : Int) (nm : ByteArray) (id : Int) (cols : List Col) (pa : Option Addr) (pc : Nat) (w : World) (hl : RL w (.slice a ps.length cap) ps) (hb : ∀ p ∈ ps, p.r.wb) (hlen : ps.length ≤ 9223372036854775807) (hp : RR.in w (⟨(⟨oid, ver, nm, id, cols⟩ : Rl), pa, pc⟩ : RR)) (hpb : Rl.wb (⟨oid, ver, nm, id, cols⟩ : Rl)) :
    Calls Try.prog 4 #[.slice a ps.length cap, .agg #[.int .u32 oid, .int .u32 ver, .string nm, .int .u8 id, .slice pa cols.length pc]] w fun e w' => e = .returned (.bool true) ∧ Ext w w' := by
  have HRO := Hid.mk' (fun W (h : Ext w W) => rof_any ps a cap W (hl.ext h) hb hlen)
  unfold ROfPost at HRO
  have HL := Hid.mk' hl
  have HB := Hid.mk' hb
  have HP := Hid.mk' hp
  have HPB := Hid.mk' hpb
  clear hl hb hp hpb
  obtain ⟨E, hE⟩ : ∃ E, E = ofE (ps.map RR.r) := ⟨_, rfl⟩
  rw [← hE] at HRO
  by_cases h60 : 60 < ps.length
  · clear hE
    go_enter Try.func4, Try.ntmps4
    go_wp2_with (go_at_call 12; refine (HRO.out _ (by (repeat (with_reducible (first | exact Ext.refl _ | assumption | exact held_left (by assumption) | apply Ext.drewN | apply Ext.drew | apply Ext.alloc | (refine Ext.setCell ?_ (by first | (simp; done) | (simp; omega) | omega) _) | (refine Ext.trans ?_ (by assumption)) | (refine Ext.trans ?_ (held_left (by assumption)))))))).mono ?_; rintro e w1 ⟨a', c', n, rfl, -, -, hb1⟩)
    go_ret
    exact ⟨rfl, by (repeat (with_reducible (first | exact Ext.refl _ | assumption | exact held_left (by assumption) | apply Ext.drewN | apply Ext.drew | apply Ext.alloc | (refine Ext.setCell ?_ (by first | (simp; done) | (simp; omega) | omega) _) | (refine Ext.trans ?_ (by assumption)) | (refine Ext.trans ?_ (held_left (by assumption))))))⟩
  by_cases h0 : E = 0
  case neg =>
    have h0' : (E != 0) = true := by simpa using h0
    clear hE h0
    go_enter Try.func4, Try.ntmps4
    go_wp2_with (go_at_call 12; refine (HRO.out _ (by (repeat (with_reducible (first | exact Ext.refl _ | assumption | exact held_left (by assumption) | apply Ext.drewN | apply Ext.drew | apply Ext.alloc | (refine Ext.setCell ?_ (by first | (simp; done) | (simp; omega) | omega) _) | (refine Ext.trans ?_ (by assumption)) | (refine Ext.trans ?_ (held_left (by assumption)))))))).mono ?_; rintro e w1 ⟨a', c', n, rfl, -, -, hb1⟩)
    go_ret
    exact ⟨rfl, by (repeat (with_reducible (first | exact Ext.refl _ | assumption | exact held_left (by assumption) | apply Ext.drewN | apply Ext.drew | apply Ext.alloc | (refine Ext.setCell ?_ (by first | (simp; done) | (simp; omega) | omega) _) | (refine Ext.trans ?_ (by assumption)) | (refine Ext.trans ?_ (held_left (by assumption))))))⟩
  subst h0
  have HZ := Hid.mk' hE.symm
  have HOW := Hid.mk' (fun W (h : Ext w W) => own9_any ps a cap W (HL.out.ext h) (by omega) HB.out)
  clear hE
  go_enter Try.func4, Try.ntmps4
  go_upto_region 7 with (first
    | (go_at_call 12; refine (HRO.out _ (by (repeat (with_reducible (first | exact Ext.refl _ | assumption | exact held_left (by assumption) | apply Ext.drewN | apply Ext.drew | apply Ext.alloc | (refine Ext.setCell ?_ (by first | (simp; done) | (simp; omega) | omega) _) | (refine Ext.trans ?_ (by assumption)) | (refine Ext.trans ?_ (held_left (by assumption)))))))).mono ?_; rintro e w1 ⟨aw, cw, n, rfl, h1, -, hb1⟩; obtain ⟨rfl, hrl⟩ := h1 (by first | rfl | trivial); have HW := Hid.mk' hrl; have HE1 := Hid.mk' (show Ext w w1 by (repeat (with_reducible (first | exact Ext.refl _ | assumption | exact held_left (by assumption) | apply Ext.drewN | apply Ext.drew | apply Ext.alloc | (refine Ext.setCell ?_ (by first | (simp; done) | (simp; omega) | omega) _) | (refine Ext.trans ?_ (by assumption)) | (refine Ext.trans ?_ (held_left (by assumption))))))); have HB1 := Hid.mk' ((Blk.new w #[.int .u32 oid, .int .u32 ver, .string nm, .int .u8 id, .slice pa cols.length pc] 49).ext hb1); clear h1 hrl hb1)
    | (go_at_call 13; refine (HOW.out _ HE1.out).mono ?_; rintro e w2 ⟨a2, c2, qs2, rfl, ho2, hb2⟩; have HB2 := Hid.mk' hb2; have HOF := Hid.mk' (cof_any qs2 a2 c2 w2 (by rw [ho2.len]; exact ho2.rl) ho2.cap (ho2.wb HB.out) (by rw [ho2.len]; omega)); rw [ho2.rs, ho2.len] at HOF; clear ho2 hb2)
    | (go_at_call 14; refine HOF.out.mono ?_; rintro e w3 ⟨pv, rfl, h1, -, hb3⟩; obtain ⟨rfl, cc, qc, hcc, hqc⟩ := h1 HZ.out; have HCC := Hid.mk' hcc; have HQC := Hid.mk' hqc; have HB3 := Hid.mk' hb3; clear h1 hcc hqc hb3))
  have HX2 := Hid.mk' (HE1.out.trans HB2.out)
  have HX3 := Hid.mk' (HX2.out.trans HB3.out)
  have HR2 := Hid.mk' (HB1.out.ext HB2.out)
  have HR3 := Hid.mk' (HR2.out.ext HB3.out)
  have HW2 := Hid.mk' (HW.out.ext HB2.out)
  have H16 := Hid.mk' (upP_16k ps)
  have HQU : Hid (qc.map RR.r = (upP ps ps.length).map RR.r) := Hid.mk' (by rw [HQC.out, List.length_map, upP_r])
  have HOK : Hid (CatOk ((upP ps ps.length).map RR.r)) := Hid.mk' (by rw [← HQU.out]; exact HCC.out.ok)
  obtain ⟨U, hU⟩ : ∃ U, U = upP ps ps.length := ⟨_, rfl⟩
  rw [← hU] at HW2 H16 HQU HOK ⊢
  obtain ⟨E5, hE5⟩ : ∃ E, E = addE (U.map RR.r) (⟨oid, ver, nm, id, cols⟩ : Rl) := ⟨_, rfl⟩
  obtain ⟨G, hG⟩ : ∃ G, G = w2.heap.size := ⟨_, rfl⟩
  rw [← hG] at HCC ⊢
  have HG : Hid (w.heap.size < G) := Hid.mk' (by rw [hG]; exact (HB1.out.ext HB2.out).lt)
  have HGX : Hid (∀ {S : Nat → Prop} {W W' : World}, Ext w2 W → (∀ x, S x → G ≤ x) → Kp S W W' → Ext w2 W') := Hid.mk' (fun h hs hk => hk.ext h (fun x hx _ => by rw [← hG]; exact hs x hx))
  have HE5 := Hid.mk' hE5
  have g3 := HR3.out.cell
  have z3 := HR3.out.lt
  have HSG := Hid.mk' HCC.out.S_ge
  have HO8 := Hid.mk' (fun W (h : Ext w W) => own8_is (⟨(⟨oid, ver, nm, id, cols⟩ : Rl), pa, pc⟩ : RR) (⟨oid, ver, nm, id, cols⟩ : Rl) rfl W (HP.out.ext h) HPB.out.n)
  clear HRO HW HB1 hU hG hE5 HQC HL HB HOW HOF HZ
  simp only at HO8
  go_wp2_with (first
    | (go_at_call 20; refine (HO8.out _ HX3.out).mono ?_; rintro e w4 ⟨a4, c4, rfl, h4, hi4, hb4⟩; have HB4 := Hid.mk' hb4; have HADD := Hid.mk' (cadd_any G G cc qc (⟨(⟨oid, ver, nm, id, cols⟩ : Rl), a4, c4⟩ : RR) w4 (HCC.out.ext hb4) hi4 h4 HPB.out); unfold CAddPost at HADD; rw [HQU.out, ← HE5.out] at HADD; clear h4 hi4 hb4)
    | (go_at_call 19; refine HADD.out.mono ?_; rintro e w5 ⟨c', q', rfl, hqr, hc', hkp, -⟩; have HC5 := Hid.mk' hc'; have HQR := Hid.mk' hqr; have HE25 := Hid.mk' (HGX.out (HB3.out.trans HB4.out) HSG.out hkp); have HK5 := Hid.mk' hkp; clear hc' hqr hkp))
  have HX5 := Hid.mk' (HX2.out.trans HE25.out)
  have HW5 := Hid.mk' (HW2.out.ext HE25.out)
  have HR5 := Hid.mk' (HR2.out.ext HE25.out)
  have HP5 := Hid.mk' (HP.out.ext HX5.out)
  have HQ : Hid ((addP qc q').map RR.r = addL (U.map RR.r) (⟨oid, ver, nm, id, cols⟩ : Rl)) := Hid.mk' (by rw [addP_r, HQU.out, HQR.out])
  obtain ⟨Q, hQ⟩ : ∃ Q, Q = addP qc q' := ⟨_, rfl⟩
  rw [← hQ] at HC5 HQ
  clear hQ HQR HQU HCC HW2 HR3 g3 z3 HADD HK5 HB4 HX3 HX2 HE1 HB2 HB3
  have hU64 := H16.out.1
  go_loopw [12] (fun i wr => ∃ (k : Nat), k ≤ U.length ∧ i = .int .i64 k ∧ Hid (Ext w5 wr)) (fun i _ => U.length - (intOf i).toNat)
  case atStart => exact ⟨0, Nat.zero_le _, rfl, Hid.mk' (Ext.refl _)⟩
  case round =>
    obtain ⟨k, hk, rfl, hE⟩ := hrel
    by_cases hlt : k < U.length
    · obtain ⟨b, o, rfl, hb, hx⟩ := HW5.out.row.at_ (i := k) (by simpa using hlt)
      obtain ⟨f0, f1, f2, f3, f4⟩ := RR.at_ hlt hx hb hE.out
      have HF := Hid.mk' (fun W (h : Ext w5 W) => RR.at_ hlt hx hb h)
      have hbw : b < wr.heap.size := Nat.lt_of_lt_of_le hb hE.out.size
      have HG1 : Hid (getR U[k].r.oid U[k].r.ver (Q.map RR.r) = some U[k].r) := Hid.mk' (by rw [HQ.out]; exact add_get HOK.out _ (List.mem_map_of_mem (List.getElem_mem hlt)))
      have HUI := Hid.mk' (HW5.out.sl _ (List.getElem_mem hlt))
      have HUN := Hid.mk' (H16.out.2 _ (List.getElem_mem hlt))
      obtain ⟨u, hu⟩ : ∃ u, u = U[k] := ⟨_, rfl⟩
      rw [← hu] at f0 f1 f2 f3 f4 HF HG1 HUI HUN
      have HGT := Hid.mk' (fun W (h : Ext w5 W) => cget_is (HC5.out.ext h) HG1.out)
      have HLT : Hid (k < U.length) := Hid.mk' hlt
      clear hx hu HG1
      go_upto_region 12 with (first
        | (go_at_call 21; refine (ref9_any _ _ _).mono ?_; rintro e w6 ⟨rfl, hb6⟩; have HB6 := Hid.mk' hb6; clear hb6)
        | (go_at_call 15; refine (HGT.out _ (hE.out.trans HB6.out)).mono ?_; rintro e w7 ⟨⟨r7, a7, c7⟩, rfl, hr7, ho7, hb7⟩; simp only at hr7; subst hr7; have HI7 := Hid.mk' ho7.in; have HB7 := Hid.mk' (HB6.out.trans hb7); clear ho7 hb7; try simp only))
      obtain ⟨w8, hw8⟩ : ∃ w8, w8 = w7.alloc (.cells #[.int .u32 u.r.oid, .int .u32 u.r.ver, .string u.r.nm, .int .u8 u.r.id, .slice a7 u.r.cols.length c7] 36) := ⟨_, rfl⟩
      obtain ⟨G7, hG7⟩ : ∃ G, G = w7.heap.size := ⟨_, rfl⟩
      have HB8 : Hid (Blk w8 G7 #[.int .u32 u.r.oid, .int .u32 u.r.ver, .string u.r.nm, .int .u8 u.r.id, .slice a7 u.r.cols.length c7] 36) := Hid.mk' (by rw [hw8, hG7]; exact Blk.new _ _ _)
      have HX8 : Hid (Ext wr w8) := Hid.mk' (by rw [hw8]; exact HB7.out.alloc _)
      have HI8 : Hid (RR.in w8 ⟨u.r, a7, c7⟩) := Hid.mk' (by rw [hw8]; exact RR.in.ext HI7.out ((Ext.refl w7).alloc _))
      rw [← hw8, ← hG7]
      clear hw8 hG7 HI7 HB7 HB6 HGT
      have HS : Hid (∀ w', Ext w8 w' → Ext w8 w' ∧ (∀ i, w'.cell? ⟨G7, i, none⟩ = (#[.int .u32 u.r.oid, .int .u32 u.r.ver, .string u.r.nm, .int .u8 u.r.id, .slice a7 u.r.cols.length c7])[i]?) ∧ w'.cell? ⟨b, o + k * 5, none⟩ = some (.int .u32 u.r.oid) ∧ w'.cell? ⟨b, o + k * 5 + 1, none⟩ = some (.int .u32 u.r.ver) ∧ w'.cell? ⟨b, o + k * 5 + 2, none⟩ = some (.string u.r.nm) ∧ w'.cell? ⟨b, o + k * 5 + 3, none⟩ = some (.int .u8 u.r.id) ∧ w'.cell? ⟨b, o + k * 5 + 4, none⟩ = some (.slice u.a u.r.cols.length u.c) ∧ b < w'.heap.size ∧ G7 < w'.heap.size) := Hid.mk' (fun w' h => by
        obtain ⟨q0, q1, q2, q3, q4⟩ := HF.out w' (hE.out.trans (HX8.out.trans h))
        exact ⟨h, (HB8.out.ext h).cell, q0, q1, q2, q3, q4, Nat.lt_of_lt_of_le hbw (HX8.out.trans h).size, (HB8.out.ext h).lt⟩)
      have HBK := Hid.mk' (fun W (h : Ext w8 W) => pback_is u.r a7 c7 W (RR.in.ext HI8.out h) (by have := HUN.out; omega))
      clear f0 f1 f2 f3 f4 HF hbw hb
      go_region_held3 (fun w' => Ext w8 w' ∧ (∀ i, w'.cell? ⟨G7, i, none⟩ = (#[.int .u32 u.r.oid, .int .u32 u.r.ver, .string u.r.nm, .int .u8 u.r.id, .slice a7 u.r.cols.length c7])[i]?) ∧ w'.cell? ⟨b, o + k * 5, none⟩ = some (.int .u32 u.r.oid) ∧ w'.cell? ⟨b, o + k * 5 + 1, none⟩ = some (.int .u32 u.r.ver) ∧ w'.cell? ⟨b, o + k * 5 + 2, none⟩ = some (.string u.r.nm) ∧ w'.cell? ⟨b, o + k * 5 + 3, none⟩ = some (.int .u8 u.r.id) ∧ w'.cell? ⟨b, o + k * 5 + 4, none⟩ = some (.slice u.a u.r.cols.length u.c) ∧ b < w'.heap.size ∧ G7 < w'.heap.size) (exact HS.out _ (by (repeat (with_reducible (first | exact Ext.refl _ | assumption | exact held_left (by assumption) | apply Ext.drewN | apply Ext.drew | apply Ext.alloc | (refine Ext.setCell ?_ (by first | (simp; done) | (simp; omega) | omega) _) | (refine Ext.trans ?_ (by assumption)) | (refine Ext.trans ?_ (held_left (by assumption))))))))
        (first
          | (go_at_call 23; refine (HBK.out _ (by (repeat (with_reducible (first | exact Ext.refl _ | assumption | exact held_left (by assumption) | apply Ext.drewN | apply Ext.drew | apply Ext.alloc | (refine Ext.setCell ?_ (by first | (simp; done) | (simp; omega) | omega) _) | (refine Ext.trans ?_ (by assumption)) | (refine Ext.trans ?_ (held_left (by assumption)))))))).mono ?_; rintro e w9 ⟨a9, c9, rfl, h9, hb9⟩; have HI9 := Hid.mk' h9; clear h9)
          | (go_at_call 22; refine (rsame8_is u.r u.r a9 u.a c9 u.c _ (RR.in.ext HI9.out (by (repeat (with_reducible (first | exact Ext.refl _ | assumption | exact held_left (by assumption) | apply Ext.drewN | apply Ext.drew | apply Ext.alloc | (refine Ext.setCell ?_ (by first | (simp; done) | (simp; omega) | omega) _) | (refine Ext.trans ?_ (by assumption)) | (refine Ext.trans ?_ (held_left (by assumption)))))))) (RR.in.ext HUI.out (hE.out.trans (HX8.out.trans (by (repeat (with_reducible (first | exact Ext.refl _ | assumption | exact held_left (by assumption) | apply Ext.drewN | apply Ext.drew | apply Ext.alloc | (refine Ext.setCell ?_ (by first | (simp; done) | (simp; omega) | omega) _) | (refine Ext.trans ?_ (by assumption)) | (refine Ext.trans ?_ (held_left (by assumption)))))))))) (by have := HUN.out; omega) (by have := HUN.out; omega)).mono ?_; rintro e w10 ⟨rfl, hb10⟩; have HR10 := Hid.mk' (rlB_true.2 (rfl : u.r = u.r)); rw [HR10.out]))
      have HX10 : Hid (Ext w5 w10) := Hid.mk' (hE.out.trans (HX8.out.trans (by (repeat (with_reducible (first | exact Ext.refl _ | assumption | exact held_left (by assumption) | apply Ext.drewN | apply Ext.drew | apply Ext.alloc | (refine Ext.setCell ?_ (by first | (simp; done) | (simp; omega) | omega) _) | (refine Ext.trans ?_ (by assumption)) | (refine Ext.trans ?_ (held_left (by assumption)))))))))
      go_wp2
      go_roundw
      case rel => exact ⟨k + 1, by have := HLT.out; omega, by go_num, HX10⟩
      case measure => have := HLT.out; simp [intOf]; omega
    · obtain rfl : k = U.length := by omega
      have HX6 := Hid.mk' (HX5.out.trans hE.out)
      by_cases h5 : E5 = 0
      case neg =>
        have h5' : (E5 != 0) = true := by simpa using h5
        have HLN := Hid.mk' (len_any G G c' Q wr (HC5.out.ext hE.out))
        have hQU : Q.length = U.length := by
          have := congrArg List.length HQ.out
          rw [addL_len (by rw [← HE5.out]; exact h5), List.length_map, List.length_map] at this
          exact this
        rw [hQU] at HLN
        clear h5 hQU
        go_wp2_with (first
          | (go_at_call 24; refine HLN.out.mono ?_; rintro e w11 ⟨rfl, hb11⟩; have HB11 := Hid.mk' hb11; clear hb11)
          | (go_at_call 18; refine (awake9_any _).mono ?_; rintro e w12 ⟨rfl, hb12⟩; have HB12 := Hid.mk' hb12; clear hb12))
        go_ret
        exact ⟨rfl, HX6.out.trans (HB11.out.trans HB12.out)⟩
      subst h5
      have hnew := add_new HOK.out HE5.out.symm
      rw [← HQ.out] at hnew
      obtain ⟨hn1, hn2, hn3⟩ := hnew
      rw [List.length_map, List.length_map] at hn2
      have HN2 := Hid.mk' hn2
      have HN3 := Hid.mk' hn3
      have HGT := Hid.mk' (fun W (h : Ext w5 W) => cget_is (HC5.out.ext h) hn1)
      clear hn1 hn2 hn3
      have hr0 := (HR5.out.ext hE.out).cell
      have hr1 := (HR5.out.ext hE.out).lt
      go_upto_region 17 with (first
        | (go_at_call 21; refine (ref9_any _ _ _).mono ?_; rintro e w6 ⟨rfl, hb6⟩; have HB6 := Hid.mk' hb6; clear hb6)
        | (go_at_call 15; refine (HGT.out _ (hE.out.trans HB6.out)).mono ?_; rintro e w7 ⟨⟨r7, a7, c7⟩, rfl, hr7, ho7, hb7⟩; simp only at hr7; subst hr7; have HI7 := Hid.mk' ho7.in; have HB7 := Hid.mk' (HB6.out.trans hb7); clear ho7 hb7; try simp only))
      have HX7 := Hid.mk' (hE.out.trans HB7.out)
      obtain ⟨w8, hw8⟩ : ∃ w8, w8 = w7.alloc (.cells #[.int .u32 oid, .int .u32 ver, .string nm, .int .u8 id, .slice a7 cols.length c7] 36) := ⟨_, rfl⟩
      obtain ⟨G7, hG7⟩ : ∃ G, G = w7.heap.size := ⟨_, rfl⟩
      have HB8 : Hid (Blk w8 G7 #[.int .u32 oid, .int .u32 ver, .string nm, .int .u8 id, .slice a7 cols.length c7] 36) := Hid.mk' (by rw [hw8, hG7]; exact Blk.new _ _ _)
      have HX8 : Hid (Ext w5 w8) := Hid.mk' (by rw [hw8]; exact HX7.out.alloc _)
      have HI8 : Hid (RR.in w8 ⟨(⟨oid, ver, nm, id, cols⟩ : Rl), a7, c7⟩) := Hid.mk' (by rw [hw8]; exact RR.in.ext HI7.out ((Ext.refl w7).alloc _))
      have HC8 : Hid (Ca w8 G G c' Q) := Hid.mk' (HC5.out.ext HX8.out)
      have HNS : Hid (¬ Ca.S G c' G7 ∧ ¬ Ca.S G c' w.heap.size) := Hid.mk' (by
        have h1 := (HC5.out.ext HX7.out).ptr.lt
        have h2 := HG.out
        refine ⟨fun h => ?_, fun h => ?_⟩
        · rcases h with h | h
          · omega
          · have := ((HC5.out.ext HX7.out).own.lt _ h).2; omega
        · have := HC5.out.S_ge _ h; omega)
      have HR8 : Hid (Blk w8 w.heap.size #[.int .u32 oid, .int .u32 ver, .string nm, .int .u8 id, .slice pa cols.length pc] 49) := Hid.mk' (HR5.out.ext HX8.out)
      rw [← hw8, ← hG7]
      clear hw8 hG7 HI7 HB7 HB6 HGT hr0 hr1
      have HS : Hid (∀ w', Kp (Ca.S G c') w8 w' → (∀ i, w'.cell? ⟨G7, i, none⟩ = (#[.int .u32 oid, .int .u32 ver, .string nm, .int .u8 id, .slice a7 cols.length c7])[i]?) ∧ (∀ i, w'.cell? ⟨w.heap.size, i, none⟩ = (#[.int .u32 oid, .int .u32 ver, .string nm, .int .u8 id, .slice pa cols.length pc])[i]?) ∧ G7 < w'.heap.size ∧ w.heap.size < w'.heap.size) := Hid.mk' (fun w' h => by
        have h1 := HB8.out.kp h HNS.out.1
        have h2 := HR8.out.kp h HNS.out.2
        exact ⟨h1.cell, h2.cell, h1.lt, h2.lt⟩)
      have HPN : Hid (cols.length ≤ 16) := Hid.mk' (Rl.cols_le (r := (⟨oid, ver, nm, id, cols⟩ : Rl)) (addE_zero HE5.out.symm).1)
      have HBK := Hid.mk' (fun W (h : Ext w8 W) => pback_is (⟨oid, ver, nm, id, cols⟩ : Rl) a7 c7 W (RR.in.ext HI8.out h) (by have := HPN.out; simp only; omega))
      have HSM := Hid.mk' (fun a9 c9 W (hi : RR.in W ⟨(⟨oid, ver, nm, id, cols⟩ : Rl), a9, c9⟩) (h : Ext w8 W) => rsame8_is (⟨oid, ver, nm, id, cols⟩ : Rl) (⟨oid, ver, nm, id, cols⟩ : Rl) a9 pa c9 pc W hi (RR.in.ext HP5.out (HX8.out.trans h)) (by have := HPN.out; simp only; omega) (by have := HPN.out; simp only; omega))
      rw [rlB_true.2 rfl] at HSM
      have HLN := Hid.mk' (fun W (h : Ext w8 W) => len_any G G c' Q W (HC8.out.ext h))
      rw [HN2.out, show ((U.length + 1 : Nat) : Int) = (U.length : Int) + 1 from rfl] at HLN
      have hw1 : IntKind.i64.wrap ((U.length : Int) + 1) = (U.length : Int) + 1 := by simp [IntKind.wrap, IntKind.signed, IntKind.bits]; split <;> omega
      have HO8' := Hid.mk' (fun W (h : Ext w8 W) => own8_is (⟨(⟨oid, ver, nm, id, cols⟩ : Rl), pa, pc⟩ : RR) (⟨oid, ver, nm, id, cols⟩ : Rl) rfl W (HP5.out.ext (HX8.out.trans h)) HPB.out.n)
      simp only at HBK HSM HO8'
      clear HO8
      go_region_held3 (fun w' => (∀ i, w'.cell? ⟨G7, i, none⟩ = (#[.int .u32 oid, .int .u32 ver, .string nm, .int .u8 id, .slice a7 cols.length c7])[i]?) ∧ (∀ i, w'.cell? ⟨w.heap.size, i, none⟩ = (#[.int .u32 oid, .int .u32 ver, .string nm, .int .u8 id, .slice pa cols.length pc])[i]?) ∧ G7 < w'.heap.size ∧ w.heap.size < w'.heap.size) (first | exact HS.out _ HKG.out | exact HS.out _ HKF.out | exact HS.out _ (Kp.of_ext (by (repeat (with_reducible (first | exact Ext.refl _ | assumption | exact held_left (by assumption) | apply Ext.drewN | apply Ext.drew | apply Ext.alloc | (refine Ext.setCell ?_ (by first | (simp; done) | (simp; omega) | omega) _) | (refine Ext.trans ?_ (by assumption)) | (refine Ext.trans ?_ (held_left (by assumption)))))))))
        (first
          | (go_at_call 23; refine (HBK.out _ (by (repeat (with_reducible (first | exact Ext.refl _ | assumption | exact held_left (by assumption) | apply Ext.drewN | apply Ext.drew | apply Ext.alloc | (refine Ext.setCell ?_ (by first | (simp; done) | (simp; omega) | omega) _) | (refine Ext.trans ?_ (by assumption)) | (refine Ext.trans ?_ (held_left (by assumption)))))))).mono ?_; rintro e w9 ⟨a9, c9, rfl, h9, hb9⟩; have HI9 := Hid.mk' h9; clear h9)
          | (go_at_call 22; refine (HSM.out _ _ _ (RR.in.ext HI9.out (by (repeat (with_reducible (first | exact Ext.refl _ | assumption | exact held_left (by assumption) | apply Ext.drewN | apply Ext.drew | apply Ext.alloc | (refine Ext.setCell ?_ (by first | (simp; done) | (simp; omega) | omega) _) | (refine Ext.trans ?_ (by assumption)) | (refine Ext.trans ?_ (held_left (by assumption)))))))) (by (repeat (with_reducible (first | exact Ext.refl _ | assumption | exact held_left (by assumption) | apply Ext.drewN | apply Ext.drew | apply Ext.alloc | (refine Ext.setCell ?_ (by first | (simp; done) | (simp; omega) | omega) _) | (refine Ext.trans ?_ (by assumption)) | (refine Ext.trans ?_ (held_left (by assumption)))))))).mono ?_; rintro e w10 ⟨rfl, hb10⟩)
          | (go_at_call 24; refine (HLN.out _ (by (repeat (with_reducible (first | exact Ext.refl _ | assumption | exact held_left (by assumption) | apply Ext.drewN | apply Ext.drew | apply Ext.alloc | (refine Ext.setCell ?_ (by first | (simp; done) | (simp; omega) | omega) _) | (refine Ext.trans ?_ (by assumption)) | (refine Ext.trans ?_ (held_left (by assumption)))))))).mono ?_; rintro e w11 ⟨rfl, hb11⟩)
          | (go_at_call 20; refine (HO8'.out _ (by (repeat (with_reducible (first | exact Ext.refl _ | assumption | exact held_left (by assumption) | apply Ext.drewN | apply Ext.drew | apply Ext.alloc | (refine Ext.setCell ?_ (by first | (simp; done) | (simp; omega) | omega) _) | (refine Ext.trans ?_ (by assumption)) | (refine Ext.trans ?_ (held_left (by assumption)))))))).mono ?_; rintro e w12 ⟨a12, c12, rfl, h12, hi12, hb12⟩; have HX12 : Hid (Ext w8 w12) := Hid.mk' (by (repeat (with_reducible (first | exact Ext.refl _ | assumption | exact held_left (by assumption) | apply Ext.drewN | apply Ext.drew | apply Ext.alloc | (refine Ext.setCell ?_ (by first | (simp; done) | (simp; omega) | omega) _) | (refine Ext.trans ?_ (by assumption)) | (refine Ext.trans ?_ (held_left (by assumption))))))); have HADD := Hid.mk' (fun W (h : Ext w12 W) => cadd_any G G c' Q (⟨(⟨oid, ver, nm, id, cols⟩ : Rl), a12, c12⟩ : RR) W (HC8.out.ext (HX12.out.trans h)) (RR.in.ext hi12 h) h12 HPB.out); unfold CAddPost at HADD; rw [HN3.out] at HADD; clear h12 hi12)
          | (go_at_call 19; refine (HADD.out _ (by (repeat (with_reducible (first | exact Ext.refl _ | assumption | exact held_left (by assumption) | apply Ext.drewN | apply Ext.drew | apply Ext.alloc | (refine Ext.setCell ?_ (by first | (simp; done) | (simp; omega) | omega) _) | (refine Ext.trans ?_ (by assumption)) | (refine Ext.trans ?_ (held_left (by assumption)))))))).mono ?_; rintro e w13 ⟨c13, q13, rfl, -, -, hkp, -⟩; have HKF : Hid (Kp (Ca.S G c') w8 w13) := Hid.mk' ((Kp.of_ext (show Ext w8 _ by (repeat (with_reducible (first | exact Ext.refl _ | assumption | exact held_left (by assumption) | apply Ext.drewN | apply Ext.drew | apply Ext.alloc | (refine Ext.setCell ?_ (by first | (simp; done) | (simp; omega) | omega) _) | (refine Ext.trans ?_ (by assumption)) | (refine Ext.trans ?_ (held_left (by assumption)))))))).trans hkp (fun x hx _ => hx)); clear hkp)
          | (go_at_call 18; refine (awake9_any _).mono ?_; rintro e w14 ⟨rfl, hb14⟩; have HKG : Hid (Kp (Ca.S G c') w8 w14) := Hid.mk' (HKF.out.trans (Kp.of_ext (show Ext w13 w14 by (repeat (with_reducible (first | exact Ext.refl _ | assumption | exact held_left (by assumption) | apply Ext.drewN | apply Ext.drew | apply Ext.alloc | (refine Ext.setCell ?_ (by first | (simp; done) | (simp; omega) | omega) _) | (refine Ext.trans ?_ (by assumption)) | (refine Ext.trans ?_ (held_left (by assumption)))))))) (fun x hx _ => hx))))
      go_wp2
      go_ret
      exact ⟨rfl, Kp.ext (HX5.out.trans HX8.out) (fun x hx _ => by have := HC5.out.S_ge _ hx; have := HG.out; omega) HKG.out⟩

end Go.Proofs.Ythdjinicmnhgpaa

/-
Some refs' relations alone: the program's Only.
-/
namespace Go.Proofs.Ythdjinicmnhgpaa
open Go.RowKit

theorem RR.owned.cap {N : Nat} {W : World} {q : RR} (h : q.owned N W) : q.r.cols.length ≤ q.c := by
  obtain ⟨_, h⟩ := h
  rcases h with ⟨hv, hn⟩ | ⟨g, cap, cur, hv, _, hb, hn, _⟩
  · omega
  · simp only [Value.slice.injEq] at hv
    omega
theorem hasR_some {o v : Int} {l : List Rl} (h : hasR o v l = true) : ∃ x, getR o v l = some x := by
  cases e : getR o v l with
  | none => rw [getR_none.1 e] at h; cases h
  | some x => exact ⟨x, rfl⟩
theorem cget_not {N g : Nat} {c : Value} {ps : List RR} {o v : Int} {w : World} (hc : Ca w N g c ps) (h : hasR o v (ps.map RR.r) = false) :
    Calls Try.prog 15 #[.pointer (some ⟨g, 0, none⟩), .agg #[.int .u32 o, .int .u32 v]] w fun e w' => ∃ (a' : Option Addr) (c' : Nat), e = .returned (.tuple #[.agg #[.int .u32 0, .int .u32 0, .string ⟨#[]⟩, .int .u8 0, .slice a' 0 c'], .bool false]) ∧ RR.in w' ⟨RR.zero.r, a', c'⟩ ∧ Ext w w' := by
  refine (cget_any N g c ps o v w hc).mono fun e w' hq => ?_
  obtain ⟨q, h1, h2, h3, h4⟩ := hq
  have hg : getP o v ps = none := by
    have := getP_is o v ps
    rw [h] at this
    exact Option.not_isSome_iff_eq_none.1 (by rw [this]; simp)
  rw [hg, Option.getD_none] at h2
  obtain ⟨qr, qa, qc⟩ := q
  simp only at h2
  subst h2
  exact ⟨qa, qc, by rw [h1, h]; rfl, h3.in, h4⟩

def COnlyPost (l : List Rl) (rs : List Rf) (w : World) (e : Ending) (w' : World) : Prop :=
  ∃ pv, e = .returned (.tuple #[.pointer pv, .int .i64 (onlyE rs l)]) ∧ (onlyE rs l = 0 → pv = some ⟨w.heap.size, 0, none⟩ ∧ ∃ c qs, Ca w' w.heap.size w.heap.size c qs ∧ qs.map RR.r = l.filter (ofRefs rs)) ∧ (onlyE rs l ≠ 0 → pv = none) ∧ Ext w w'

set_option maxRecDepth 100000 in set_option maxHeartbeats 4000000 in
theorem conly_any (N g : Nat) (c : Value) (ps : List RR) (rs : List Rf) (a : Option Addr) (cap : Nat) (w : World) (hc : Ca w N g c ps) (hr : Sl w (.slice a rs.length cap) 2 (rs.map Rf.cells)) (hlen : rs.length ≤ 1000) :
    Calls Try.prog 30 #[.pointer (some ⟨g, 0, none⟩), .slice a rs.length cap] w (COnlyPost (ps.map RR.r) rs w) := by
  have HC := Hid.mk' hc
  have HR := Hid.mk' hr
  have HOK := Hid.mk' hc.ok
  have HWB : Hid (∀ x, x ∈ ps.map RR.r → x.wb) := Hid.mk' (fun x hx => by
    obtain ⟨p, hp, rfl⟩ := List.mem_map.1 hx
    exact hc.wb p hp)
  clear hc hr
  go_enter Try.func30, Try.ntmps30
  go_wp2_with (go_at_call 25; refine (new_any _).mono ?_; rintro e w1 ⟨rfl, rfl⟩)
  go_loopw [14] (fun i wr => ∃ (k : Nat) (c' : Value) (qs : List RR), k ≤ rs.length ∧ i = .int .i64 k ∧ Hid (∀ j (h : j < rs.length), j < k → hasR rs[j].o rs[j].v (ps.map RR.r) = true) ∧ Hid (Ca wr w.heap.size w.heap.size c' qs) ∧ Hid (qs.map RR.r = (ps.map RR.r).filter (ofRefs (rs.take k))) ∧ Hid (Ext w wr)) (fun i _ => rs.length - (intOf i).toNat)
  case atStart => exact ⟨0, _, [], Nat.zero_le _, rfl, Hid.mk' (fun j _ h => by omega), Hid.mk' (Ca.new w), Hid.mk' (by simp [ofRefs]), Hid.mk' (by (repeat (with_reducible (first | exact Ext.refl _ | assumption | exact held_left (by assumption) | apply Ext.drewN | apply Ext.drew | apply Ext.alloc | (refine Ext.setCell ?_ (by first | (simp; done) | (simp; omega) | omega) _) | (refine Ext.trans ?_ (by assumption)) | (refine Ext.trans ?_ (held_left (by assumption)))))))⟩
  case round =>
    obtain ⟨k, c', qs, hk, rfl, hz, hca, hqs, hE⟩ := hrel
    by_cases hlt : k < rs.length
    · obtain ⟨b, o, rfl, hb, hx⟩ := HR.out.at_ (i := k) (by simpa using hlt)
      obtain ⟨f0, f1⟩ := Rf.at_ hlt hx hb hE.out
      have hbw : b < wr.heap.size := Nat.lt_of_lt_of_le hb hE.out.size
      cases hh : hasR rs[k].o rs[k].v (ps.map RR.r) with
      | false =>
        have HON := Hid.mk' (onlyE_no hlt hh)
        have HGT := Hid.mk' (fun W (h : Ext w W) => cget_not (HC.out.ext h) hh)
        obtain ⟨r, hr⟩ : ∃ r, r = rs[k] := ⟨_, rfl⟩
        rw [← hr] at f0 f1 HGT
        have HLT : Hid (k < rs.length) := Hid.mk' hlt
        clear hx hr hb hh
        go_wp2_with (go_at_call 15; refine (HGT.out _ (hE.out.trans (by (repeat (with_reducible (first | exact Ext.refl _ | assumption | exact held_left (by assumption) | apply Ext.drewN | apply Ext.drew | apply Ext.alloc | (refine Ext.setCell ?_ (by first | (simp; done) | (simp; omega) | omega) _) | (refine Ext.trans ?_ (by assumption)) | (refine Ext.trans ?_ (held_left (by assumption))))))))).mono ?_; rintro e w7 ⟨a7, c7, rfl, -, hb7⟩; have hE7 : Ext wr w7 := (by (repeat (with_reducible (first | exact Ext.refl _ | assumption | exact held_left (by assumption) | apply Ext.drewN | apply Ext.drew | apply Ext.alloc | (refine Ext.setCell ?_ (by first | (simp; done) | (simp; omega) | omega) _) | (refine Ext.trans ?_ (by assumption)) | (refine Ext.trans ?_ (held_left (by assumption))))))))
        simp [bodyPost, results, Try.results30, go_sem, *]
        exact ⟨none, by rw [HON.out], fun h => absurd (HON.out.symm.trans h) (by decide), fun _ => rfl, hE.out.trans (by (repeat (with_reducible (first | exact Ext.refl _ | assumption | exact held_left (by assumption) | apply Ext.drewN | apply Ext.drew | apply Ext.alloc | (refine Ext.setCell ?_ (by first | (simp; done) | (simp; omega) | omega) _) | (refine Ext.trans ?_ (by assumption)) | (refine Ext.trans ?_ (held_left (by assumption)))))))⟩
      | true =>
        obtain ⟨x, hgx⟩ := hasR_some hh
        have HGX := Hid.mk' hgx
        have HHH := Hid.mk' hh
        have HXW := Hid.mk' (HWB.out x (getR_some hgx).1)
        have HST := Hid.mk' (only_step HOK.out hlt hgx)
        have HGT := Hid.mk' (fun W (h : Ext w W) => cget_is (HC.out.ext h) hgx)
        obtain ⟨r, hr⟩ : ∃ r, r = rs[k] := ⟨_, rfl⟩
        rw [← hr] at f0 f1 HGT
        have HSG := Hid.mk' hca.out.S_ge
        have HLT : Hid (k < rs.length) := Hid.mk' hlt
        clear hx hr hb hh hgx
        go_wp2_with (first
          | (go_at_call 15; refine (HGT.out _ (hE.out.trans (by (repeat (with_reducible (first | exact Ext.refl _ | assumption | exact held_left (by assumption) | apply Ext.drewN | apply Ext.drew | apply Ext.alloc | (refine Ext.setCell ?_ (by first | (simp; done) | (simp; omega) | omega) _) | (refine Ext.trans ?_ (by assumption)) | (refine Ext.trans ?_ (held_left (by assumption))))))))).mono ?_; rintro e w7 ⟨⟨r7, a7, c7⟩, rfl, hr7, ho7, hb7⟩; simp only at hr7; subst hr7; have HO7 := Hid.mk' ho7; have HB7 : Hid (Ext wr w7) := Hid.mk' (by (repeat (with_reducible (first | exact Ext.refl _ | assumption | exact held_left (by assumption) | apply Ext.drewN | apply Ext.drew | apply Ext.alloc | (refine Ext.setCell ?_ (by first | (simp; done) | (simp; omega) | omega) _) | (refine Ext.trans ?_ (by assumption)) | (refine Ext.trans ?_ (held_left (by assumption))))))); clear ho7; try simp only)
          | (go_at_call 19; refine (cadd_any w.heap.size w.heap.size c' qs (⟨r7, a7, c7⟩ : RR) _ (hca.out.ext (HB7.out.trans (by (repeat (with_reducible (first | exact Ext.refl _ | assumption | exact held_left (by assumption) | apply Ext.drewN | apply Ext.drew | apply Ext.alloc | (refine Ext.setCell ?_ (by first | (simp; done) | (simp; omega) | omega) _) | (refine Ext.trans ?_ (by assumption)) | (refine Ext.trans ?_ (held_left (by assumption))))))))) (RR.in.ext HO7.out.in (by (repeat (with_reducible (first | exact Ext.refl _ | assumption | exact held_left (by assumption) | apply Ext.drewN | apply Ext.drew | apply Ext.alloc | (refine Ext.setCell ?_ (by first | (simp; done) | (simp; omega) | omega) _) | (refine Ext.trans ?_ (by assumption)) | (refine Ext.trans ?_ (held_left (by assumption)))))))) HO7.out.cap HXW.out).mono ?_; rintro e w8 ⟨c8, q8, rfl, hqr, hc8, hkp, -⟩; have HC8 := Hid.mk' hc8; have HQR := Hid.mk' hqr; have HE8 := Hid.mk' (Kp.ext (show Ext w _ from hE.out.trans (HB7.out.trans (by (repeat (with_reducible (first | exact Ext.refl _ | assumption | exact held_left (by assumption) | apply Ext.drewN | apply Ext.drew | apply Ext.alloc | (refine Ext.setCell ?_ (by first | (simp; done) | (simp; omega) | omega) _) | (refine Ext.trans ?_ (by assumption)) | (refine Ext.trans ?_ (held_left (by assumption))))))))) (fun x hx _ => HSG.out x hx) hkp); clear hc8 hqr hkp))
        go_roundw
        case rel => exact ⟨k + 1, c8, _, by have := HLT.out; omega, by go_num, Hid.mk' (fun j hj hjk => by
          by_cases e : j = k
          · subst e; exact HHH.out
          · exact hz.out j hj (by omega)), HC8, Hid.mk' (by rw [addP_r, hqs.out, HQR.out]; exact HST.out), HE8⟩
        case measure => have := HLT.out; simp [intOf]; omega
    · obtain rfl : k = rs.length := by omega
      have HON := Hid.mk' (onlyE_yes (fun j hj => hz.out j hj hj))
      go_wp2
      simp [bodyPost, results, Try.results30, go_sem, *]
      exact ⟨_, by rw [HON.out], fun _ => ⟨rfl, c', qs, hca.out, by rw [hqs.out, List.take_length]⟩, fun h => absurd HON.out h, hE.out⟩

end Go.Proofs.Ythdjinicmnhgpaa

/-
Some refs' relations alone: the reference's Only.
-/
namespace Go.Proofs.Ythdjinicmnhgpaa
open Go.RowKit

/-- Those of the first that are of some refs. -/
def flt (rs : List Rf) (ps : List RR) : List RR := ps.filter (fun p => ofRefs rs p.r)
theorem flt_r (rs : List Rf) (ps : List RR) : (flt rs ps).map RR.r = (ps.map RR.r).filter (ofRefs rs) := by
  unfold flt
  rw [List.filter_map]; rfl
theorem flt_yes {rs : List Rf} {ps : List RR} {i : Nat} (hi : i < ps.length) (h : ofRefs rs ps[i].r = true) : flt rs (ps.take (i + 1)) = flt rs (ps.take i) ++ [ps[i]] := by
  unfold flt
  rw [List.take_succ_eq_append_getElem hi, List.filter_append]
  simp [h]
theorem flt_no {rs : List Rf} {ps : List RR} {i : Nat} (hi : i < ps.length) (h : ofRefs rs ps[i].r = false) : flt rs (ps.take (i + 1)) = flt rs (ps.take i) := by
  unfold flt
  rw [List.take_succ_eq_append_getElem hi, List.filter_append]
  simp [h]
theorem flt_len (rs : List Rf) (ps : List RR) : (flt rs ps).length ≤ ps.length := List.length_filter_le _ _
theorem flt_mem {rs : List Rf} {ps : List RR} {p : RR} (h : p ∈ flt rs ps) : p ∈ ps := (List.mem_filter.1 h).1
theorem ofRefs_hit {rs : List Rf} {k : Nat} (hk : k < rs.length) {r : Rl} (h : isR rs[k].o rs[k].v r = true) : ofRefs rs r = true := List.any_eq_true.2 ⟨_, List.getElem_mem hk, h⟩
theorem ofRefs_miss {rs : List Rf} {r : Rl} (h : ∀ j (hj : j < rs.length), isR rs[j].o rs[j].v r = false) : ofRefs rs r = false := by
  unfold ofRefs
  rw [List.any_eq_false]
  intro x hx
  obtain ⟨j, hj, rfl⟩ := List.getElem_of_mem hx
  rw [h j hj]; simp
theorem rget_yes {ps : List RR} {a : Option Addr} {cap : Nat} {o v : Int} {w : World} (hl : RL w (.slice a ps.length cap) ps) (hlen : ps.length ≤ 1000) (h : hasR o v (ps.map RR.r) = true) :
    Calls Try.prog 27 #[.slice a ps.length cap, .agg #[.int .u32 o, .int .u32 v]] w fun e w' => ∃ cs : Array Value, e = .returned (.tuple #[.agg cs, .bool true]) ∧ (∃ p ∈ ps, cs = #[.int .u32 p.r.oid, .int .u32 p.r.ver, .string p.r.nm, .int .u8 p.r.id, .slice p.a p.r.cols.length p.c] ∧ getR o v (ps.map RR.r) = some p.r) ∧ Ext w w' := by
  refine (rget_any ps a cap o v w hl hlen).mono fun e w' hq => ?_
  obtain ⟨h1, h2⟩ := hq
  have h3 := getP_is o v ps
  rw [h] at h3
  obtain ⟨p, hp⟩ := Option.isSome_iff_exists.1 h3
  refine ⟨#[.int .u32 p.r.oid, .int .u32 p.r.ver, .string p.r.nm, .int .u8 p.r.id, .slice p.a p.r.cols.length p.c], ?_, ⟨p, (getP_some hp).1, rfl, by rw [← getP_map, hp]; rfl⟩, h2⟩
  rw [h1, hp]; rfl
theorem rget_no {ps : List RR} {a : Option Addr} {cap : Nat} {o v : Int} {w : World} (hl : RL w (.slice a ps.length cap) ps) (hlen : ps.length ≤ 1000) (h : hasR o v (ps.map RR.r) = false) :
    Calls Try.prog 27 #[.slice a ps.length cap, .agg #[.int .u32 o, .int .u32 v]] w fun e w' => e = .returned (.tuple #[.agg #[.int .u32 0, .int .u32 0, .string ⟨#[]⟩, .int .u8 0, .slice none 0 0], .bool false]) ∧ Ext w w' := by
  refine (rget_any ps a cap o v w hl hlen).mono fun e w' hq => ?_
  obtain ⟨h1, h2⟩ := hq
  have h3 := getP_is o v ps
  rw [h] at h3
  have hg : getP o v ps = none := Option.not_isSome_iff_eq_none.1 (by rw [h3]; simp)
  exact ⟨by rw [h1, hg]; rfl, h2⟩

def ROnlyPost (ps : List RR) (rs : List Rf) (e : Ending) (w' : World) : Prop :=
  ∃ a' n c', e = .returned (.tuple #[.slice a' n c', .int .i64 (onlyE rs (ps.map RR.r))]) ∧ (onlyE rs (ps.map RR.r) = 0 → n = (flt rs ps).length ∧ RL w' (.slice a' n c') (flt rs ps))

set_option maxRecDepth 100000 in set_option maxHeartbeats 4000000 in
theorem ronly_any (ps : List RR) (rs : List Rf) (a : Option Addr) (cap : Nat) (a2 : Option Addr) (c2 : Nat) (w : World) (hl : RL w (.slice a ps.length cap) ps) (hr : Sl w (.slice a2 rs.length c2) 2 (rs.map Rf.cells)) (hlen : ps.length ≤ 1000) (hlen2 : rs.length ≤ 1000) :
    Calls Try.prog 31 #[.slice a ps.length cap, .slice a2 rs.length c2] w fun e w' => ROnlyPost ps rs e w' ∧ Ext w w' := by
  obtain ⟨i0, hi, hz0, hz1, hz2⟩ := info_parts Try.infoRRel
  have HL := Hid.mk' hl
  have HR := Hid.mk' hr
  clear hl hr
  go_enter Try.func31, Try.ntmps31
  go_wp2
  go_loopw [6] (fun i wr => ∃ k : Nat, k ≤ rs.length ∧ i = .int .i64 k ∧ Hid (∀ j (h : j < rs.length), j < k → hasR rs[j].o rs[j].v (ps.map RR.r) = true) ∧ Hid (Ext w wr)) (fun i _ => rs.length - (intOf i).toNat)
  case atStart => exact ⟨0, Nat.zero_le _, rfl, Hid.mk' (fun j _ h => by omega), Hid.mk' (by (repeat (with_reducible (first | exact Ext.refl _ | assumption | exact held_left (by assumption) | apply Ext.drewN | apply Ext.drew | apply Ext.alloc | (refine Ext.setCell ?_ (by first | (simp; done) | (simp; omega) | omega) _) | (refine Ext.trans ?_ (by assumption)) | (refine Ext.trans ?_ (held_left (by assumption)))))))⟩
  case round =>
    obtain ⟨k, hk, rfl, hz, hE⟩ := hrel
    by_cases hlt : k < rs.length
    · obtain ⟨b, o, rfl, hb, hx⟩ := HR.out.at_ (i := k) (by simpa using hlt)
      obtain ⟨f0, f1⟩ := Rf.at_ hlt hx hb hE.out
      have hbw : b < wr.heap.size := Nat.lt_of_lt_of_le hb hE.out.size
      cases hh : hasR rs[k].o rs[k].v (ps.map RR.r) with
      | false =>
        have HON := Hid.mk' (onlyE_no hlt hh)
        have HGT := Hid.mk' (fun W (h : Ext w W) => rget_no (HL.out.ext h) hlen hh)
        obtain ⟨r, hr⟩ : ∃ r, r = rs[k] := ⟨_, rfl⟩
        rw [← hr] at f0 f1 HGT
        clear hx hr hb hh
        go_wp2_with (go_at_call 27; refine (HGT.out _ (hE.out.trans (by (repeat (with_reducible (first | exact Ext.refl _ | assumption | exact held_left (by assumption) | apply Ext.drewN | apply Ext.drew | apply Ext.alloc | (refine Ext.setCell ?_ (by first | (simp; done) | (simp; omega) | omega) _) | (refine Ext.trans ?_ (by assumption)) | (refine Ext.trans ?_ (held_left (by assumption))))))))).mono ?_; rintro e w7 ⟨rfl, hb7⟩; have HE7 : Hid (Ext w w7) := Hid.mk' (hE.out.trans (by (repeat (with_reducible (first | exact Ext.refl _ | assumption | exact held_left (by assumption) | apply Ext.drewN | apply Ext.drew | apply Ext.alloc | (refine Ext.setCell ?_ (by first | (simp; done) | (simp; omega) | omega) _) | (refine Ext.trans ?_ (by assumption)) | (refine Ext.trans ?_ (held_left (by assumption)))))))))
        simp [bodyPost, results, Try.results31, go_sem, *]
        exact ⟨⟨none, 0, 0, by rw [HON.out], fun h => absurd (HON.out.symm.trans h) (by decide)⟩, HE7.out.trans (by (repeat (with_reducible (first | exact Ext.refl _ | assumption | exact held_left (by assumption) | apply Ext.drewN | apply Ext.drew | apply Ext.alloc | (refine Ext.setCell ?_ (by first | (simp; done) | (simp; omega) | omega) _) | (refine Ext.trans ?_ (by assumption)) | (refine Ext.trans ?_ (held_left (by assumption)))))))⟩
      | true =>
        have HHH := Hid.mk' hh
        have HGT := Hid.mk' (fun W (h : Ext w W) => rget_yes (HL.out.ext h) hlen hh)
        obtain ⟨r, hr⟩ : ∃ r, r = rs[k] := ⟨_, rfl⟩
        rw [← hr] at f0 f1 HGT
        have HLT : Hid (k < rs.length) := Hid.mk' hlt
        clear hx hr hb hh
        go_wp2_with (go_at_call 27; refine (HGT.out _ (hE.out.trans (by (repeat (with_reducible (first | exact Ext.refl _ | assumption | exact held_left (by assumption) | apply Ext.drewN | apply Ext.drew | apply Ext.alloc | (refine Ext.setCell ?_ (by first | (simp; done) | (simp; omega) | omega) _) | (refine Ext.trans ?_ (by assumption)) | (refine Ext.trans ?_ (held_left (by assumption))))))))).mono ?_; rintro e w7 ⟨cs, rfl, ⟨p, hp, rfl, hg⟩, hb7⟩; have HE7 : Hid (Ext w w7) := Hid.mk' (hE.out.trans (by (repeat (with_reducible (first | exact Ext.refl _ | assumption | exact held_left (by assumption) | apply Ext.drewN | apply Ext.drew | apply Ext.alloc | (refine Ext.setCell ?_ (by first | (simp; done) | (simp; omega) | omega) _) | (refine Ext.trans ?_ (by assumption)) | (refine Ext.trans ?_ (held_left (by assumption)))))))); clear hp hg)
        go_roundw
        case rel => exact ⟨k + 1, by have := HLT.out; omega, by go_num, Hid.mk' (fun j hj hjk => by
          by_cases e : j = k
          · subst e; exact HHH.out
          · exact hz.out j hj (by omega)), Hid.mk' (HE7.out.trans (by (repeat (with_reducible (first | exact Ext.refl _ | assumption | exact held_left (by assumption) | apply Ext.drewN | apply Ext.drew | apply Ext.alloc | (refine Ext.setCell ?_ (by first | (simp; done) | (simp; omega) | omega) _) | (refine Ext.trans ?_ (by assumption)) | (refine Ext.trans ?_ (held_left (by assumption))))))))⟩
        case measure => have := HLT.out; simp [intOf]; omega
    · obtain rfl : k = rs.length := by omega
      have HON := Hid.mk' (onlyE_yes (fun j hj => hz.out j hj hj))
      have HX1 := hE
      go_wp2
      go_loopw [9, 10] (fun v i wx => ∃ (k : Nat), k ≤ ps.length ∧ i = .int .i64 k ∧ Hid (wx.ownsRow w.heap.size 49 5 v (flt rs (ps.take k)).length ((flt rs (ps.take k)).map RR.cells).flatten) ∧ Hid (Ext w wx)) (fun _ i _ => ps.length - (intOf i).toNat)
      case atStart => exact ⟨0, Nat.zero_le _, rfl, Hid.mk' (World.ownsRow_nil _ _ _ _), hE⟩
      case round =>
        obtain ⟨i, hi2, rfl, hown, hE2⟩ := hrel
        by_cases hlt : i < ps.length
        · obtain ⟨b, o, rfl, hb, hx⟩ := HL.out.row.at_ (i := i) (by simpa using hlt)
          have HF := Hid.mk' (fun W (h : Ext w W) => RR.at_ hlt hx hb h)
          have HYES := Hid.mk' (fun h => flt_yes (rs := rs) hlt h)
          have HNO := Hid.mk' (fun h => flt_no (rs := rs) hlt h)
          obtain ⟨p, hp⟩ : ∃ p, p = ps[i] := ⟨_, rfl⟩
          rw [← hp] at HF HYES HNO
          have HLI : Hid (i < ps.length) := Hid.mk' hlt
          have HBW : Hid (b < w.heap.size) := Hid.mk' hb
          have HFL := Hid.mk' (flt_len rs (ps.take i))
          clear hx hp hb
          go_wp2
          go_loopw [9, 11] (fun v j wy => ∃ (m : Nat), m ≤ rs.length ∧ j = .int .i64 m ∧ Hid (∀ j (h : j < rs.length), j < m → isR rs[j].o rs[j].v p.r = false) ∧ Hid (wy.ownsRow w.heap.size 49 5 v (flt rs (ps.take i)).length ((flt rs (ps.take i)).map RR.cells).flatten) ∧ Hid (Ext w wy)) (fun _ j _ => rs.length - (intOf j).toNat)
          case atStart => exact ⟨0, Nat.zero_le _, rfl, Hid.mk' (fun j _ h => by omega), hown, hE2⟩
          case round =>
            clear hown hE2 hE
            obtain ⟨m, hm, rfl, hz3, hown, HEW⟩ := hrel
            obtain ⟨f0, f1, f2, f3, f4⟩ := HF.out _ HEW.out
            have hbw : b < wr.heap.size := Nat.lt_of_lt_of_le HBW.out HEW.out.size
            by_cases hmn : m < rs.length
            · obtain ⟨b2, o2, rfl, hb2, hx2⟩ := HR.out.at_ (i := m) (by simpa using hmn)
              obtain ⟨q0, q1⟩ := Rf.at_ hmn hx2 hb2 HEW.out
              have hbw2 : b2 < wr.heap.size := Nat.lt_of_lt_of_le hb2 HEW.out.size
              have HHIT := Hid.mk' (fun h => ofRefs_hit (r := p.r) hmn h)
              obtain ⟨r, hr⟩ : ∃ r, r = rs[m] := ⟨_, rfl⟩
              rw [← hr] at q0 q1 HHIT
              have HRM := Hid.mk' hr
              have HMN : Hid (m < rs.length) := Hid.mk' hmn
              clear hx2 hr hb2
              by_cases h1 : p.r.oid = r.o ∧ p.r.ver = r.v
              · have HY := Hid.mk' (HYES.out (HHIT.out (by unfold isR; exact decide_eq_true h1)))
                obtain ⟨e1, e2⟩ := h1
                rw [← e1] at q0
                rw [← e2] at q1
                clear e1 e2
                have hz := HEW.out.size
                have hfl := HFL.out
                rw [List.length_take] at hfl
                go_wp2
                go_region_held3 (fun w' => Ext (wr) w' ∧ (∀ b o, b < (wr).heap.size → w'.cell? ⟨b, o, none⟩ = (wr).cell? ⟨b, o, none⟩) ∧ (∀ b o, b < (wr).heap.size → w'.frozen? ⟨b, o, none⟩ = (wr).frozen? ⟨b, o, none⟩)) ((exact held_of (by (repeat (with_reducible (first | exact Ext.refl _ | assumption | exact held_left (by assumption) | apply Ext.drewN | apply Ext.drew | apply Ext.alloc | (refine Ext.setCell ?_ (by first | (simp; done) | (simp; omega) | omega) _) | (refine Ext.trans ?_ (by assumption)) | (refine Ext.trans ?_ (held_left (by assumption))))))))) (fail)
                go_wp2_with (at_builtin; refine wpList_append_own _ rfl _ _ 22 rfl w.heap.size 49 i0 _ 5 56 Try.underlying22 hi hz0 hz1 hz2 rfl (by decide) _ _ _ rfl (owns_ext hown.out (by (repeat (with_reducible (first | exact Ext.refl _ | assumption | exact held_left (by assumption) | apply Ext.drewN | apply Ext.drew | apply Ext.alloc | (refine Ext.setCell ?_ (by first | (simp; done) | (simp; omega) | omega) _) | (refine Ext.trans ?_ (by assumption)) | (refine Ext.trans ?_ (held_left (by assumption)))))))) ⟨_, 0, none⟩ 1 1 p.cells rfl rfl (cells_new _ #[.int .u32 p.r.oid, .int .u32 p.r.ver, .string p.r.nm, .int .u8 p.r.id, .slice p.a p.r.cols.length p.c] _) (by intro u hu; simp [RR.cells] at hu; rcases hu with rfl | rfl | rfl | rfl | rfl <;> rfl) (by unfold maxLen; omega) (by omega) (by simp; omega) ?_)
                intro v' w4 hown' hgrow _
                have HX4 : Hid (Ext w w4) := Hid.mk' (Ext.grown (show Ext w _ from HEW.out.trans (by (repeat (with_reducible (first | exact Ext.refl _ | assumption | exact held_left (by assumption) | apply Ext.drewN | apply Ext.drew | apply Ext.alloc | (refine Ext.setCell ?_ (by first | (simp; done) | (simp; omega) | omega) _) | (refine Ext.trans ?_ (by assumption)) | (refine Ext.trans ?_ (held_left (by assumption)))))))) (owns_ext hown.out (by (repeat (with_reducible (first | exact Ext.refl _ | assumption | exact held_left (by assumption) | apply Ext.drewN | apply Ext.drew | apply Ext.alloc | (refine Ext.setCell ?_ (by first | (simp; done) | (simp; omega) | omega) _) | (refine Ext.trans ?_ (by assumption)) | (refine Ext.trans ?_ (held_left (by assumption)))))))) hgrow)
                have HO4 := Hid.mk' hown'
                clear hown' hgrow
                go_wp2
                go_roundw
                case rel => exact ⟨i + 1, by have := HLI.out; omega, by go_num, Hid.mk' (by rw [HY.out, List.length_append, List.map_append, List.flatten_append]; simpa using HO4.out), HX4⟩
                case measure => have := HLI.out; simp [intOf]; omega
              · have HNM : Hid (isR r.o r.v p.r = false) := Hid.mk' (by unfold isR; exact decide_eq_false h1)
                by_cases h2 : p.r.oid = r.o
                · have h3 : (p.r.ver == r.v) = false := by simpa using (fun h => h1 ⟨h2, h⟩)
                  rw [← h2] at q0
                  clear h1 h2
                  go_wp2
                  go_region_held3 (fun w' => Ext (wr) w' ∧ (∀ b o, b < (wr).heap.size → w'.cell? ⟨b, o, none⟩ = (wr).cell? ⟨b, o, none⟩) ∧ (∀ b o, b < (wr).heap.size → w'.frozen? ⟨b, o, none⟩ = (wr).frozen? ⟨b, o, none⟩)) ((exact held_of (by (repeat (with_reducible (first | exact Ext.refl _ | assumption | exact held_left (by assumption) | apply Ext.drewN | apply Ext.drew | apply Ext.alloc | (refine Ext.setCell ?_ (by first | (simp; done) | (simp; omega) | omega) _) | (refine Ext.trans ?_ (by assumption)) | (refine Ext.trans ?_ (held_left (by assumption))))))))) (fail)
                  go_wp2
                  go_roundw
                  case rel => exact ⟨m + 1, by have := HMN.out; omega, by go_num, Hid.mk' (fun j hj hjm => by
                    by_cases e : j = m
                    · subst e; rw [← HRM.out]; exact HNM.out
                    · exact hz3.out j hj (by omega)), Hid.mk' (owns_ext hown.out (by (repeat (with_reducible (first | exact Ext.refl _ | assumption | exact held_left (by assumption) | apply Ext.drewN | apply Ext.drew | apply Ext.alloc | (refine Ext.setCell ?_ (by first | (simp; done) | (simp; omega) | omega) _) | (refine Ext.trans ?_ (by assumption)) | (refine Ext.trans ?_ (held_left (by assumption)))))))), Hid.mk' (HEW.out.trans (by (repeat (with_reducible (first | exact Ext.refl _ | assumption | exact held_left (by assumption) | apply Ext.drewN | apply Ext.drew | apply Ext.alloc | (refine Ext.setCell ?_ (by first | (simp; done) | (simp; omega) | omega) _) | (refine Ext.trans ?_ (by assumption)) | (refine Ext.trans ?_ (held_left (by assumption))))))))⟩
                  case measure => have := HMN.out; simp [intOf]; omega
                · have h3 : (p.r.oid == r.o) = false := by simpa using h2
                  clear h1 h2
                  go_wp2
                  go_region_held3 (fun w' => Ext (wr) w' ∧ (∀ b o, b < (wr).heap.size → w'.cell? ⟨b, o, none⟩ = (wr).cell? ⟨b, o, none⟩) ∧ (∀ b o, b < (wr).heap.size → w'.frozen? ⟨b, o, none⟩ = (wr).frozen? ⟨b, o, none⟩)) ((exact held_of (by (repeat (with_reducible (first | exact Ext.refl _ | assumption | exact held_left (by assumption) | apply Ext.drewN | apply Ext.drew | apply Ext.alloc | (refine Ext.setCell ?_ (by first | (simp; done) | (simp; omega) | omega) _) | (refine Ext.trans ?_ (by assumption)) | (refine Ext.trans ?_ (held_left (by assumption))))))))) (fail)
                  go_wp2
                  go_roundw
                  case rel => exact ⟨m + 1, by have := HMN.out; omega, by go_num, Hid.mk' (fun j hj hjm => by
                    by_cases e : j = m
                    · subst e; rw [← HRM.out]; exact HNM.out
                    · exact hz3.out j hj (by omega)), Hid.mk' (owns_ext hown.out (by (repeat (with_reducible (first | exact Ext.refl _ | assumption | exact held_left (by assumption) | apply Ext.drewN | apply Ext.drew | apply Ext.alloc | (refine Ext.setCell ?_ (by first | (simp; done) | (simp; omega) | omega) _) | (refine Ext.trans ?_ (by assumption)) | (refine Ext.trans ?_ (held_left (by assumption)))))))), Hid.mk' (HEW.out.trans (by (repeat (with_reducible (first | exact Ext.refl _ | assumption | exact held_left (by assumption) | apply Ext.drewN | apply Ext.drew | apply Ext.alloc | (refine Ext.setCell ?_ (by first | (simp; done) | (simp; omega) | omega) _) | (refine Ext.trans ?_ (by assumption)) | (refine Ext.trans ?_ (held_left (by assumption))))))))⟩
                  case measure => have := HMN.out; simp [intOf]; omega
            · obtain rfl : m = rs.length := by omega
              have HN := Hid.mk' (HNO.out (ofRefs_miss (fun j hj => hz3.out j hj hj)))
              go_wp2
              go_roundw
              case rel => exact ⟨i + 1, by have := HLI.out; omega, by go_num, Hid.mk' (by rw [HN.out]; exact hown.out), HEW⟩
              case measure => have := HLI.out; simp [intOf]; omega
        · obtain rfl : i = ps.length := by omega
          rw [List.take_length] at hown
          obtain ⟨a9, c9, rfl⟩ := owns_shape hown.out
          go_wp2
          simp [bodyPost, results, Try.results31, go_sem, *]
          exact ⟨⟨a9, _, c9, by rw [HON.out], fun _ => ⟨rfl, Sl.of_owns (base := w.heap.size) (e := 49) (by rw [List.length_map]; exact hown.out) (RR.len _), fun p hp => (HL.out.sl p (flt_mem hp)).ext hE2.out⟩⟩, hE2.out⟩

end Go.Proofs.Ythdjinicmnhgpaa

/-
The youngest relation of an oid, the reference's.
-/
namespace Go.Proofs.Ythdjinicmnhgpaa
open Go.RowKit

theorem lastUp_lt {o : Int} {ps : List RR} (hs : Srt (ps.map RR.r)) {k : Nat} (hk : k < ps.length) (h : ps[k].r.oid = o) {p : RR} (hp : lastUp o ps k = some p) : p.r.ver < ps[k].r.ver := by
  obtain ⟨j, hj, hjk, rfl, ho⟩ := lastUp_some hp
  have := hs.at_ (i := j) (j := k) (by simpa using hj) (by simpa using hk) hjk
  unfold Rl.lt aheadP at this
  simp only [List.getElem_map] at this
  omega

set_option maxRecDepth 100000 in set_option maxHeartbeats 4000000 in
theorem rlast_any (ps : List RR) (a : Option Addr) (cap : Nat) (ot : Int) (w : World) (hl : RL w (.slice a ps.length cap) ps) (hlen : ps.length ≤ 1000) (hs : Srt (ps.map RR.r)) :
    Calls Try.prog 29 #[.slice a ps.length cap, .int .u32 ot] w fun e w' => e = .returned (.tuple #[((lastUp ot ps ps.length).getD RR.zero).agg, .bool (lastUp ot ps ps.length).isSome]) ∧ Ext w w' := by
  have HL := Hid.mk' hl.row
  have HS := Hid.mk' hs
  clear hl hs
  go_enter Try.func29, Try.ntmps29
  go_wp2
  go_loopw [7, 8] (fun b i wr => ∃ (k : Nat) (q : RR), k ≤ ps.length ∧ i = .int .i64 k ∧ b = .bool (lastUp ot ps k).isSome ∧ Hid (q = (lastUp ot ps k).getD RR.zero) ∧ Blk wr w.heap.size #[.int .u32 0, .int .u32 0, .string ⟨#[]⟩, .int .u8 0, .slice none 0 0] 49 ∧ Blk wr (w.heap.size + 1) #[.int .u32 q.r.oid, .int .u32 q.r.ver, .string q.r.nm, .int .u8 q.r.id, .slice q.a q.r.cols.length q.c] 49 ∧ Hid (Ext w wr)) (fun _ i _ => ps.length - (intOf i).toNat)
  case atStart => exact ⟨0, RR.zero, Nat.zero_le _, rfl, rfl, Hid.mk' rfl, (Blk.new _ _ _).alloc _, Blk.new' _ _ (by simp), Hid.mk' (by (repeat (with_reducible (first | exact Ext.refl _ | assumption | exact held_left (by assumption) | apply Ext.drewN | apply Ext.drew | apply Ext.alloc | (refine Ext.setCell ?_ (by first | (simp; done) | (simp; omega) | omega) _) | (refine Ext.trans ?_ (by assumption)) | (refine Ext.trans ?_ (held_left (by assumption)))))))⟩
  case round =>
    obtain ⟨k, q, hk, rfl, rfl, hq, hB0, hB1, hE⟩ := hrel
    have HB0 := Hid.mk' hB0
    have HB1 := Hid.mk' hB1
    have g0 := hB0.cell
    have g0f := hB0.frozen
    have z0 := hB0.lt
    have g1 := hB1.cell
    have g1f := hB1.frozen
    have z1 := hB1.lt
    clear hB0 hB1
    by_cases hlt : k < ps.length
    · obtain ⟨b, o, rfl, hb, hx⟩ := HL.out.at_ (i := k) (by simpa using hlt)
      obtain ⟨f0, f1, f2, f3, f4⟩ := RR.at_ hlt hx hb hE.out
      have hbw : b < wr.heap.size := Nat.lt_of_lt_of_le hb hE.out.size
      have HHIT := Hid.mk' (fun h => lastUp_hit (o := ot) hlt h)
      have HMISS := Hid.mk' (fun h => lastUp_miss (o := ot) hlt h)
      have HLT := Hid.mk' (fun h p hp => lastUp_lt (o := ot) HS.out hlt h (p := p) hp)
      obtain ⟨p, hp⟩ : ∃ p, p = ps[k] := ⟨_, rfl⟩
      rw [← hp] at f0 f1 f2 f3 f4 HHIT HMISS HLT
      clear hx hp
      by_cases ho : p.r.oid = ot
      · have HU := Hid.mk' (HHIT.out ho)
        have HV := Hid.mk' (fun q' h => HLT.out ho q' h)
        obtain ⟨⟨oid, ver, nm, id, cols⟩, a2, c2⟩ := p
        simp only at ho f0 f1 f2 f3 f4 HV
        subst ho
        clear HHIT HMISS HLT
        have hstep := HB1.out.set 0 (.int .u32 oid) |>.set 1 (.int .u32 ver) |>.set 2 (.string nm) |>.set 3 (.int .u8 id) |>.set 4 (.slice a2 cols.length c2)
        have HST := Hid.mk' hstep
        clear hstep
        cases hL : lastUp oid ps k with
        | none =>
          simp only [Option.isSome_none]
          clear hL
          go_wp2
          refine wp_region_head 23 (fun w' => Ext (wr) w' ∧ (∀ b o, b < (wr).heap.size → w'.cell? ⟨b, o, none⟩ = (wr).cell? ⟨b, o, none⟩) ∧ (∀ b o, b < (wr).heap.size → w'.frozen? ⟨b, o, none⟩ = (wr).frozen? ⟨b, o, none⟩)) (by kernel_rfl) (by decide) ?_
          have hA0 : Hid ((fun w' => Ext (wr) w' ∧ (∀ b o, b < (wr).heap.size → w'.cell? ⟨b, o, none⟩ = (wr).cell? ⟨b, o, none⟩) ∧ (∀ b o, b < (wr).heap.size → w'.frozen? ⟨b, o, none⟩ = (wr).frozen? ⟨b, o, none⟩)) wr.drew) := held_of (by (repeat (with_reducible (first | exact Ext.refl _ | assumption | exact held_left (by assumption) | apply Ext.drewN | apply Ext.drew | apply Ext.alloc | (refine Ext.setCell ?_ (by first | (simp; done) | (simp; omega) | omega) _) | (refine Ext.trans ?_ (by assumption)) | (refine Ext.trans ?_ (held_left (by assumption)))))))
          (refine wpHd_takeD (i := 0) (d := some 15) (v := ?_) rfl rfl (by kernel_rfl) (by kernel_rfl) (by kernel_rfl) (fun _ _ _ h => h) (Or.inl ⟨by rfl, ?_⟩) hA0.out ?_; rotate_left 1; (· (intro w' hS'; (obtain ⟨hEs', hcs', hfs'⟩ := hS'); go_simp; try with_reducible rfl)))
          try simp only [Act.put, List.setIfInBounds_toArray, List.set_cons_zero, List.set_cons_succ]
          (refine wpHd_takeD (i := 1) (d := some 16) (v := ?_) rfl rfl (by kernel_rfl) (by kernel_rfl) (by kernel_rfl) (fun _ _ _ h => h) (Or.inl ⟨by rfl, ?_⟩) hA0.out ?_; rotate_left 1; (· (intro w' hS'; (obtain ⟨hEs', hcs', hfs'⟩ := hS'); go_simp; try with_reducible rfl)))
          try simp only [Act.put, List.setIfInBounds_toArray, List.set_cons_zero, List.set_cons_succ]
          (refine wpHd_takeD (i := 2) (d := some 17) (v := ?_) rfl rfl (by kernel_rfl) (by kernel_rfl) (by kernel_rfl) (fun _ _ _ h => h) (Or.inl ⟨by rfl, ?_⟩) hA0.out ?_; rotate_left 1; (· (intro w' hS'; (obtain ⟨hEs', hcs', hfs'⟩ := hS'); go_simp; try with_reducible rfl)))
          try simp only [Act.put, List.setIfInBounds_toArray, List.set_cons_zero, List.set_cons_succ]
          (refine wpHd_takeD (i := 3) (d := some 18) (v := ?_) rfl rfl (by kernel_rfl) (by kernel_rfl) (by kernel_rfl) (fun _ _ _ h => h) (Or.inl ⟨by rfl, ?_⟩) hA0.out ?_; rotate_left 1; (· (intro w' hS'; (obtain ⟨hEs', hcs', hfs'⟩ := hS'); go_simp; try with_reducible rfl)))
          try simp only [Act.put, List.setIfInBounds_toArray, List.set_cons_zero, List.set_cons_succ]
          (refine wpHd_takeD (i := 4) (d := some 19) (v := ?_) rfl rfl (by kernel_rfl) (by kernel_rfl) (by kernel_rfl) (fun _ _ _ h => h) (Or.inl ⟨by rfl, ?_⟩) hA0.out ?_; rotate_left 1; (· (intro w' hS'; (obtain ⟨hEs', hcs', hfs'⟩ := hS'); go_simp; try with_reducible rfl)))
          try simp only [Act.put, List.setIfInBounds_toArray, List.set_cons_zero, List.set_cons_succ]
          (refine wpHd_takeD (i := 5) (d := some 20) (v := ?_) rfl rfl (by kernel_rfl) (by kernel_rfl) (by kernel_rfl) (fun _ _ _ h => h) (Or.inl ⟨by rfl, ?_⟩) hA0.out ?_; rotate_left 1; (· (intro w' hS'; (obtain ⟨hEs', hcs', hfs'⟩ := hS'); go_simp; try with_reducible rfl)))
          try simp only [Act.put, List.setIfInBounds_toArray, List.set_cons_zero, List.set_cons_succ]
          (refine wpHd_takeD (i := 6) (d := some 21) (v := ?_) rfl rfl (by kernel_rfl) (by kernel_rfl) (by kernel_rfl) (fun _ _ _ h => h) (Or.inl ⟨by rfl, ?_⟩) hA0.out ?_; rotate_left 1; (· (intro w' hS'; (obtain ⟨hEs', hcs', hfs'⟩ := hS'); go_simp; try with_reducible rfl)))
          try simp only [Act.put, List.setIfInBounds_toArray, List.set_cons_zero, List.set_cons_succ]
          (refine wpHd_takeD (i := 7) (d := some 22) (v := ?_) rfl rfl (by kernel_rfl) (by kernel_rfl) (by kernel_rfl) (fun _ _ _ h => h) (Or.inl ⟨by rfl, ?_⟩) hA0.out ?_; rotate_left 1; (· (intro w' hS'; (obtain ⟨hEs', hcs', hfs'⟩ := hS'); go_simp; try with_reducible rfl)))
          try simp only [Act.put, List.setIfInBounds_toArray, List.set_cons_zero, List.set_cons_succ]
          (refine wpHd_takeD (i := 8) (d := some 23) (v := ?_) rfl rfl (by kernel_rfl) (by kernel_rfl) (by kernel_rfl) (fun _ _ _ h => h) (Or.inl ⟨by rfl, ?_⟩) hA0.out ?_; rotate_left 1; (· (intro w' hS'; (obtain ⟨hEs', hcs', hfs'⟩ := hS'); go_simp; try with_reducible rfl)))
          try simp only [Act.put, List.setIfInBounds_toArray, List.set_cons_zero, List.set_cons_succ]
          (refine wpHd_takeD (i := 9) (d := some 24) (v := ?_) rfl rfl (by kernel_rfl) (by kernel_rfl) (by kernel_rfl) (fun _ _ _ h => h) (Or.inl ⟨by rfl, ?_⟩) hA0.out ?_; rotate_left 1; (· (intro w' hS'; (obtain ⟨hEs', hcs', hfs'⟩ := hS'); go_simp; try with_reducible rfl)))
          try simp only [Act.put, List.setIfInBounds_toArray, List.set_cons_zero, List.set_cons_succ]
          (refine wpHd_takeD (i := 10) (d := some 25) (v := ?_) rfl rfl (by kernel_rfl) (by kernel_rfl) (by kernel_rfl) (fun _ _ _ h => h) (Or.inl ⟨by rfl, ?_⟩) hA0.out ?_; rotate_left 1; (· (intro w' hS'; (obtain ⟨hEs', hcs', hfs'⟩ := hS'); go_simp; try with_reducible rfl)))
          try simp only [Act.put, List.setIfInBounds_toArray, List.set_cons_zero, List.set_cons_succ]
          (refine wpHd_takeD (i := 11) (d := some 26) (v := ?_) rfl rfl (by kernel_rfl) (by kernel_rfl) (by kernel_rfl) (fun _ _ _ h => h) (Or.inl ⟨by rfl, ?_⟩) hA0.out ?_; rotate_left 1; (· (intro w' hS'; (obtain ⟨hEs', hcs', hfs'⟩ := hS'); go_simp; try with_reducible rfl)))
          try simp only [Act.put, List.setIfInBounds_toArray, List.set_cons_zero, List.set_cons_succ]
          refine wpHd_takeD (i := 12) (d := some 27) (v := undef) rfl rfl (by kernel_rfl) (by kernel_rfl) (by kernel_rfl) (fun _ _ _ h => h) (Or.inr ⟨by rfl, rfl⟩) hA0.out ?_
          try simp only [Act.put, List.setIfInBounds_toArray, List.set_cons_zero, List.set_cons_succ]
          refine wpHd_takeD (i := 13) (d := some 28) (v := undef) rfl rfl (by kernel_rfl) (by kernel_rfl) (by kernel_rfl) (fun _ _ _ h => h) (Or.inr ⟨by rfl, rfl⟩) hA0.out ?_
          try simp only [Act.put, List.setIfInBounds_toArray, List.set_cons_zero, List.set_cons_succ]
          refine wpHd_takeD (i := 14) (d := some 29) (v := undef) rfl rfl (by kernel_rfl) (by kernel_rfl) (by kernel_rfl) (fun _ _ _ h => h) (Or.inr ⟨by rfl, rfl⟩) hA0.out ?_
          try simp only [Act.put, List.setIfInBounds_toArray, List.set_cons_zero, List.set_cons_succ]
          refine wpHd_takeD (i := 15) (d := some 30) (v := undef) rfl rfl (by kernel_rfl) (by kernel_rfl) (by kernel_rfl) (fun _ _ _ h => h) (Or.inr ⟨by rfl, rfl⟩) hA0.out ?_
          try simp only [Act.put, List.setIfInBounds_toArray, List.set_cons_zero, List.set_cons_succ]
          refine wpHd_takeD (i := 16) (d := some 31) (v := undef) rfl rfl (by kernel_rfl) (by kernel_rfl) (by kernel_rfl) (fun _ _ _ h => h) (Or.inr ⟨by rfl, rfl⟩) hA0.out ?_
          try simp only [Act.put, List.setIfInBounds_toArray, List.set_cons_zero, List.set_cons_succ]
          refine wpHd_takeD (i := 17) (d := some 32) (v := undef) rfl rfl (by kernel_rfl) (by kernel_rfl) (by kernel_rfl) (fun _ _ _ h => h) (Or.inr ⟨by rfl, rfl⟩) hA0.out ?_
          try simp only [Act.put, List.setIfInBounds_toArray, List.set_cons_zero, List.set_cons_succ]
          refine wpHd_takeD (i := 18) (d := some 33) (v := undef) rfl rfl (by kernel_rfl) (by kernel_rfl) (by kernel_rfl) (fun _ _ _ h => h) (Or.inr ⟨by rfl, rfl⟩) hA0.out ?_
          try simp only [Act.put, List.setIfInBounds_toArray, List.set_cons_zero, List.set_cons_succ]
          refine wpHd_takeD (i := 19) (d := some 34) (v := undef) rfl rfl (by kernel_rfl) (by kernel_rfl) (by kernel_rfl) (fun _ _ _ h => h) (Or.inr ⟨by rfl, rfl⟩) hA0.out ?_
          try simp only [Act.put, List.setIfInBounds_toArray, List.set_cons_zero, List.set_cons_succ]
          refine wpHd_takeD (i := 20) (d := some 35) (v := undef) rfl rfl (by kernel_rfl) (by kernel_rfl) (by kernel_rfl) (fun _ _ _ h => h) (Or.inr ⟨by rfl, rfl⟩) hA0.out ?_
          try simp only [Act.put, List.setIfInBounds_toArray, List.set_cons_zero, List.set_cons_succ]
          refine wpHd_takeD (i := 21) (d := some 36) (v := undef) rfl rfl (by kernel_rfl) (by kernel_rfl) (by kernel_rfl) (fun _ _ _ h => h) (Or.inr ⟨by rfl, rfl⟩) hA0.out ?_
          try simp only [Act.put, List.setIfInBounds_toArray, List.set_cons_zero, List.set_cons_succ]
          (refine wpHd_takeD (i := 22) (d := some 37) (v := ?_) rfl rfl (by kernel_rfl) (by kernel_rfl) (by kernel_rfl) (fun _ _ _ h => h) (Or.inl ⟨by rfl, ?_⟩) hA0.out ?_; rotate_left 1; (· (intro w' hS'; (obtain ⟨hEs', hcs', hfs'⟩ := hS'); go_simp; try with_reducible rfl)))
          try simp only [Act.put, List.setIfInBounds_toArray, List.set_cons_zero, List.set_cons_succ]
          refine wpHd_tail (by kernel_rfl) ?_
          simp only [List.drop_succ_cons, List.drop_zero]
          go_wp2
          go_roundw
          case rel => exact ⟨k + 1, ⟨⟨oid, ver, nm, id, cols⟩, a2, c2⟩, by omega, by go_num, by rw [HU.out]; rfl, Hid.mk' (by rw [HU.out]; rfl), ((((((HB0.out.drew).other _ _ (by show w.heap.size ≠ w.heap.size + 1; omega)).other _ _ (by show w.heap.size ≠ w.heap.size + 1; omega)).other _ _ (by show w.heap.size ≠ w.heap.size + 1; omega)).other _ _ (by show w.heap.size ≠ w.heap.size + 1; omega)).other _ _ (by show w.heap.size ≠ w.heap.size + 1; omega)), HST.out, Hid.mk' (by have hE := hE.out; (repeat (with_reducible (first | exact Ext.refl _ | assumption | exact held_left (by assumption) | apply Ext.drewN | apply Ext.drew | apply Ext.alloc | (refine Ext.setCell ?_ (by first | (simp; done) | (simp; omega) | omega) _) | (refine Ext.trans ?_ (by assumption)) | (refine Ext.trans ?_ (held_left (by assumption)))))))⟩
          case measure => simp [intOf]; omega
        | some q' =>
          have hqq : q = q' := by have := hq.out; rw [hL] at this; exact this
          have hv : q.r.ver < ver := by rw [hqq]; exact HV.out q' hL
          simp only [Option.isSome_some]
          clear hL hqq
          go_wp2
          go_region_held3 (fun w' => Ext (wr) w' ∧ (∀ b o, b < (wr).heap.size → w'.cell? ⟨b, o, none⟩ = (wr).cell? ⟨b, o, none⟩) ∧ (∀ b o, b < (wr).heap.size → w'.frozen? ⟨b, o, none⟩ = (wr).frozen? ⟨b, o, none⟩)) ((exact held_of (by (repeat (with_reducible (first | exact Ext.refl _ | assumption | exact held_left (by assumption) | apply Ext.drewN | apply Ext.drew | apply Ext.alloc | (refine Ext.setCell ?_ (by first | (simp; done) | (simp; omega) | omega) _) | (refine Ext.trans ?_ (by assumption)) | (refine Ext.trans ?_ (held_left (by assumption))))))))) (fail)
          go_wp2
          go_roundw
          case rel => exact ⟨k + 1, ⟨⟨oid, ver, nm, id, cols⟩, a2, c2⟩, by omega, by go_num, by rw [HU.out]; rfl, Hid.mk' (by rw [HU.out]; rfl), ((((((HB0.out.drew).other _ _ (by show w.heap.size ≠ w.heap.size + 1; omega)).other _ _ (by show w.heap.size ≠ w.heap.size + 1; omega)).other _ _ (by show w.heap.size ≠ w.heap.size + 1; omega)).other _ _ (by show w.heap.size ≠ w.heap.size + 1; omega)).other _ _ (by show w.heap.size ≠ w.heap.size + 1; omega)), HST.out, Hid.mk' (by have hE := hE.out; (repeat (with_reducible (first | exact Ext.refl _ | assumption | exact held_left (by assumption) | apply Ext.drewN | apply Ext.drew | apply Ext.alloc | (refine Ext.setCell ?_ (by first | (simp; done) | (simp; omega) | omega) _) | (refine Ext.trans ?_ (by assumption)) | (refine Ext.trans ?_ (held_left (by assumption)))))))⟩
          case measure => simp [intOf]; omega
      · have HU := Hid.mk' (HMISS.out ho)
        have ho' : (p.r.oid == ot) = false := by simpa using ho
        obtain ⟨is, his⟩ : ∃ is, is = (lastUp ot ps k).isSome := ⟨_, rfl⟩
        rw [← his]
        have HIS := Hid.mk' his
        clear HHIT HMISS HLT ho his
        go_wp2
        refine wp_region_head 23 (fun w' => Ext (wr) w' ∧ (∀ b o, b < (wr).heap.size → w'.cell? ⟨b, o, none⟩ = (wr).cell? ⟨b, o, none⟩) ∧ (∀ b o, b < (wr).heap.size → w'.frozen? ⟨b, o, none⟩ = (wr).frozen? ⟨b, o, none⟩)) (by kernel_rfl) (by decide) ?_
        have hA0 : Hid ((fun w' => Ext (wr) w' ∧ (∀ b o, b < (wr).heap.size → w'.cell? ⟨b, o, none⟩ = (wr).cell? ⟨b, o, none⟩) ∧ (∀ b o, b < (wr).heap.size → w'.frozen? ⟨b, o, none⟩ = (wr).frozen? ⟨b, o, none⟩)) wr.drew) := held_of (by (repeat (with_reducible (first | exact Ext.refl _ | assumption | exact held_left (by assumption) | apply Ext.drewN | apply Ext.drew | apply Ext.alloc | (refine Ext.setCell ?_ (by first | (simp; done) | (simp; omega) | omega) _) | (refine Ext.trans ?_ (by assumption)) | (refine Ext.trans ?_ (held_left (by assumption)))))))
        (refine wpHd_takeD (i := 0) (d := some 15) (v := ?_) rfl rfl (by kernel_rfl) (by kernel_rfl) (by kernel_rfl) (fun _ _ _ h => h) (Or.inl ⟨by rfl, ?_⟩) hA0.out ?_; rotate_left 1; (· (intro w' hS'; (obtain ⟨hEs', hcs', hfs'⟩ := hS'); go_simp; try with_reducible rfl)))
        try simp only [Act.put, List.setIfInBounds_toArray, List.set_cons_zero, List.set_cons_succ]
        (refine wpHd_takeD (i := 1) (d := some 16) (v := ?_) rfl rfl (by kernel_rfl) (by kernel_rfl) (by kernel_rfl) (fun _ _ _ h => h) (Or.inl ⟨by rfl, ?_⟩) hA0.out ?_; rotate_left 1; (· (intro w' hS'; (obtain ⟨hEs', hcs', hfs'⟩ := hS'); go_simp; try with_reducible rfl)))
        try simp only [Act.put, List.setIfInBounds_toArray, List.set_cons_zero, List.set_cons_succ]
        (refine wpHd_takeD (i := 2) (d := some 17) (v := ?_) rfl rfl (by kernel_rfl) (by kernel_rfl) (by kernel_rfl) (fun _ _ _ h => h) (Or.inl ⟨by rfl, ?_⟩) hA0.out ?_; rotate_left 1; (· (intro w' hS'; (obtain ⟨hEs', hcs', hfs'⟩ := hS'); go_simp; try with_reducible rfl)))
        try simp only [Act.put, List.setIfInBounds_toArray, List.set_cons_zero, List.set_cons_succ]
        (refine wpHd_takeD (i := 3) (d := some 18) (v := ?_) rfl rfl (by kernel_rfl) (by kernel_rfl) (by kernel_rfl) (fun _ _ _ h => h) (Or.inl ⟨by rfl, ?_⟩) hA0.out ?_; rotate_left 1; (· (intro w' hS'; (obtain ⟨hEs', hcs', hfs'⟩ := hS'); go_simp; try with_reducible rfl)))
        try simp only [Act.put, List.setIfInBounds_toArray, List.set_cons_zero, List.set_cons_succ]
        (refine wpHd_takeD (i := 4) (d := some 19) (v := ?_) rfl rfl (by kernel_rfl) (by kernel_rfl) (by kernel_rfl) (fun _ _ _ h => h) (Or.inl ⟨by rfl, ?_⟩) hA0.out ?_; rotate_left 1; (· (intro w' hS'; (obtain ⟨hEs', hcs', hfs'⟩ := hS'); go_simp; try with_reducible rfl)))
        try simp only [Act.put, List.setIfInBounds_toArray, List.set_cons_zero, List.set_cons_succ]
        (refine wpHd_takeD (i := 5) (d := some 20) (v := ?_) rfl rfl (by kernel_rfl) (by kernel_rfl) (by kernel_rfl) (fun _ _ _ h => h) (Or.inl ⟨by rfl, ?_⟩) hA0.out ?_; rotate_left 1; (· (intro w' hS'; (obtain ⟨hEs', hcs', hfs'⟩ := hS'); go_simp; try with_reducible rfl)))
        try simp only [Act.put, List.setIfInBounds_toArray, List.set_cons_zero, List.set_cons_succ]
        (refine wpHd_takeD (i := 6) (d := some 21) (v := ?_) rfl rfl (by kernel_rfl) (by kernel_rfl) (by kernel_rfl) (fun _ _ _ h => h) (Or.inl ⟨by rfl, ?_⟩) hA0.out ?_; rotate_left 1; (· (intro w' hS'; (obtain ⟨hEs', hcs', hfs'⟩ := hS'); go_simp; try with_reducible rfl)))
        try simp only [Act.put, List.setIfInBounds_toArray, List.set_cons_zero, List.set_cons_succ]
        (refine wpHd_takeD (i := 7) (d := some 22) (v := ?_) rfl rfl (by kernel_rfl) (by kernel_rfl) (by kernel_rfl) (fun _ _ _ h => h) (Or.inl ⟨by rfl, ?_⟩) hA0.out ?_; rotate_left 1; (· (intro w' hS'; (obtain ⟨hEs', hcs', hfs'⟩ := hS'); go_simp; try with_reducible rfl)))
        try simp only [Act.put, List.setIfInBounds_toArray, List.set_cons_zero, List.set_cons_succ]
        (refine wpHd_takeD (i := 8) (d := some 23) (v := ?_) rfl rfl (by kernel_rfl) (by kernel_rfl) (by kernel_rfl) (fun _ _ _ h => h) (Or.inl ⟨by rfl, ?_⟩) hA0.out ?_; rotate_left 1; (· (intro w' hS'; (obtain ⟨hEs', hcs', hfs'⟩ := hS'); go_simp; try with_reducible rfl)))
        try simp only [Act.put, List.setIfInBounds_toArray, List.set_cons_zero, List.set_cons_succ]
        refine wpHd_takeD (i := 9) (d := some 24) (v := undef) rfl rfl (by kernel_rfl) (by kernel_rfl) (by kernel_rfl) (fun _ _ _ h => h) (Or.inr ⟨by rfl, rfl⟩) hA0.out ?_
        try simp only [Act.put, List.setIfInBounds_toArray, List.set_cons_zero, List.set_cons_succ]
        refine wpHd_takeD (i := 10) (d := some 25) (v := undef) rfl rfl (by kernel_rfl) (by kernel_rfl) (by kernel_rfl) (fun _ _ _ h => h) (Or.inr ⟨by rfl, rfl⟩) hA0.out ?_
        try simp only [Act.put, List.setIfInBounds_toArray, List.set_cons_zero, List.set_cons_succ]
        refine wpHd_takeD (i := 11) (d := some 26) (v := undef) rfl rfl (by kernel_rfl) (by kernel_rfl) (by kernel_rfl) (fun _ _ _ h => h) (Or.inr ⟨by rfl, rfl⟩) hA0.out ?_
        try simp only [Act.put, List.setIfInBounds_toArray, List.set_cons_zero, List.set_cons_succ]
        refine wpHd_takeD (i := 12) (d := some 27) (v := undef) rfl rfl (by kernel_rfl) (by kernel_rfl) (by kernel_rfl) (fun _ _ _ h => h) (Or.inr ⟨by rfl, rfl⟩) hA0.out ?_
        try simp only [Act.put, List.setIfInBounds_toArray, List.set_cons_zero, List.set_cons_succ]
        refine wpHd_takeD (i := 13) (d := some 28) (v := undef) rfl rfl (by kernel_rfl) (by kernel_rfl) (by kernel_rfl) (fun _ _ _ h => h) (Or.inr ⟨by rfl, rfl⟩) hA0.out ?_
        try simp only [Act.put, List.setIfInBounds_toArray, List.set_cons_zero, List.set_cons_succ]
        refine wpHd_takeD (i := 14) (d := some 29) (v := undef) rfl rfl (by kernel_rfl) (by kernel_rfl) (by kernel_rfl) (fun _ _ _ h => h) (Or.inr ⟨by rfl, rfl⟩) hA0.out ?_
        try simp only [Act.put, List.setIfInBounds_toArray, List.set_cons_zero, List.set_cons_succ]
        refine wpHd_takeD (i := 15) (d := some 30) (v := undef) rfl rfl (by kernel_rfl) (by kernel_rfl) (by kernel_rfl) (fun _ _ _ h => h) (Or.inr ⟨by rfl, rfl⟩) hA0.out ?_
        try simp only [Act.put, List.setIfInBounds_toArray, List.set_cons_zero, List.set_cons_succ]
        refine wpHd_takeD (i := 16) (d := some 31) (v := undef) rfl rfl (by kernel_rfl) (by kernel_rfl) (by kernel_rfl) (fun _ _ _ h => h) (Or.inr ⟨by rfl, rfl⟩) hA0.out ?_
        try simp only [Act.put, List.setIfInBounds_toArray, List.set_cons_zero, List.set_cons_succ]
        refine wpHd_takeD (i := 17) (d := some 32) (v := undef) rfl rfl (by kernel_rfl) (by kernel_rfl) (by kernel_rfl) (fun _ _ _ h => h) (Or.inr ⟨by rfl, rfl⟩) hA0.out ?_
        try simp only [Act.put, List.setIfInBounds_toArray, List.set_cons_zero, List.set_cons_succ]
        refine wpHd_takeD (i := 18) (d := some 33) (v := undef) rfl rfl (by kernel_rfl) (by kernel_rfl) (by kernel_rfl) (fun _ _ _ h => h) (Or.inr ⟨by rfl, rfl⟩) hA0.out ?_
        try simp only [Act.put, List.setIfInBounds_toArray, List.set_cons_zero, List.set_cons_succ]
        refine wpHd_takeD (i := 19) (d := some 34) (v := undef) rfl rfl (by kernel_rfl) (by kernel_rfl) (by kernel_rfl) (fun _ _ _ h => h) (Or.inr ⟨by rfl, rfl⟩) hA0.out ?_
        try simp only [Act.put, List.setIfInBounds_toArray, List.set_cons_zero, List.set_cons_succ]
        refine wpHd_takeD (i := 20) (d := some 35) (v := undef) rfl rfl (by kernel_rfl) (by kernel_rfl) (by kernel_rfl) (fun _ _ _ h => h) (Or.inr ⟨by rfl, rfl⟩) hA0.out ?_
        try simp only [Act.put, List.setIfInBounds_toArray, List.set_cons_zero, List.set_cons_succ]
        refine wpHd_takeD (i := 21) (d := some 36) (v := undef) rfl rfl (by kernel_rfl) (by kernel_rfl) (by kernel_rfl) (fun _ _ _ h => h) (Or.inr ⟨by rfl, rfl⟩) hA0.out ?_
        try simp only [Act.put, List.setIfInBounds_toArray, List.set_cons_zero, List.set_cons_succ]
        refine wpHd_takeD (i := 22) (d := some 37) (v := undef) rfl rfl (by kernel_rfl) (by kernel_rfl) (by kernel_rfl) (fun _ _ _ h => h) (Or.inr ⟨by rfl, rfl⟩) hA0.out ?_
        try simp only [Act.put, List.setIfInBounds_toArray, List.set_cons_zero, List.set_cons_succ]
        refine wpHd_tail (by kernel_rfl) ?_
        simp only [List.drop_succ_cons, List.drop_zero]
        go_wp2
        go_roundw
        case rel => exact ⟨k + 1, q, by omega, by go_num, by rw [HU.out, HIS.out], Hid.mk' (by rw [HU.out]; exact hq.out), HB0.out.drew, HB1.out.drew, Hid.mk' (by have hE := hE.out; (repeat (with_reducible (first | exact Ext.refl _ | assumption | exact held_left (by assumption) | apply Ext.drewN | apply Ext.drew | apply Ext.alloc | (refine Ext.setCell ?_ (by first | (simp; done) | (simp; omega) | omega) _) | (refine Ext.trans ?_ (by assumption)) | (refine Ext.trans ?_ (held_left (by assumption)))))))⟩
        case measure => simp [intOf]; omega
    · obtain rfl : k = ps.length := by omega
      obtain ⟨is, his⟩ : ∃ is, is = (lastUp ot ps ps.length).isSome := ⟨_, rfl⟩
      rw [← his]
      have HIS := Hid.mk' his
      clear his
      go_wp2
      simp [bodyPost, results, Try.results29, go_sem, *]
      have hE := hE.out
      exact ⟨⟨by rw [← hq.out]; rfl, HIS.out⟩, by (repeat (with_reducible (first | exact Ext.refl _ | assumption | exact held_left (by assumption) | apply Ext.drewN | apply Ext.drew | apply Ext.alloc | (refine Ext.setCell ?_ (by first | (simp; done) | (simp; omega) | omega) _) | (refine Ext.trans ?_ (by assumption)) | (refine Ext.trans ?_ (held_left (by assumption))))))⟩

end Go.Proofs.Ythdjinicmnhgpaa
