/-
The walk of EventTells.
-/
import Derived.Test.YthdjinicmnhgpaaP16
namespace Go.Proofs.Ythdjinicmnhgpaa
open Go.RowKit

/-- An event's rows and refs lie from N on, below M. -/
def EL.fr (n : Nat) (f : K → List Value) (N M : Nat) (W : World) (x : EL) : Prop := x.at n f W ∧ x.on (fun b => N ≤ b ∧ b < M)
section
variable {n : Nat} {f : K → List Value} {N M : Nat} {W W' : World} {x : EL}
theorem EL.fr.new (h : x.at n f W) (k : x.on (fun b => N ≤ b)) : x.fr n f N W.heap.size W := ⟨h, k.and h.lt⟩
theorem EL.fr.left (h : x.fr n f N M W) : x.at n f W := h.1
theorem EL.fr.ext (h : x.fr n f N M W) (he : Ext W W') : x.fr n f N M W' := ⟨h.1.ext he, h.2⟩
theorem EL.fr.alloc (h : x.fr n f N M W) (o : Obj) : x.fr n f N M (W.alloc o) := h.ext ((Ext.refl _).alloc o)
theorem EL.fr.drew (h : x.fr n f N M W) : x.fr n f N M W.drew := h.ext (Ext.refl _).drew
theorem EL.fr.set (h : x.fr n f N M W) {p : Addr} (hp : p.block < N ∨ M ≤ p.block) (u : Value) : x.fr n f N M (W.setCell p u) :=
  ⟨h.1.kp (S := fun b => b = p.block) (Kp.set p u rfl) (h.2.mono (fun b hb e => by omega)), h.2⟩
theorem EL.fr.eight {X : Nat} {v0 v1 v2 v3 v4 v5 v6 v7 : Value} (h : x.fr n f N M W) (hp : X < N ∨ M ≤ X) :
    x.fr n f N M ((((((((W.setCell ⟨X, 0, none⟩ v0).setCell ⟨X, 1, none⟩ v1).setCell ⟨X, 2, none⟩ v2).setCell ⟨X, 3, none⟩ v3).setCell ⟨X, 4, none⟩ v4).setCell ⟨X, 5, none⟩ v5).setCell ⟨X, 6, none⟩ v6).setCell ⟨X, 7, none⟩ v7) := by
  repeat refine EL.fr.set ?_ hp _
  exact h
end
theorem Blk.other8 {W : World} {b X : Nat} {cs : Array Value} {T : TypeId} {v0 v1 v2 v3 v4 v5 v6 v7 : Value} (h : Blk W b cs T) (hn : b ≠ X) :
    Blk ((((((((W.setCell ⟨X, 0, none⟩ v0).setCell ⟨X, 1, none⟩ v1).setCell ⟨X, 2, none⟩ v2).setCell ⟨X, 3, none⟩ v3).setCell ⟨X, 4, none⟩ v4).setCell ⟨X, 5, none⟩ v5).setCell ⟨X, 6, none⟩ v6).setCell ⟨X, 7, none⟩ v7) b cs T := by
  repeat refine Blk.other ?_ _ _ hn
  exact h
theorem Ext.eight {w W : World} {X : Nat} {v0 v1 v2 v3 v4 v5 v6 v7 : Value} (h : Ext w W) (hn : w.heap.size ≤ X) :
    Ext w ((((((((W.setCell ⟨X, 0, none⟩ v0).setCell ⟨X, 1, none⟩ v1).setCell ⟨X, 2, none⟩ v2).setCell ⟨X, 3, none⟩ v3).setCell ⟨X, 4, none⟩ v4).setCell ⟨X, 5, none⟩ v5).setCell ⟨X, 6, none⟩ v6).setCell ⟨X, 7, none⟩ v7) := by
  repeat refine Ext.setCell ?_ hn _
  exact h

theorem usesE_le {e : Ev} (h : e.small) : (usesE e).length ≤ 1000 := by
  unfold usesE
  split
  · simp
  · split
    · exact h.r
    · simp
theorem EL.owned.at {N : Nat} {W : World} {y : EL} (h : y.owned N W) : y.at 5 K.pc W :=
  ⟨Sl.of_owns (base := N) (e := 98) (by rw [List.length_map]; exact h.b) (by intro xs hxs; simp at hxs; obtain ⟨_, _, rfl⟩ := hxs; rfl), Sl.of_owns (base := N) (e := 98) (by rw [List.length_map]; exact h.a) (by intro xs hxs; simp at hxs; obtain ⟨_, _, rfl⟩ := hxs; rfl), Sl.of_owns (base := N) (e := 33) (by rw [List.length_map]; exact h.r) (by intro xs hxs; simp at hxs; obtain ⟨_, _, rfl⟩ := hxs; rfl)⟩
set_option maxRecDepth 100000 in set_option maxHeartbeats 8000000 in
theorem eventtells_law (ps : List RR) (a : Option Addr) (cap : Nat) (x y : EL) (w : World) (hl : RL w (.slice a ps.length cap) ps) (hb : ∀ p ∈ ps, p.r.wb) (hlen : ps.length ≤ 9223372036854775807) (hx : x.at 6 K.rc w) (hz : x.e.sz) (hy : y.at 6 K.rc w) (hzy : y.e.sz) :
    Calls Try.prog 8 #[.slice a ps.length cap, x.agg, y.agg] w fun e w' => e = .returned (.bool true) ∧ Ext w w' := by
  obtain ⟨⟨k1, ao1, av1, old1, b1, a1, r1, fl1⟩, ba1, bc1, aa1, ac1, ra1, rc1⟩ := x
  obtain ⟨⟨k2, ao2, av2, old2, b2, a2, r2, fl2⟩, ba2, bc2, aa2, ac2, ra2, rc2⟩ := y
  have HL := Hid.mk' hl
  have HB := Hid.mk' hb
  have HX := Hid.mk' hx
  have HZ := Hid.mk' hz
  have HY := Hid.mk' hy
  have HZY := Hid.mk' hzy
  have HGR : Hid (Calls Try.prog 33 #[.slice a ps.length cap, .slice (some ⟨w.heap.size + 1 + 1 + 1, 0, none⟩) 1 1] ((((w.alloc (.cells #[.int .u8 k1, .int .u32 ao1, .int .u32 av1, .int .u8 old1, .slice ba1 b1.length bc1, .slice aa1 a1.length ac1, .slice ra1 r1.length rc1, .int .u8 fl1] 73)).alloc (.cells #[.int .u8 k2, .int .u32 ao2, .int .u32 av2, .int .u8 old2, .slice ba2 b2.length bc2, .slice aa2 a2.length ac2, .slice ra2 r2.length rc2, .int .u8 fl2] 73)).alloc (.cells #[.int .u8 k1, .int .u32 ao1, .int .u32 av1, .int .u8 old1, .slice ba1 b1.length bc1, .slice aa1 a1.length ac1, .slice ra1 r1.length rc1, .int .u8 fl1, .int .u8 k2, .int .u32 ao2, .int .u32 av2, .int .u8 old2, .slice ba2 b2.length bc2, .slice aa2 a2.length ac2, .slice ra2 r2.length rc2, .int .u8 fl2] 73)).alloc (.cells #[.int .u32 0, .int .u64 0, .slice (some ⟨w.heap.size + 1 + 1, 0, none⟩) 2 2] 78)) (GreatT ps [⟨0, 0, [(⟨(⟨k1, ao1, av1, old1, b1, a1, r1, fl1⟩ : Ev), ba1, bc1, aa1, ac1, ra1, rc1⟩ : EL), (⟨(⟨k2, ao2, av2, old2, b2, a2, r2, fl2⟩ : Ev), ba2, bc2, aa2, ac2, ra2, rc2⟩ : EL)], some ⟨w.heap.size + 1 + 1, 0, none⟩, 2⟩] ((((w.alloc (.cells #[.int .u8 k1, .int .u32 ao1, .int .u32 av1, .int .u8 old1, .slice ba1 b1.length bc1, .slice aa1 a1.length ac1, .slice ra1 r1.length rc1, .int .u8 fl1] 73)).alloc (.cells #[.int .u8 k2, .int .u32 ao2, .int .u32 av2, .int .u8 old2, .slice ba2 b2.length bc2, .slice aa2 a2.length ac2, .slice ra2 r2.length rc2, .int .u8 fl2] 73)).alloc (.cells #[.int .u8 k1, .int .u32 ao1, .int .u32 av1, .int .u8 old1, .slice ba1 b1.length bc1, .slice aa1 a1.length ac1, .slice ra1 r1.length rc1, .int .u8 fl1, .int .u8 k2, .int .u32 ao2, .int .u32 av2, .int .u8 old2, .slice ba2 b2.length bc2, .slice aa2 a2.length ac2, .slice ra2 r2.length rc2, .int .u8 fl2] 73)).alloc (.cells #[.int .u32 0, .int .u64 0, .slice (some ⟨w.heap.size + 1 + 1, 0, none⟩) 2 2] 78)))) := Hid.mk' (by
    have hE : Ext w ((((w.alloc (.cells #[.int .u8 k1, .int .u32 ao1, .int .u32 av1, .int .u8 old1, .slice ba1 b1.length bc1, .slice aa1 a1.length ac1, .slice ra1 r1.length rc1, .int .u8 fl1] 73)).alloc (.cells #[.int .u8 k2, .int .u32 ao2, .int .u32 av2, .int .u8 old2, .slice ba2 b2.length bc2, .slice aa2 a2.length ac2, .slice ra2 r2.length rc2, .int .u8 fl2] 73)).alloc (.cells #[.int .u8 k1, .int .u32 ao1, .int .u32 av1, .int .u8 old1, .slice ba1 b1.length bc1, .slice aa1 a1.length ac1, .slice ra1 r1.length rc1, .int .u8 fl1, .int .u8 k2, .int .u32 ao2, .int .u32 av2, .int .u8 old2, .slice ba2 b2.length bc2, .slice aa2 a2.length ac2, .slice ra2 r2.length rc2, .int .u8 fl2] 73)).alloc (.cells #[.int .u32 0, .int .u64 0, .slice (some ⟨w.heap.size + 1 + 1, 0, none⟩) 2 2] 78)) := by (repeat (with_reducible (first | exact Ext.refl _ | assumption | exact held_left (by assumption) | apply Ext.drewN | apply Ext.drew | apply Ext.alloc | (refine Ext.setCell ?_ (by first | (simp; done) | (simp; omega) | omega) _) | (refine Ext.trans ?_ (by assumption)) | (refine Ext.trans ?_ (held_left (by assumption))))))
    have h1 := Sl.new (((w.alloc (.cells #[.int .u8 k1, .int .u32 ao1, .int .u32 av1, .int .u8 old1, .slice ba1 b1.length bc1, .slice aa1 a1.length ac1, .slice ra1 r1.length rc1, .int .u8 fl1] 73)).alloc (.cells #[.int .u8 k2, .int .u32 ao2, .int .u32 av2, .int .u8 old2, .slice ba2 b2.length bc2, .slice aa2 a2.length ac2, .slice ra2 r2.length rc2, .int .u8 fl2] 73)).alloc (.cells #[.int .u8 k1, .int .u32 ao1, .int .u32 av1, .int .u8 old1, .slice ba1 b1.length bc1, .slice aa1 a1.length ac1, .slice ra1 r1.length rc1, .int .u8 fl1, .int .u8 k2, .int .u32 ao2, .int .u32 av2, .int .u8 old2, .slice ba2 b2.length bc2, .slice aa2 a2.length ac2, .slice ra2 r2.length rc2, .int .u8 fl2] 73)) #[.int .u32 0, .int .u64 0, .slice (some ⟨w.heap.size + 1 + 1, 0, none⟩) 2 2] 78 3 1 1 (([⟨0, 0, [(⟨(⟨k1, ao1, av1, old1, b1, a1, r1, fl1⟩ : Ev), ba1, bc1, aa1, ac1, ra1, rc1⟩ : EL), (⟨(⟨k2, ao2, av2, old2, b2, a2, r2, fl2⟩ : Ev), ba2, bc2, aa2, ac2, ra2, rc2⟩ : EL)], some ⟨w.heap.size + 1 + 1, 0, none⟩, 2⟩] : List TL).map TL.vals) rfl (by intro xs hxs; simp at hxs; subst hxs; rfl) rfl
    have h2 := Sl.new ((w.alloc (.cells #[.int .u8 k1, .int .u32 ao1, .int .u32 av1, .int .u8 old1, .slice ba1 b1.length bc1, .slice aa1 a1.length ac1, .slice ra1 r1.length rc1, .int .u8 fl1] 73)).alloc (.cells #[.int .u8 k2, .int .u32 ao2, .int .u32 av2, .int .u8 old2, .slice ba2 b2.length bc2, .slice aa2 a2.length ac2, .slice ra2 r2.length rc2, .int .u8 fl2] 73)) #[.int .u8 k1, .int .u32 ao1, .int .u32 av1, .int .u8 old1, .slice ba1 b1.length bc1, .slice aa1 a1.length ac1, .slice ra1 r1.length rc1, .int .u8 fl1, .int .u8 k2, .int .u32 ao2, .int .u32 av2, .int .u8 old2, .slice ba2 b2.length bc2, .slice aa2 a2.length ac2, .slice ra2 r2.length rc2, .int .u8 fl2] 73 8 2 2 (([(⟨(⟨k1, ao1, av1, old1, b1, a1, r1, fl1⟩ : Ev), ba1, bc1, aa1, ac1, ra1, rc1⟩ : EL), (⟨(⟨k2, ao2, av2, old2, b2, a2, r2, fl2⟩ : Ev), ba2, bc2, aa2, ac2, ra2, rc2⟩ : EL)] : List EL).map EL.vals) rfl (EL.len _) rfl
    rw [World.size_alloc, World.size_alloc, World.size_alloc] at h1
    rw [World.size_alloc, World.size_alloc] at h2
    refine greatT_any ps _ a (some ⟨w.heap.size + 1 + 1 + 1, 0, none⟩) cap 1 ((((w.alloc (.cells #[.int .u8 k1, .int .u32 ao1, .int .u32 av1, .int .u8 old1, .slice ba1 b1.length bc1, .slice aa1 a1.length ac1, .slice ra1 r1.length rc1, .int .u8 fl1] 73)).alloc (.cells #[.int .u8 k2, .int .u32 ao2, .int .u32 av2, .int .u8 old2, .slice ba2 b2.length bc2, .slice aa2 a2.length ac2, .slice ra2 r2.length rc2, .int .u8 fl2] 73)).alloc (.cells #[.int .u8 k1, .int .u32 ao1, .int .u32 av1, .int .u8 old1, .slice ba1 b1.length bc1, .slice aa1 a1.length ac1, .slice ra1 r1.length rc1, .int .u8 fl1, .int .u8 k2, .int .u32 ao2, .int .u32 av2, .int .u8 old2, .slice ba2 b2.length bc2, .slice aa2 a2.length ac2, .slice ra2 r2.length rc2, .int .u8 fl2] 73)).alloc (.cells #[.int .u32 0, .int .u64 0, .slice (some ⟨w.heap.size + 1 + 1, 0, none⟩) 2 2] 78)) (hl.ext hE) ⟨h1, fun t ht => ?_⟩ hlen (by simp) hb (fun t ht => ?_)
    · obtain rfl := List.mem_singleton.1 ht
      refine ⟨h2.ext (by (repeat (with_reducible (first | exact Ext.refl _ | assumption | exact held_left (by assumption) | apply Ext.drewN | apply Ext.drew | apply Ext.alloc | (refine Ext.setCell ?_ (by first | (simp; done) | (simp; omega) | omega) _) | (refine Ext.trans ?_ (by assumption)) | (refine Ext.trans ?_ (held_left (by assumption))))))), fun e he => ?_⟩
      simp only [List.mem_cons, List.not_mem_nil, or_false] at he
      rcases he with rfl | rfl
      · exact hx.ext hE
      · exact hy.ext hE
    · obtain rfl := List.mem_singleton.1 ht
      refine ⟨by simp, fun e he => ?_, Int.le_refl 0⟩
      simp only [List.mem_cons, List.not_mem_nil, or_false] at he
      rcases he with rfl | rfl
      · exact hz
      · exact hzy)
  have HRA := Hid.mk' (fun W (h : Ext w W) => rof_any ps a cap W (hl.ext h) hb hlen)
  unfold ROfPost at HRA
  obtain ⟨EA, hEA⟩ : ∃ E, E = ofE (ps.map RR.r) := ⟨_, rfl⟩
  obtain ⟨NA, hNA⟩ : ∃ E, E = ofPl (ps.map RR.r) := ⟨_, rfl⟩
  rw [← hEA, ← hNA] at HRA
  have HEA := Hid.mk' hEA
  have HNA := Hid.mk' hNA
  unfold EL.agg
  simp only
  clear hx hz hy hzy hl hb hEA hNA hlen
  by_cases hA : EA = 0
  case neg =>
    have hA1 : (EA != 0) = true := by simpa using hA
    clear hA
    go_enter Try.func8, Try.ntmps8
    go_upto_region 3 with (go_at_call 33; refine HGR.out.mono ?_; rintro e w1 ⟨g, rfl, -, hb1⟩; have HB1 := Hid.mk' (show Ext w w1 from ((((Ext.refl w).alloc _).alloc _).alloc _).alloc _ |>.trans hb1); clear hb1; cases g)
    all_goals try (go_ret; exact ⟨rfl, HB1.out⟩)
    go_wp2_with (go_at_call 12; refine (HRA.out _ HB1.out).mono ?_; rintro e w4 ⟨aw, cw, n, rfl, -, -, hb4⟩)
    go_ret
    exact ⟨rfl, HB1.out.trans hb4⟩
  subst hA
  go_enter Try.func8, Try.ntmps8
  go_upto_region 3 with (go_at_call 33; refine HGR.out.mono ?_; rintro e w1 ⟨g, rfl, hg, hb1⟩; have HG := Hid.mk' hg; have HB1 := Hid.mk' (show Ext ((w.alloc (.cells #[.int .u8 k1, .int .u32 ao1, .int .u32 av1, .int .u8 old1, .slice ba1 b1.length bc1, .slice aa1 a1.length ac1, .slice ra1 r1.length rc1, .int .u8 fl1] 73)).alloc (.cells #[.int .u8 k2, .int .u32 ao2, .int .u32 av2, .int .u8 old2, .slice ba2 b2.length bc2, .slice aa2 a2.length ac2, .slice ra2 r2.length rc2, .int .u8 fl2] 73)) w1 from (((Ext.refl _).alloc _).alloc _).trans hb1); clear hb1 hg; cases g)
  all_goals try (go_ret; exact ⟨rfl, (((Ext.refl w).alloc _).alloc _).trans HB1.out⟩)
  have HLT := Hid.mk' (HG.out (by first | exact rfl | exact trivial))
  have HE1 : Hid (Ext w w1) := Hid.mk' ((((Ext.refl w).alloc _).alloc _).trans HB1.out)
  have HV1 : Hid (Blk w1 w.heap.size #[.int .u8 k1, .int .u32 ao1, .int .u32 av1, .int .u8 old1, .slice ba1 b1.length bc1, .slice aa1 a1.length ac1, .slice ra1 r1.length rc1, .int .u8 fl1] 73) := Hid.mk' (((Blk.new w #[.int .u8 k1, .int .u32 ao1, .int .u32 av1, .int .u8 old1, .slice ba1 b1.length bc1, .slice aa1 a1.length ac1, .slice ra1 r1.length rc1, .int .u8 fl1] 73).alloc _).ext HB1.out)
  have HV2 : Hid (Blk w1 (w.heap.size + 1) #[.int .u8 k2, .int .u32 ao2, .int .u32 av2, .int .u8 old2, .slice ba2 b2.length bc2, .slice aa2 a2.length ac2, .slice ra2 r2.length rc2, .int .u8 fl2] 73) := Hid.mk' ((Blk.new' (w := w.alloc (.cells #[.int .u8 k1, .int .u32 ao1, .int .u32 av1, .int .u8 old1, .slice ba1 b1.length bc1, .slice aa1 a1.length ac1, .slice ra1 r1.length rc1, .int .u8 fl1] 73)) _ _ (by simp)).ext HB1.out)
  have HOA := Hid.mk' (fun W (h : Ext w W) => own9_any ps a cap W (HL.out.ext h) (by have := HLT.out.n; omega) HB.out)
  have hn70 : ps.length ≤ 1000 := by have := HLT.out.n; omega
  clear HG HB1 HGR
  go_upto_region 9 with (first
    | (go_at_call 12; refine (HRA.out _ HE1.out).mono ?_; rintro e w4 ⟨aw, cw, n, rfl, h1, -, hb4⟩; have HW := Hid.mk' h1; have HX4 := Hid.mk' hb4; have HB4 := Hid.mk' (HE1.out.trans hb4); clear h1 hb4)
    | (go_at_call 13; refine (HOA.out _ HB4.out).mono ?_; rintro e w2 ⟨a2', c2', qs2, rfl, ho2, hb2⟩; have HB2 := Hid.mk' (HB4.out.trans hb2); have HX2 := Hid.mk' (HX4.out.trans hb2); have HXW := Hid.mk' hb2; have HOF := Hid.mk' (cof_any qs2 a2' c2' w2 (by rw [ho2.len]; exact ho2.rl) ho2.cap (ho2.wb HB.out) (by rw [ho2.len]; exact hn70)); rw [ho2.rs, ho2.len] at HOF; unfold COfPost at HOF; rw [← HEA.out, ← HNA.out] at HOF; clear ho2 hb2)
    | (go_at_call 14; refine HOF.out.mono ?_; rintro e w3 ⟨pv, rfl, h1, -, hb3⟩; obtain ⟨rfl, cc, qc, hcc, hqc⟩ := h1 (by first | exact rfl | exact trivial); have HCC := Hid.mk' hcc; have HQC := Hid.mk' hqc; have HB3 := Hid.mk' (HB2.out.trans hb3); have HX3 := Hid.mk' (HX2.out.trans hb3); have HXV := Hid.mk' (HXW.out.trans hb3); clear h1 hcc hqc hb3))
  have HS1 : Hid ((⟨k1, ao1, av1, old1, b1, a1, r1, fl1⟩ : Ev).small) := Hid.mk' (by have h := HLT.out.e _ (List.mem_singleton.2 rfl) (⟨(⟨k1, ao1, av1, old1, b1, a1, r1, fl1⟩ : Ev), ba1, bc1, aa1, ac1, ra1, rc1⟩ : EL) (by simp); exact ⟨by have := h.b; simp only at this ⊢; omega, by have := h.a; simp only at this ⊢; omega, by have := h.r; simp only at this ⊢; omega⟩)
  have HS2 : Hid ((⟨k2, ao2, av2, old2, b2, a2, r2, fl2⟩ : Ev).small) := Hid.mk' (by have h := HLT.out.e _ (List.mem_singleton.2 rfl) (⟨(⟨k2, ao2, av2, old2, b2, a2, r2, fl2⟩ : Ev), ba2, bc2, aa2, ac2, ra2, rc2⟩ : EL) (by simp); exact ⟨by have := h.b; simp only at this ⊢; omega, by have := h.a; simp only at this ⊢; omega, by have := h.r; simp only at this ⊢; omega⟩)
  have HOX := Hid.mk' (fun W (h : Ext w3 W) => eown_el (⟨(⟨k1, ao1, av1, old1, b1, a1, r1, fl1⟩ : Ev), ba1, bc1, aa1, ac1, ra1, rc1⟩ : EL) W (HX.out.ext (HB3.out.trans h)) HS1.out.b HS1.out.a HS1.out.r)
  have HOY := Hid.mk' (fun W (h : Ext w3 W) => eown_el (⟨(⟨k2, ao2, av2, old2, b2, a2, r2, fl2⟩ : Ev), ba2, bc2, aa2, ac2, ra2, rc2⟩ : EL) W (HY.out.ext (HB3.out.trans h)) HS2.out.b HS2.out.a HS2.out.r)
  unfold EL.agg at HOX HOY
  simp only at HOX HOY
  clear HOF HOA HRA hn70 HXW HX2 HB2
  have HV3 := Hid.mk' (HV1.out.ext HX3.out)
  have HV4 := Hid.mk' (HV2.out.ext HX3.out)
  have gx := HV3.out.cell
  have zx := HV3.out.lt
  have gy := HV4.out.cell
  have zy := HV4.out.lt
  go_cut [13, 14] (fun p q wx => ∃ X Y ba3 bc3 aa3 ac3 ra3 rc3 ba4 bc4 aa4 ac4 ra4 rc4, p = .pointer (some ⟨X, 0, none⟩) ∧ q = .pointer (some ⟨Y, 0, none⟩) ∧ Hid (Blk wx X #[.int .u8 k1, .int .u32 ao1, .int .u32 av1, .int .u8 old1, .slice ba3 b1.length bc3, .slice aa3 a1.length ac3, .slice ra3 r1.length rc3, .int .u8 fl1] 83) ∧ Hid (Blk wx Y #[.int .u8 k2, .int .u32 ao2, .int .u32 av2, .int .u8 old2, .slice ba4 b2.length bc4, .slice aa4 a2.length ac4, .slice ra4 r2.length rc4, .int .u8 fl2] 83) ∧ Hid ((⟨(⟨k1, ao1, av1, old1, b1, a1, r1, fl1⟩ : Ev), ba3, bc3, aa3, ac3, ra3, rc3⟩ : EL).at 5 K.pc wx) ∧ Hid ((⟨(⟨k2, ao2, av2, old2, b2, a2, r2, fl2⟩ : Ev), ba4, bc4, aa4, ac4, ra4, rc4⟩ : EL).at 5 K.pc wx) ∧ Hid (Ext w3 wx))
  case first =>
    go_region_held3 (fun w' => Ext (w3) w' ∧ (∀ b o, b < (w3).heap.size → w'.cell? ⟨b, o, none⟩ = (w3).cell? ⟨b, o, none⟩) ∧ (∀ b o, b < (w3).heap.size → w'.frozen? ⟨b, o, none⟩ = (w3).frozen? ⟨b, o, none⟩)) ((exact held_of (by (repeat (with_reducible (first | exact Ext.refl _ | assumption | exact held_left (by assumption) | apply Ext.drewN | apply Ext.drew | apply Ext.alloc | (refine Ext.setCell ?_ (by first | (simp; done) | (simp; omega) | omega) _) | (refine Ext.trans ?_ (by assumption)) | (refine Ext.trans ?_ (held_left (by assumption)))))))))
      (first
        | (go_at_call_of 34 (Value.agg #[.int .u8 k1, .int .u32 ao1, .int .u32 av1, .int .u8 old1, .slice ba1 b1.length bc1, .slice aa1 a1.length ac1, .slice ra1 r1.length rc1, .int .u8 fl1]); (with_reducible refine (HOX.out _ (by (repeat (with_reducible (first | exact Ext.refl _ | assumption | exact held_left (by assumption) | apply Ext.drewN | apply Ext.drew | apply Ext.alloc | (refine Ext.setCell ?_ (by first | (simp; done) | (simp; omega) | omega) _) | (refine Ext.trans ?_ (by assumption)) | (refine Ext.trans ?_ (held_left (by assumption)))))))).mono ?_); rintro e w4 ⟨⟨ye, ba3, bc3, aa3, ac3, ra3, rc3⟩, rfl, hye, hat, hon, hb4⟩; simp only at hye; subst hye; (obtain ⟨N4, hN4, hon2⟩ : ∃ n, n = _ ∧ EL.on (fun b => n ≤ b) _ := ⟨_, rfl, hon⟩); (try simp at hN4); have H4 := Hid.mk' (EL.fr.new hat hon2); clear hon2; obtain ⟨hc4, hf4⟩ := hb4.cells; have hz4 := hb4.size; (try simp at hz4); (have q4 : w3.heap.size ≤ w4.heap.size := (by omega)); (try have p4 : w3.heap.size < w4.heap.size := (by omega)); (try have p4' : w3.heap.size + 1 < w4.heap.size := (by omega)); clear hat hon; (try simp only))
        | (go_at_call_of 34 (Value.agg #[.int .u8 k2, .int .u32 ao2, .int .u32 av2, .int .u8 old2, .slice ba2 b2.length bc2, .slice aa2 a2.length ac2, .slice ra2 r2.length rc2, .int .u8 fl2]); (with_reducible refine (HOY.out _ (by (repeat (with_reducible (first | exact Ext.refl _ | assumption | exact held_left (by assumption) | apply Ext.drewN | apply Ext.drew | apply Ext.alloc | (refine Ext.setCell ?_ (by first | (simp; done) | (simp; omega) | omega) _) | (refine Ext.trans ?_ (by assumption)) | (refine Ext.trans ?_ (held_left (by assumption)))))))).mono ?_); rintro e w5 ⟨⟨ye, ba4, bc4, aa4, ac4, ra4, rc4⟩, rfl, hye, hat, hon, hb5⟩; simp only at hye; subst hye; (obtain ⟨N5, hN5, hon2⟩ : ∃ n, n = _ ∧ EL.on (fun b => n ≤ b) _ := ⟨_, rfl, hon⟩); (try simp at hN5); have H5 := Hid.mk' (EL.fr.new hat hon2); clear hon2; obtain ⟨hc5, hf5⟩ := hb5.cells; have hz5 := hb5.size; (try simp at hz5); (try have q45 : w4.heap.size < w5.heap.size := (by omega)); (try have q45' : w4.heap.size + 1 < w5.heap.size := (by omega)); (try have q5 : w3.heap.size < w5.heap.size := (by omega)); (try have q5' : w3.heap.size + 1 < w5.heap.size := (by omega)); clear hat hon; (try simp only)))
    all_goals
      go_wp2
      go_meet
      case rel =>
        clear gx gy zx zy HOX HOY HL HB HX HZ HY HZY
        have hx4 : Ext w3 w4 := by (repeat (with_reducible (first | exact Ext.refl _ | assumption | exact held_left (by assumption) | apply Ext.drewN | apply Ext.drew | apply Ext.alloc | (refine Ext.setCell ?_ (by first | (simp; done) | (simp; omega) | omega) _) | (refine Ext.trans ?_ (by assumption)) | (refine Ext.trans ?_ (held_left (by assumption))))))
        have hx5 : Ext w3 w5 := by (repeat (with_reducible (first | exact Ext.refl _ | assumption | exact held_left (by assumption) | apply Ext.drewN | apply Ext.drew | apply Ext.alloc | (refine Ext.setCell ?_ (by first | (simp; done) | (simp; omega) | omega) _) | (refine Ext.trans ?_ (by assumption)) | (refine Ext.trans ?_ (held_left (by assumption))))))
        clear hc4 hf4 hc5 hf5
        refine ⟨_, _, ba3, bc3, aa3, ac3, ra3, rc3, ba4, bc4, aa4, ac4, ra4, rc4, rfl, rfl, Hid.mk' ?_, Hid.mk' ?_, Hid.mk' (EL.fr.left (N := N4) (M := w4.heap.size) ?f3), Hid.mk' (EL.fr.left (N := N5) (M := w5.heap.size) ?f4), Hid.mk' ?_⟩
        · repeat (with_reducible (first | exact Blk.new _ _ _ | (refine Blk.new' _ _ ?_; (simp; done)) | apply Blk.eight | (refine Blk.other8 ?_ (by first | omega | (simp; omega))) | refine Blk.alloc ?_ _ | refine Blk.drew ?_ | refine Blk.ext ?_ hb5 | refine Blk.ext ?_ hb4))
        · repeat (with_reducible (first | exact Blk.new _ _ _ | (refine Blk.new' _ _ ?_; (simp; done)) | apply Blk.eight | (refine Blk.other8 ?_ (by first | omega | (simp; omega))) | refine Blk.alloc ?_ _ | refine Blk.drew ?_ | refine Blk.ext ?_ hb5 | refine Blk.ext ?_ hb4))
        case f3 => repeat (with_reducible (first | exact H4.out | (refine EL.fr.eight ?_ (by first | omega | (simp; omega))) | refine EL.fr.alloc ?_ _ | refine EL.fr.drew ?_ | refine EL.fr.ext ?_ hb5))
        case f4 => repeat (with_reducible (first | exact H5.out | (refine EL.fr.eight ?_ (by first | omega | (simp; omega))) | refine EL.fr.alloc ?_ _ | refine EL.fr.drew ?_ | refine EL.fr.ext ?_ hb5))
        · repeat (with_reducible (first | exact hx5 | (refine Ext.eight ?_ (by first | omega | (simp; omega))) | refine Ext.alloc ?_ _ | refine Ext.drew ?_))
  case rest =>
    obtain ⟨X, Y, ba3, bc3, aa3, ac3, ra3, rc3, ba4, bc4, aa4, ac4, ra4, rc4, rfl, rfl, HBX, HBY, HAX, HAY, HEX⟩ := hcut
    clear gx gy zx zy HOX HOY
    have HEw := Hid.mk' (HB3.out.trans HEX.out)
    have HC1 := Hid.mk' (HV3.out.ext HEX.out)
    have HC2 := Hid.mk' (HV4.out.ext HEX.out)
    have HCA := Hid.mk' (HCC.out.ext HEX.out)
    have HUW : Hid (n = (upP ps ps.length).length ∧ RL wc (.slice aw n cw) (upP ps ps.length)) := Hid.mk' (by have h := HW.out (by first | exact rfl | exact trivial); exact ⟨h.1, h.2.ext (HXV.out.trans HEX.out)⟩)
    obtain ⟨U, hU⟩ : ∃ U, U = upP ps ps.length := ⟨_, rfl⟩
    have hUr : U.map RR.r = qc.map RR.r := by rw [hU, upP_r, HQC.out, List.length_map]
    have hUb : ∀ p ∈ U, p.r.wb := fun p hp => HB.out p (upP_mem (by rw [← hU]; exact hp))
    rw [← hU] at HUW
    obtain ⟨hn, hrl⟩ := HUW.out
    subst hn
    have HWK : Hid ((⟨k1, ao1, av1, old1, b1, a1, r1, fl1⟩ : Ev).wk) := Hid.mk' ⟨HZ.out.sb, HZ.out.sa, HZ.out.old.1⟩
    have HRP := Hid.mk' (fun W (h : Ext wc W) => eright_any (⟨(⟨k1, ao1, av1, old1, b1, a1, r1, fl1⟩ : Ev), ba3, bc3, aa3, ac3, ra3, rc3⟩ : EL) _ _ cc qc W (HAX.out.ext h) HS1.out HWK.out (HCA.out.ext h))
    have HRR := Hid.mk' (fun W (h : Ext wc W) => reright_any (⟨(⟨k1, ao1, av1, old1, b1, a1, r1, fl1⟩ : Ev), ba1, bc1, aa1, ac1, ra1, rc1⟩ : EL) U aw cw W (HX.out.ext (HEw.out.trans h)) HS1.out HWK.out (hrl.ext h) ⟨by rw [hUr]; exact HCA.out.ok, hUb⟩)
    rw [hUr] at HRR
    have HUP := Hid.mk' (fun W (h : Ext wc W) => euses_any (⟨(⟨k1, ao1, av1, old1, b1, a1, r1, fl1⟩ : Ev), ba3, bc3, aa3, ac3, ra3, rc3⟩ : EL) W (HAX.out.ext h) HS1.out)
    have HUR := Hid.mk' (fun W (h : Ext wc W) => reuses_any (⟨(⟨k1, ao1, av1, old1, b1, a1, r1, fl1⟩ : Ev), ba1, bc1, aa1, ac1, ra1, rc1⟩ : EL) W (HX.out.ext (HEw.out.trans h)))
    have HAL := Hid.mk' (fun W (h : Ext wc W) => ealike_any (⟨(⟨k1, ao1, av1, old1, b1, a1, r1, fl1⟩ : Ev), ba3, bc3, aa3, ac3, ra3, rc3⟩ : EL) (⟨(⟨k2, ao2, av2, old2, b2, a2, r2, fl2⟩ : Ev), ba4, bc4, aa4, ac4, ra4, rc4⟩ : EL) W (HAX.out.ext h) (HAY.out.ext h) HS1.out HS2.out)
    have HSM := Hid.mk' (fun W (h : Ext wc W) => esame_any (⟨(⟨k1, ao1, av1, old1, b1, a1, r1, fl1⟩ : Ev), ba1, bc1, aa1, ac1, ra1, rc1⟩ : EL) (⟨(⟨k2, ao2, av2, old2, b2, a2, r2, fl2⟩ : Ev), ba2, bc2, aa2, ac2, ra2, rc2⟩ : EL) W (HX.out.ext (HEw.out.trans h)) (HY.out.ext (HEw.out.trans h)) HS1.out HS2.out)
    have HCP := Hid.mk' (fun W (h : Ext wc W) => ecopy_any (⟨(⟨k1, ao1, av1, old1, b1, a1, r1, fl1⟩ : Ev), ba3, bc3, aa3, ac3, ra3, rc3⟩ : EL) W (HAX.out.ext h) HS1.out)
    unfold EL.agg at HRP HRR HUP HUR HAL HSM HCP
    simp only at HRP HRR HUP HUR HAL HSM HCP
    generalize evE (⟨k1, ao1, av1, old1, b1, a1, r1, fl1⟩ : Ev) (qc.map RR.r) = R at HRP HRR
    generalize evB (⟨k1, ao1, av1, old1, b1, a1, r1, fl1⟩ : Ev) (⟨k2, ao2, av2, old2, b2, a2, r2, fl2⟩ : Ev) = B at HAL HSM
    clear hU hUr hUb hrl HUW HCC HQC HV1 HV2 HV3 HV4 HW HLT HB HL
    have gx := HC1.out.cell
    have zx := HC1.out.lt
    have gy := HC2.out.cell
    have zy := HC2.out.lt
    have hX := HBX.out.cell
    have zX := HBX.out.lt
    have hY := HBY.out.cell
    have zY := HBY.out.lt
    go_wp2
    go_region_held3 (fun w' => Ext (wc) w' ∧ (∀ b o, b < (wc).heap.size → w'.cell? ⟨b, o, none⟩ = (wc).cell? ⟨b, o, none⟩) ∧ (∀ b o, b < (wc).heap.size → w'.frozen? ⟨b, o, none⟩ = (wc).frozen? ⟨b, o, none⟩)) ((exact held_of (by (repeat (with_reducible (first | exact Ext.refl _ | assumption | exact held_left (by assumption) | apply Ext.drewN | apply Ext.drew | apply Ext.alloc | (refine Ext.setCell ?_ (by first | (simp; done) | (simp; omega) | omega) _) | (refine Ext.trans ?_ (by assumption)) | (refine Ext.trans ?_ (held_left (by assumption)))))))))
      (first
        | (go_at_call 35; refine (HUP.out _ (by (repeat (with_reducible (first | exact Ext.refl _ | assumption | exact held_left (by assumption) | apply Ext.drewN | apply Ext.drew | apply Ext.alloc | (refine Ext.setCell ?_ (by first | (simp; done) | (simp; omega) | omega) _) | (refine Ext.trans ?_ (by assumption)) | (refine Ext.trans ?_ (held_left (by assumption)))))))).mono ?_; rintro e w5 ⟨ua, un, uc, rfl, hun, hou, hb5⟩; have H5 := Hid.mk' hou; have HN5 := Hid.mk' hun; clear hou hun)
        | (go_at_call 36; refine (HUR.out _ (by (repeat (with_reducible (first | exact Ext.refl _ | assumption | exact held_left (by assumption) | apply Ext.drewN | apply Ext.drew | apply Ext.alloc | (refine Ext.setCell ?_ (by first | (simp; done) | (simp; omega) | omega) _) | (refine Ext.trans ?_ (by assumption)) | (refine Ext.trans ?_ (held_left (by assumption)))))))).mono ?_; rintro e w6 ⟨va, vn, vc, rfl, hvn, hov, hb6⟩; have H6 := Hid.mk' hov; have HN6 := Hid.mk' hvn; clear hov hvn))
    obtain rfl : un = (usesE (⟨k1, ao1, av1, old1, b1, a1, r1, fl1⟩ : Ev)).length := HN5.out
    obtain rfl : vn = (usesE (⟨k1, ao1, av1, old1, b1, a1, r1, fl1⟩ : Ev)).length := HN6.out
    have hw56 : Ext wc w6 := by (repeat (with_reducible (first | exact Ext.refl _ | assumption | exact held_left (by assumption) | apply Ext.drewN | apply Ext.drew | apply Ext.alloc | (refine Ext.setCell ?_ (by first | (simp; done) | (simp; omega) | omega) _) | (refine Ext.trans ?_ (by assumption)) | (refine Ext.trans ?_ (held_left (by assumption))))))
    have HW6 := Hid.mk' hw56
    have HO5 := Hid.mk' (Sl.of_owns (base := _) (e := _) (xss := (usesE (⟨k1, ao1, av1, old1, b1, a1, r1, fl1⟩ : Ev)).map Rf.cells) (by rw [List.length_map]; exact H5.out) (by intro xs hxs; simp at hxs; obtain ⟨_, _, rfl⟩ := hxs; rfl))
    have HU5 := Hid.mk' (HO5.out.ext hb6)
    obtain ⟨us, hus⟩ : ∃ us, us = usesE (⟨k1, ao1, av1, old1, b1, a1, r1, fl1⟩ : Ev) := ⟨_, rfl⟩
    have hul : us.length ≤ 1000 := by rw [hus]; exact usesE_le HS1.out
    rw [← hus] at HU5 H6 ⊢
    have gx := (HC1.out.ext hw56).cell
    have zx := (HC1.out.ext hw56).lt
    have gy := (HC2.out.ext hw56).cell
    have zy := (HC2.out.ext hw56).lt
    have hX := (HBX.out.ext hw56).cell
    have zX := (HBX.out.ext hw56).lt
    have hY := (HBY.out.ext hw56).cell
    have zY := (HBY.out.ext hw56).lt
    clear hus HO5 H5 HN5 HN6 HUP HUR hb5 hb6 hw56
    go_wp2
    go_region_held3 (fun w' => Ext (w6) w' ∧ (∀ b o, b < (w6).heap.size → w'.cell? ⟨b, o, none⟩ = (w6).cell? ⟨b, o, none⟩) ∧ (∀ b o, b < (w6).heap.size → w'.frozen? ⟨b, o, none⟩ = (w6).frozen? ⟨b, o, none⟩)) ((exact held_of (by (repeat (with_reducible (first | exact Ext.refl _ | assumption | exact held_left (by assumption) | apply Ext.drewN | apply Ext.drew | apply Ext.alloc | (refine Ext.setCell ?_ (by first | (simp; done) | (simp; omega) | omega) _) | (refine Ext.trans ?_ (by assumption)) | (refine Ext.trans ?_ (held_left (by assumption)))))))))
      (first
        | (go_at_call 37; refine (HRP.out _ (by have := HW6.out; (repeat (with_reducible (first | exact Ext.refl _ | assumption | exact held_left (by assumption) | apply Ext.drewN | apply Ext.drew | apply Ext.alloc | (refine Ext.setCell ?_ (by first | (simp; done) | (simp; omega) | omega) _) | (refine Ext.trans ?_ (by assumption)) | (refine Ext.trans ?_ (held_left (by assumption)))))))).mono ?_; rintro e w7 ⟨rfl, hb7⟩)
        | (go_at_call 38; refine (HRR.out _ (by have := HW6.out; (repeat (with_reducible (first | exact Ext.refl _ | assumption | exact held_left (by assumption) | apply Ext.drewN | apply Ext.drew | apply Ext.alloc | (refine Ext.setCell ?_ (by first | (simp; done) | (simp; omega) | omega) _) | (refine Ext.trans ?_ (by assumption)) | (refine Ext.trans ?_ (held_left (by assumption)))))))).mono ?_; rintro e w8 ⟨rfl, hb8⟩)
        | (go_at_call 39; refine (HAL.out _ (by have := HW6.out; (repeat (with_reducible (first | exact Ext.refl _ | assumption | exact held_left (by assumption) | apply Ext.drewN | apply Ext.drew | apply Ext.alloc | (refine Ext.setCell ?_ (by first | (simp; done) | (simp; omega) | omega) _) | (refine Ext.trans ?_ (by assumption)) | (refine Ext.trans ?_ (held_left (by assumption)))))))).mono ?_; rintro e w9 ⟨rfl, hb9⟩)
        | (go_at_call_of 40 (Value.agg #[.int .u8 k1, .int .u32 ao1, .int .u32 av1, .int .u8 old1, .slice ba1 b1.length bc1, .slice aa1 a1.length ac1, .slice ra1 r1.length rc1, .int .u8 fl1]); (with_reducible refine (HSM.out _ (by have := HW6.out; (repeat (with_reducible (first | exact Ext.refl _ | assumption | exact held_left (by assumption) | apply Ext.drewN | apply Ext.drew | apply Ext.alloc | (refine Ext.setCell ?_ (by first | (simp; done) | (simp; omega) | omega) _) | (refine Ext.trans ?_ (by assumption)) | (refine Ext.trans ?_ (held_left (by assumption)))))))).mono ?_); rintro e w10 ⟨rfl, hb10⟩)
        | (go_at_call 42; refine (HCP.out _ (by have := HW6.out; (repeat (with_reducible (first | exact Ext.refl _ | assumption | exact held_left (by assumption) | apply Ext.drewN | apply Ext.drew | apply Ext.alloc | (refine Ext.setCell ?_ (by first | (simp; done) | (simp; omega) | omega) _) | (refine Ext.trans ?_ (by assumption)) | (refine Ext.trans ?_ (held_left (by assumption)))))))).mono ?_; rintro e w11 ⟨⟨ye, ba5, bc5, aa5, ac5, ra5, rc5⟩, rfl, hye, hat5, hb11⟩; simp only at hye; subst hye; have H11 := Hid.mk' hat5.at; clear hat5; (try simp only))
        | (go_at_call 41; refine (eback_el ⟨(⟨k1, ao1, av1, old1, b1, a1, r1, fl1⟩ : Ev), ba5, bc5, aa5, ac5, ra5, rc5⟩ _ (H11.out.ext (by (repeat (with_reducible (first | exact Ext.refl _ | assumption | exact held_left (by assumption) | apply Ext.drewN | apply Ext.drew | apply Ext.alloc | (refine Ext.setCell ?_ (by first | (simp; done) | (simp; omega) | omega) _) | (refine Ext.trans ?_ (by assumption)) | (refine Ext.trans ?_ (held_left (by assumption)))))))) HS1.out.b HS1.out.a HS1.out.r).mono ?_; rintro e w12 ⟨⟨ye, ba6, bc6, aa6, ac6, ra6, rc6⟩, rfl, hye, hat6, -, hb12⟩; simp only at hye; subst hye; have H12 := Hid.mk' hat6; clear hat6; (try simp only))
        | (go_at_call 40; refine (esame_any ⟨(⟨k1, ao1, av1, old1, b1, a1, r1, fl1⟩ : Ev), ba6, bc6, aa6, ac6, ra6, rc6⟩ (⟨(⟨k1, ao1, av1, old1, b1, a1, r1, fl1⟩ : Ev), ba1, bc1, aa1, ac1, ra1, rc1⟩ : EL) _ (H12.out.ext (by (repeat (with_reducible (first | exact Ext.refl _ | assumption | exact held_left (by assumption) | apply Ext.drewN | apply Ext.drew | apply Ext.alloc | (refine Ext.setCell ?_ (by first | (simp; done) | (simp; omega) | omega) _) | (refine Ext.trans ?_ (by assumption)) | (refine Ext.trans ?_ (held_left (by assumption)))))))) (HX.out.ext (HEw.out.trans (by have := HW6.out; (repeat (with_reducible (first | exact Ext.refl _ | assumption | exact held_left (by assumption) | apply Ext.drewN | apply Ext.drew | apply Ext.alloc | (refine Ext.setCell ?_ (by first | (simp; done) | (simp; omega) | omega) _) | (refine Ext.trans ?_ (by assumption)) | (refine Ext.trans ?_ (held_left (by assumption))))))))) HS1.out HS1.out).mono ?_; rw [evB_true.2 rfl]; rintro e w13 ⟨rfl, hb13⟩))
    have HE13 : Hid (Ext w6 w13) := Hid.mk' (by (repeat (with_reducible (first | exact Ext.refl _ | assumption | exact held_left (by assumption) | apply Ext.drewN | apply Ext.drew | apply Ext.alloc | (refine Ext.setCell ?_ (by first | (simp; done) | (simp; omega) | omega) _) | (refine Ext.trans ?_ (by assumption)) | (refine Ext.trans ?_ (held_left (by assumption)))))))
    have HWW : Hid (Ext w w6) := Hid.mk' (HEw.out.trans HW6.out)
    clear gx zx gy zy hX zX hY zY hb7 hb8 hb9 hb10 hb11 hb12 hb13 HRP HRR HAL HSM HCP H11 H12 HBX HBY HAX HAY HC1 HC2 HCA HX HY HZ HZY
    go_wp2
    go_loopw [17] (fun i wr => ∃ k : Nat, k ≤ us.length ∧ i = .int .i64 k ∧ Hid (Ext w6 wr)) (fun i _ => us.length - (intOf i).toNat)
    case atStart => exact ⟨0, Nat.zero_le _, rfl, HE13⟩
    case round =>
      obtain ⟨k, hk, rfl, hE⟩ := hrel
      by_cases hlt : k < us.length
      · obtain ⟨o1, p1, rfl, hb1, hx1⟩ := HU5.out.at_ (i := k) (by simpa using hlt)
        obtain ⟨f0, f1⟩ := Rf.at_ hlt hx1 hb1 hE.out
        obtain ⟨o2, p2, rfl, hb2, hx2⟩ := H6.out.at_ (i := k) (by simpa using hlt)
        obtain ⟨s0, s1⟩ := Rf.at_ hlt hx2 hb2 hE.out
        have hbw1 : o1 < wr.heap.size := Nat.lt_of_lt_of_le hb1 hE.out.size
        have hbw2 : o2 < wr.heap.size := Nat.lt_of_lt_of_le hb2 hE.out.size
        have HRF := Hid.mk' (fun W => ref9_any us[k].o us[k].v W)
        have hNq := fun W => neq_pref us[k].o us[k].v us[k].o us[k].v W
        rw [rfB_true.2 rfl] at hNq
        clear hx1 hx2
        go_wp2
        go_region_held3 (fun w' => Ext (wr) w' ∧ (∀ b o, b < (wr).heap.size → w'.cell? ⟨b, o, none⟩ = (wr).cell? ⟨b, o, none⟩) ∧ (∀ b o, b < (wr).heap.size → w'.frozen? ⟨b, o, none⟩ = (wr).frozen? ⟨b, o, none⟩)) ((exact held_of (by (repeat (with_reducible (first | exact Ext.refl _ | assumption | exact held_left (by assumption) | apply Ext.drewN | apply Ext.drew | apply Ext.alloc | (refine Ext.setCell ?_ (by first | (simp; done) | (simp; omega) | omega) _) | (refine Ext.trans ?_ (by assumption)) | (refine Ext.trans ?_ (held_left (by assumption))))))))) ((go_at_call 21; refine (HRF.out _).mono ?_; rintro e w14 ⟨rfl, hb14⟩))
        go_wp2
        go_roundw
        case rel => exact ⟨k + 1, by omega, by go_num, Hid.mk' (hE.out.trans (by (repeat (with_reducible (first | exact Ext.refl _ | assumption | exact held_left (by assumption) | apply Ext.drewN | apply Ext.drew | apply Ext.alloc | (refine Ext.setCell ?_ (by first | (simp; done) | (simp; omega) | omega) _) | (refine Ext.trans ?_ (by assumption)) | (refine Ext.trans ?_ (held_left (by assumption))))))))⟩
        case measure => simp [intOf]; omega
      · obtain rfl : k = us.length := by omega
        go_wp2_with (go_at_call 43; refine (awake13_any _).mono ?_; rintro e w15 ⟨rfl, hb15⟩)
        go_ret
        exact ⟨rfl, HWW.out.trans (hE.out.trans hb15)⟩

end Go.Proofs.Ythdjinicmnhgpaa
