/-
The walk of EventOwn.
-/
import Derived.Test.YthdjinicmnhgpaaP16
namespace Go.Proofs.Ythdjinicmnhgpaa
open Go.RowKit

/-- A row that may be written: n elements of k cells. -/
def Wr (W : World) (a : Option Addr) (n k : Nat) (T : TypeId) : Prop := n = 0 ∨ ∃ g cs, a = some ⟨g, 0, none⟩ ∧ Blk W g cs T ∧ n * k ≤ cs.size
theorem Wr.of_owns {W : World} {N n c m k : Nat} {T : TypeId} {a : Option Addr} {xs : List Value} (h : W.ownsRow N T k (.slice a n c) m xs) (hl : xs.length = n * k) : Wr W a n k T := by
  rcases h.2 with ⟨hv, h0⟩ | ⟨g, cap, cur, hv, hg, hh, hr⟩
  · simp only [Value.slice.injEq] at hv; exact .inl hv.2.1
  · simp only [Value.slice.injEq] at hv
    refine .inr ⟨g, cur, hv.1, hh, ?_⟩
    obtain ⟨h1, h2, h3, h4⟩ := hr
    have := congrArg List.length h4
    simp at this
    omega
theorem Wr.set {W : World} {a : Option Addr} {n k : Nat} {T : TypeId} (h : Wr W a n k T) (p : Addr) (u : Value) (hp : p.spot = none) : Wr (W.setCell p u) a n k T := by
  rcases h with h | ⟨g, cs, e, hb, hs⟩
  · exact .inl h
  · obtain ⟨pb, po, ps⟩ := p
    simp only at hp
    subst hp
    by_cases hg : g = pb
    · subst hg; exact .inr ⟨g, _, e, hb.set po u, by simpa using hs⟩
    · exact .inr ⟨g, cs, e, hb.other _ u hg, hs⟩
theorem Wr.ext {W W' : World} {a : Option Addr} {n k : Nat} {T : TypeId} (h : Wr W a n k T) (he : Ext W W') : Wr W' a n k T := by
  rcases h with h | ⟨g, cs, e, hb, hs⟩
  · exact .inl h
  · exact .inr ⟨g, cs, e, hb.ext he, hs⟩
theorem Wr.at_ {W : World} {a : Option Addr} {n k : Nat} {T : TypeId} (h : Wr W a n k T) {i : Nat} (hi : i < n) {j : Nat} (hj : j < k) : ∃ g u, a = some ⟨g, 0, none⟩ ∧ g < W.heap.size ∧ W.cell? ⟨g, i * k + j, none⟩ = some u ∧ W.frozen? ⟨g, i * k + j, none⟩ = false ∧ ∃ cs, Blk W g cs T := by
  rcases h with h | ⟨g, cs, e, hb, hs⟩
  · omega
  · have hlt : i * k + j < cs.size := by
      have h1 : (i + 1) * k ≤ n * k := Nat.mul_le_mul_right _ hi
      rw [Nat.succ_mul] at h1; omega
    exact ⟨g, cs[i * k + j], e, hb.lt, by rw [hb.cell, Array.getElem?_eq_getElem hlt], hb.frozen _, cs, hb⟩
theorem Blk.ne {W : World} {X g : Nat} {cs ds : Array Value} {S T : TypeId} (h : Blk W X cs S) (k : Blk W g ds T) (hn : S ≠ T) : X ≠ g := by
  rintro rfl
  unfold Blk at h k
  rw [h] at k
  injection k with k
  injection k with _ k
  exact hn k

theorem usesE_len {e : Ev} (h : e.small) : (usesE e).length ≤ 1000 := by
  unfold usesE
  split
  · simp
  · split
    · exact h.r
    · simp
/-- What stands while the copy is written. -/
structure OwI (w3 : World) (N X : Nat) (vals : Array Value) (ba aa ra ua : Option Addr) (nb na nr nu : Nat) (W : World) : Prop where
  blk : Blk W X vals 83
  b : Wr W ba nb 5 98
  a : Wr W aa na 5 98
  r : Wr W ra nr 2 33
  u : Wr W ua nu 2 33
  ge : ∀ g o, (ba = some ⟨g, o, none⟩ ∨ aa = some ⟨g, o, none⟩ ∨ ra = some ⟨g, o, none⟩ ∨ ua = some ⟨g, o, none⟩) → N ≤ g
  ext : Ext w3 W
theorem OwI.set {w3 : World} {N X : Nat} {vals : Array Value} {ba aa ra ua : Option Addr} {nb na nr nu : Nat} {W : World} (h : OwI w3 N X vals ba aa ra ua nb na nr nu W) {g o : Nat} {cs : Array Value} {T : TypeId} (hb : Blk W g cs T) (hT : 83 ≠ T) (hg : w3.heap.size ≤ g) (u : Value) : OwI w3 N X vals ba aa ra ua nb na nr nu (W.setCell ⟨g, o, none⟩ u) :=
  ⟨h.blk.other _ u (h.blk.ne hb hT), h.b.set _ u rfl, h.a.set _ u rfl, h.r.set _ u rfl, h.u.set _ u rfl, h.ge, h.ext.setCell hg u⟩

set_option maxRecDepth 100000 in set_option maxHeartbeats 4000000 in
theorem eventown_law (x : EL) (w : World) (hx : x.at 6 K.rc w) (hz : x.e.sz) : Calls Try.prog 9 #[x.agg] w fun e w' => e = .returned (.bool true) ∧ Ext w w' := by
  obtain ⟨⟨k1, ao1, av1, old1, b1, a1, r1, fl1⟩, ba1, bc1, aa1, ac1, ra1, rc1⟩ := x
  have HX := Hid.mk' hx
  have HZ := Hid.mk' hz
  have HGR : Hid (Calls Try.prog 33 #[.slice none 0 0, .slice (some ⟨w.heap.size + 1 + 1, 0, none⟩) 1 1] (((w.alloc (.cells #[.int .u8 k1, .int .u32 ao1, .int .u32 av1, .int .u8 old1, .slice ba1 b1.length bc1, .slice aa1 a1.length ac1, .slice ra1 r1.length rc1, .int .u8 fl1] 73)).alloc (.cells #[.int .u8 k1, .int .u32 ao1, .int .u32 av1, .int .u8 old1, .slice ba1 b1.length bc1, .slice aa1 a1.length ac1, .slice ra1 r1.length rc1, .int .u8 fl1] 73)).alloc (.cells #[.int .u32 0, .int .u64 0, .slice (some ⟨w.heap.size + 1, 0, none⟩) 1 1] 78)) (GreatT [] [⟨0, 0, [⟨(⟨k1, ao1, av1, old1, b1, a1, r1, fl1⟩ : Ev), ba1, bc1, aa1, ac1, ra1, rc1⟩], some ⟨w.heap.size + 1, 0, none⟩, 1⟩] (((w.alloc (.cells #[.int .u8 k1, .int .u32 ao1, .int .u32 av1, .int .u8 old1, .slice ba1 b1.length bc1, .slice aa1 a1.length ac1, .slice ra1 r1.length rc1, .int .u8 fl1] 73)).alloc (.cells #[.int .u8 k1, .int .u32 ao1, .int .u32 av1, .int .u8 old1, .slice ba1 b1.length bc1, .slice aa1 a1.length ac1, .slice ra1 r1.length rc1, .int .u8 fl1] 73)).alloc (.cells #[.int .u32 0, .int .u64 0, .slice (some ⟨w.heap.size + 1, 0, none⟩) 1 1] 78)))) := Hid.mk' (by
    have hE : Ext w (((w.alloc (.cells #[.int .u8 k1, .int .u32 ao1, .int .u32 av1, .int .u8 old1, .slice ba1 b1.length bc1, .slice aa1 a1.length ac1, .slice ra1 r1.length rc1, .int .u8 fl1] 73)).alloc (.cells #[.int .u8 k1, .int .u32 ao1, .int .u32 av1, .int .u8 old1, .slice ba1 b1.length bc1, .slice aa1 a1.length ac1, .slice ra1 r1.length rc1, .int .u8 fl1] 73)).alloc (.cells #[.int .u32 0, .int .u64 0, .slice (some ⟨w.heap.size + 1, 0, none⟩) 1 1] 78)) := by (repeat (with_reducible (first | exact Ext.refl _ | assumption | exact held_left (by assumption) | apply Ext.drewN | apply Ext.drew | apply Ext.alloc | (refine Ext.setCell ?_ (by first | (simp; done) | (simp; omega) | omega) _) | (refine Ext.trans ?_ (by assumption)) | (refine Ext.trans ?_ (held_left (by assumption))))))
    have h1 := Sl.new ((w.alloc (.cells #[.int .u8 k1, .int .u32 ao1, .int .u32 av1, .int .u8 old1, .slice ba1 b1.length bc1, .slice aa1 a1.length ac1, .slice ra1 r1.length rc1, .int .u8 fl1] 73)).alloc (.cells #[.int .u8 k1, .int .u32 ao1, .int .u32 av1, .int .u8 old1, .slice ba1 b1.length bc1, .slice aa1 a1.length ac1, .slice ra1 r1.length rc1, .int .u8 fl1] 73)) #[.int .u32 0, .int .u64 0, .slice (some ⟨w.heap.size + 1, 0, none⟩) 1 1] 78 3 1 1 (([⟨0, 0, [⟨(⟨k1, ao1, av1, old1, b1, a1, r1, fl1⟩ : Ev), ba1, bc1, aa1, ac1, ra1, rc1⟩], some ⟨w.heap.size + 1, 0, none⟩, 1⟩] : List TL).map TL.vals) rfl (by intro xs hxs; simp at hxs; subst hxs; rfl) rfl
    have h2 := Sl.new (w.alloc (.cells #[.int .u8 k1, .int .u32 ao1, .int .u32 av1, .int .u8 old1, .slice ba1 b1.length bc1, .slice aa1 a1.length ac1, .slice ra1 r1.length rc1, .int .u8 fl1] 73)) #[.int .u8 k1, .int .u32 ao1, .int .u32 av1, .int .u8 old1, .slice ba1 b1.length bc1, .slice aa1 a1.length ac1, .slice ra1 r1.length rc1, .int .u8 fl1] 73 8 1 1 (([⟨(⟨k1, ao1, av1, old1, b1, a1, r1, fl1⟩ : Ev), ba1, bc1, aa1, ac1, ra1, rc1⟩] : List EL).map EL.vals) rfl (by intro xs hxs; simp at hxs; subst hxs; rfl) rfl
    rw [World.size_alloc, World.size_alloc] at h1
    rw [World.size_alloc] at h2
    refine greatT_any [] _ none (some ⟨w.heap.size + 1 + 1, 0, none⟩) 0 1 (((w.alloc (.cells #[.int .u8 k1, .int .u32 ao1, .int .u32 av1, .int .u8 old1, .slice ba1 b1.length bc1, .slice aa1 a1.length ac1, .slice ra1 r1.length rc1, .int .u8 fl1] 73)).alloc (.cells #[.int .u8 k1, .int .u32 ao1, .int .u32 av1, .int .u8 old1, .slice ba1 b1.length bc1, .slice aa1 a1.length ac1, .slice ra1 r1.length rc1, .int .u8 fl1] 73)).alloc (.cells #[.int .u32 0, .int .u64 0, .slice (some ⟨w.heap.size + 1, 0, none⟩) 1 1] 78)) (RL.nil _) ⟨h1, fun t ht => ?_⟩ (by simp) (by simp) (fun p hp => by cases hp) (fun t ht => ?_)
    · obtain rfl := List.mem_singleton.1 ht
      exact ⟨h2.ext (by (repeat (with_reducible (first | exact Ext.refl _ | assumption | exact held_left (by assumption) | apply Ext.drewN | apply Ext.drew | apply Ext.alloc | (refine Ext.setCell ?_ (by first | (simp; done) | (simp; omega) | omega) _) | (refine Ext.trans ?_ (by assumption)) | (refine Ext.trans ?_ (held_left (by assumption))))))), fun e he => by obtain rfl := List.mem_singleton.1 he; exact hx.ext hE⟩
    · obtain rfl := List.mem_singleton.1 ht
      exact ⟨by simp, fun e he => by obtain rfl := List.mem_singleton.1 he; exact hz, Int.le_refl 0⟩)
  unfold EL.agg
  simp only
  clear hx hz
  go_enter Try.func9, Try.ntmps9
  go_upto_region 3 with (go_at_call 33; refine HGR.out.mono ?_; rintro e w1 ⟨g, rfl, hg, hb1⟩; have HG := Hid.mk' hg; have HB1 := Hid.mk' hb1; (have hE1 : Ext (w.alloc (.cells #[.int .u8 k1, .int .u32 ao1, .int .u32 av1, .int .u8 old1, .slice ba1 b1.length bc1, .slice aa1 a1.length ac1, .slice ra1 r1.length rc1, .int .u8 fl1] 73)) w1 := ((((Ext.refl _).alloc _).alloc _).trans hb1)); obtain ⟨hc1, hf1⟩ := hE1.cells; have hz1 := hE1.size; clear hg hb1; cases g)
  all_goals try (go_ret; exact ⟨rfl, by (repeat (with_reducible (first | exact Ext.refl _ | assumption | exact held_left (by assumption) | apply Ext.drewN | apply Ext.drew | apply Ext.alloc | (refine Ext.setCell ?_ (by first | (simp; done) | (simp; omega) | omega) _) | (refine Ext.trans ?_ (by assumption)) | (refine Ext.trans ?_ (held_left (by assumption))))))⟩)
  have HL : Hid ((⟨k1, ao1, av1, old1, b1, a1, r1, fl1⟩ : Ev).lit) := Hid.mk' ((HG.out (by first | exact rfl | exact trivial)).e _ (List.mem_singleton.2 rfl) _ (List.mem_singleton.2 rfl))
  have HSM : Hid ((⟨k1, ao1, av1, old1, b1, a1, r1, fl1⟩ : Ev).small) := Hid.mk' ⟨by have := HL.out.b; omega, by have := HL.out.a; omega, by have := HL.out.r; omega⟩
  have HEW1 : Hid (Ext w w1) := Hid.mk' (((Ext.refl w).alloc _).trans hE1)
  have HV1 : Hid (Blk w1 w.heap.size #[.int .u8 k1, .int .u32 ao1, .int .u32 av1, .int .u8 old1, .slice ba1 b1.length bc1, .slice aa1 a1.length ac1, .slice ra1 r1.length rc1, .int .u8 fl1] 73) := Hid.mk' ((Blk.new w #[.int .u8 k1, .int .u32 ao1, .int .u32 av1, .int .u8 old1, .slice ba1 b1.length bc1, .slice aa1 a1.length ac1, .slice ra1 r1.length rc1, .int .u8 fl1] 73).ext hE1)
  have HOW := Hid.mk' (eown_el ⟨(⟨k1, ao1, av1, old1, b1, a1, r1, fl1⟩ : Ev), ba1, bc1, aa1, ac1, ra1, rc1⟩ w1 (HX.out.ext HEW1.out) HSM.out.b HSM.out.a HSM.out.r)
  unfold EL.agg at HOW
  simp only at HOW
  clear hE1 hc1 hf1 hz1 HG HGR HB1
  have gv := HV1.out.cell
  have zv := HV1.out.lt
  go_upto_region 4 with (go_at_call 34; refine HOW.out.mono ?_; rintro e w2 ⟨⟨ye, ba2, bc2, aa2, ac2, ra2, rc2⟩, rfl, hye, hat, -, hb2⟩; simp only at hye; subst hye; have HAT := Hid.mk' hat; have HB2 := Hid.mk' hb2; clear hat hb2; (try simp only))
  have HB3 := Hid.mk' (Blk.new w2 #[.int .u8 k1, .int .u32 ao1, .int .u32 av1, .int .u8 old1, .slice ba2 b1.length bc2, .slice aa2 a1.length ac2, .slice ra2 r1.length rc2, .int .u8 fl1] 83)
  have HEW : Hid (Ext w (w2.alloc (.cells #[.int .u8 k1, .int .u32 ao1, .int .u32 av1, .int .u8 old1, .slice ba2 b1.length bc2, .slice aa2 a1.length ac2, .slice ra2 r1.length rc2, .int .u8 fl1] 83))) := Hid.mk' ((HEW1.out.trans HB2.out).alloc _)
  have HV : Hid (Blk (w2.alloc (.cells #[.int .u8 k1, .int .u32 ao1, .int .u32 av1, .int .u8 old1, .slice ba2 b1.length bc2, .slice aa2 a1.length ac2, .slice ra2 r1.length rc2, .int .u8 fl1] 83)) w.heap.size #[.int .u8 k1, .int .u32 ao1, .int .u32 av1, .int .u8 old1, .slice ba1 b1.length bc1, .slice aa1 a1.length ac1, .slice ra1 r1.length rc1, .int .u8 fl1] 73) := Hid.mk' ((HV1.out.ext HB2.out).alloc _)
  have HY : Hid ((⟨(⟨k1, ao1, av1, old1, b1, a1, r1, fl1⟩ : Ev), ba2, bc2, aa2, ac2, ra2, rc2⟩ : EL).at 5 K.pc (w2.alloc (.cells #[.int .u8 k1, .int .u32 ao1, .int .u32 av1, .int .u8 old1, .slice ba2 b1.length bc2, .slice aa2 a1.length ac2, .slice ra2 r1.length rc2, .int .u8 fl1] 83))) := Hid.mk' (HAT.out.ext ((Ext.refl _).alloc _))
  obtain ⟨w3, hw3⟩ : ∃ w3, w3 = w2.alloc (.cells #[.int .u8 k1, .int .u32 ao1, .int .u32 av1, .int .u8 old1, .slice ba2 b1.length bc2, .slice aa2 a1.length ac2, .slice ra2 r1.length rc2, .int .u8 fl1] 83) := ⟨_, rfl⟩
  obtain ⟨X3, hX3⟩ : ∃ X3, X3 = w2.heap.size := ⟨_, rfl⟩
  rw [← hw3] at HB3 HEW HV HY ⊢
  rw [← hX3] at HB3 ⊢
  clear gv zv hw3 hX3 HAT HOW HV1 HEW1 HB2
  have HCP := Hid.mk' (fun W (h : Ext w3 W) => ecopy_any _ W (HY.out.ext h) HSM.out)
  have HUS := Hid.mk' (fun W (h : Ext w3 W) => euses_any _ W (HY.out.ext h) HSM.out)
  unfold EL.agg at HCP HUS
  simp only at HCP HUS
  have gy := HB3.out.cell
  have zy := HB3.out.lt
  go_cut [4, 5] (fun p u wx => ∃ X ba3 bc3 aa3 ac3 ra3 rc3 ua un uc, p = .pointer (some ⟨X, 0, none⟩) ∧ u = .slice ua un uc ∧ un ≤ 1000 ∧ Hid (OwI w3 w3.heap.size X #[.int .u8 k1, .int .u32 ao1, .int .u32 av1, .int .u8 old1, .slice ba3 b1.length bc3, .slice aa3 a1.length ac3, .slice ra3 r1.length rc3, .int .u8 fl1] ba3 aa3 ra3 ua b1.length a1.length r1.length un wx))
  case first =>
    go_region_held3 (fun w' => Ext (w3) w' ∧ (∀ b o, b < (w3).heap.size → w'.cell? ⟨b, o, none⟩ = (w3).cell? ⟨b, o, none⟩) ∧ (∀ b o, b < (w3).heap.size → w'.frozen? ⟨b, o, none⟩ = (w3).frozen? ⟨b, o, none⟩)) ((exact held_of (by (repeat (with_reducible (first | exact Ext.refl _ | assumption | exact held_left (by assumption) | apply Ext.drewN | apply Ext.drew | apply Ext.alloc | (refine Ext.setCell ?_ (by first | (simp; done) | (simp; omega) | omega) _) | (refine Ext.trans ?_ (by assumption)) | (refine Ext.trans ?_ (held_left (by assumption)))))))))
      (first
        | (go_at_call 42; refine (HCP.out _ (by (repeat (with_reducible (first | exact Ext.refl _ | assumption | exact held_left (by assumption) | apply Ext.drewN | apply Ext.drew | apply Ext.alloc | (refine Ext.setCell ?_ (by first | (simp; done) | (simp; omega) | omega) _) | (refine Ext.trans ?_ (by assumption)) | (refine Ext.trans ?_ (held_left (by assumption)))))))).mono ?_; rintro e w4 ⟨⟨ye, ba3, bc3, aa3, ac3, ra3, rc3⟩, rfl, hye, how, hb4⟩; simp only at hye; subst hye; have H4 := Hid.mk' how; obtain ⟨hc4, hf4⟩ := hb4.cells; have hz4 := hb4.size; (try simp at hz4); clear how; (try simp only); (try have q4 : w3.heap.size < w4.heap.size := (by omega)))
        | (go_at_call 35; refine (HUS.out _ (by (repeat (with_reducible (first | exact Ext.refl _ | assumption | exact held_left (by assumption) | apply Ext.drewN | apply Ext.drew | apply Ext.alloc | (refine Ext.setCell ?_ (by first | (simp; done) | (simp; omega) | omega) _) | (refine Ext.trans ?_ (by assumption)) | (refine Ext.trans ?_ (held_left (by assumption)))))))).mono ?_; rintro e w5 ⟨ua, un, uc, rfl, hun, hou, hb5⟩; have H5 := Hid.mk' hou; have HN5 := Hid.mk' hun; obtain ⟨hc5, hf5⟩ := hb5.cells; have hz5 := hb5.size; (try simp at hz5); (try have q45 : w4.heap.size < w5.heap.size := (by omega)); (try have q5 : w3.heap.size < w5.heap.size := (by omega)); clear hou hun))
    all_goals
      go_wp2
      go_meet
      case rel =>
        refine ⟨_, ba3, bc3, aa3, ac3, ra3, rc3, ua, un, uc, rfl, rfl, by rw [HN5.out]; exact usesE_len HSM.out, Hid.mk' ⟨?_, ?_, ?_, ?_, ?_, ?_, ?_⟩⟩
        · repeat (with_reducible (first | exact Blk.new _ _ _ | (refine Blk.new' _ _ ?_; (simp; done)) | apply Blk.eight | refine Blk.alloc ?_ _ | refine Blk.drew ?_ | refine Blk.ext ?_ hb5 | refine Blk.ext ?_ hb4))
        · repeat (with_reducible refine Wr.set ?_ _ _ rfl)
          exact (Wr.of_owns H4.out.b (by rw [flatK_len])).ext (by (repeat (with_reducible (first | exact Ext.refl _ | assumption | exact held_left (by assumption) | apply Ext.drewN | apply Ext.drew | apply Ext.alloc | (refine Ext.setCell ?_ (by first | (simp; done) | (simp; omega) | omega) _) | (refine Ext.trans ?_ (by assumption)) | (refine Ext.trans ?_ (held_left (by assumption)))))))
        · repeat (with_reducible refine Wr.set ?_ _ _ rfl)
          exact (Wr.of_owns H4.out.a (by rw [flatK_len])).ext (by (repeat (with_reducible (first | exact Ext.refl _ | assumption | exact held_left (by assumption) | apply Ext.drewN | apply Ext.drew | apply Ext.alloc | (refine Ext.setCell ?_ (by first | (simp; done) | (simp; omega) | omega) _) | (refine Ext.trans ?_ (by assumption)) | (refine Ext.trans ?_ (held_left (by assumption)))))))
        · repeat (with_reducible refine Wr.set ?_ _ _ rfl)
          exact (Wr.of_owns H4.out.r (by rw [flatR_len])).ext (by (repeat (with_reducible (first | exact Ext.refl _ | assumption | exact held_left (by assumption) | apply Ext.drewN | apply Ext.drew | apply Ext.alloc | (refine Ext.setCell ?_ (by first | (simp; done) | (simp; omega) | omega) _) | (refine Ext.trans ?_ (by assumption)) | (refine Ext.trans ?_ (held_left (by assumption)))))))
        · repeat (with_reducible refine Wr.set ?_ _ _ rfl)
          exact (Wr.of_owns H5.out (by rw [flatR_len, HN5.out])).ext (by (repeat (with_reducible (first | exact Ext.refl _ | assumption | exact held_left (by assumption) | apply Ext.drewN | apply Ext.drew | apply Ext.alloc | (refine Ext.setCell ?_ (by first | (simp; done) | (simp; omega) | omega) _) | (refine Ext.trans ?_ (by assumption)) | (refine Ext.trans ?_ (held_left (by assumption)))))))
        · rintro g o (e | e | e | e)
          · have := (H4.out.b.lt g (by rw [show ba3 = some ⟨g, o, none⟩ from e]; rfl)).1; (try simp at this); omega
          · have := (H4.out.a.lt g (by rw [show aa3 = some ⟨g, o, none⟩ from e]; rfl)).1; (try simp at this); omega
          · have := (H4.out.r.lt g (by rw [show ra3 = some ⟨g, o, none⟩ from e]; rfl)).1; (try simp at this); omega
          · have := (H5.out.lt g (by rw [e]; rfl)).1; (try simp at this); omega
        · (repeat (with_reducible (first | exact Ext.refl _ | assumption | exact held_left (by assumption) | apply Ext.drewN | apply Ext.drew | apply Ext.alloc | (refine Ext.setCell ?_ (by first | (simp; done) | (simp; omega) | omega) _) | (refine Ext.trans ?_ (by assumption)) | (refine Ext.trans ?_ (held_left (by assumption))))))
  case rest =>
    obtain ⟨X, ba3, bc3, aa3, ac3, ra3, rc3, ua, un, uc, rfl, rfl, hun, HI⟩ := hcut
    have hlb := HSM.out.b
    have hla := HSM.out.a
    have hlr := HSM.out.r
    simp only at hlb hla hlr
    clear gy zy HCP HUS
    go_wp2
    go_loopg [6] b1.length (fun z i wr => ∃ k : Nat, z + k = b1.length ∧ i = .int .i64 k ∧ Hid (OwI w3 w3.heap.size X #[.int .u8 k1, .int .u32 ao1, .int .u32 av1, .int .u8 old1, .slice ba3 b1.length bc3, .slice aa3 a1.length ac3, .slice ra3 r1.length rc3, .int .u8 fl1] ba3 aa3 ra3 ua b1.length a1.length r1.length un wr))
    case atStart => exact ⟨0, by omega, rfl, HI⟩
    case round =>
      clear HI
      obtain ⟨k, hk, rfl, HI⟩ := hrel
      have gx := HI.out.blk.cell
      have zx := HI.out.blk.lt
      by_cases hlt : k < b1.length
      · obtain ⟨g, u, rfl, hg, hc, hf, cs, hb⟩ := HI.out.b.at_ hlt (j := 0) (by omega)
        have HI2 := Hid.mk' (HI.out.set hb (by decide) (HI.out.ge g 0 (.inl rfl)) (o := k * 5 + 0) (.int .u8 9))
        clear hb HI
        try simp only [Nat.add_zero] at hc hf HI2
        go_wp2
        go_roundg (b1.length - (k + 1))
        case measure => omega
        case rel => exact ⟨k + 1, by omega, by go_num, HI2⟩
      · obtain ⟨wo, hwo⟩ : ∃ x, x = wr := ⟨_, rfl⟩
        subst hwo
        go_wp2
        clear gx zx hlt hk
        go_loopg [7] a1.length (fun z i wr => ∃ k : Nat, z + k = a1.length ∧ i = .int .i64 k ∧ Hid (OwI w3 w3.heap.size X #[.int .u8 k1, .int .u32 ao1, .int .u32 av1, .int .u8 old1, .slice ba3 b1.length bc3, .slice aa3 a1.length ac3, .slice ra3 r1.length rc3, .int .u8 fl1] ba3 aa3 ra3 ua b1.length a1.length r1.length un wr))
        case atStart => exact ⟨0, by omega, rfl, HI⟩
        case round =>
          clear HI
          obtain ⟨k, hk, rfl, HI⟩ := hrel
          have gx := HI.out.blk.cell
          have zx := HI.out.blk.lt
          by_cases hlt : k < a1.length
          · obtain ⟨g, u, rfl, hg, hc, hf, cs, hb⟩ := HI.out.a.at_ hlt (j := 4) (by omega)
            have HI2 := Hid.mk' (HI.out.set hb (by decide) (HI.out.ge g 0 (.inr (.inl rfl))) (o := k * 5 + 4) (.string ⟨#[122]⟩))
            clear hb HI
            try simp only [Nat.add_zero] at hc hf HI2
            go_wp2
            go_roundg (a1.length - (k + 1))
            case measure => omega
            case rel => exact ⟨k + 1, by omega, by go_num, HI2⟩
          · obtain ⟨wo, hwo⟩ : ∃ x, x = wr := ⟨_, rfl⟩
            subst hwo
            go_wp2
            clear gx zx hlt hk
            go_loopg [8] r1.length (fun z i wr => ∃ k : Nat, z + k = r1.length ∧ i = .int .i64 k ∧ Hid (OwI w3 w3.heap.size X #[.int .u8 k1, .int .u32 ao1, .int .u32 av1, .int .u8 old1, .slice ba3 b1.length bc3, .slice aa3 a1.length ac3, .slice ra3 r1.length rc3, .int .u8 fl1] ba3 aa3 ra3 ua b1.length a1.length r1.length un wr))
            case atStart => exact ⟨0, by omega, rfl, HI⟩
            case round =>
              clear HI
              obtain ⟨k, hk, rfl, HI⟩ := hrel
              have gx := HI.out.blk.cell
              have zx := HI.out.blk.lt
              by_cases hlt : k < r1.length
              · obtain ⟨g, u, rfl, hg, hc, hf, cs, hb⟩ := HI.out.r.at_ hlt (j := 0) (by omega)
                have HI2 := Hid.mk' (HI.out.set hb (by decide) (HI.out.ge g 0 (.inr (.inr (.inl rfl)))) (o := k * 2 + 0) (.int .u32 77))
                clear hb HI
                try simp only [Nat.add_zero] at hc hf HI2
                go_wp2
                go_roundg (r1.length - (k + 1))
                case measure => omega
                case rel => exact ⟨k + 1, by omega, by go_num, HI2⟩
              · obtain ⟨wo, hwo⟩ : ∃ x, x = wr := ⟨_, rfl⟩
                subst hwo
                go_wp2
                clear gx zx hlt hk
                go_loopg [9] un (fun z i wr => ∃ k : Nat, z + k = un ∧ i = .int .i64 k ∧ Hid (OwI w3 w3.heap.size X #[.int .u8 k1, .int .u32 ao1, .int .u32 av1, .int .u8 old1, .slice ba3 b1.length bc3, .slice aa3 a1.length ac3, .slice ra3 r1.length rc3, .int .u8 fl1] ba3 aa3 ra3 ua b1.length a1.length r1.length un wr))
                case atStart => exact ⟨0, by omega, rfl, HI⟩
                case round =>
                  clear HI
                  obtain ⟨k, hk, rfl, HI⟩ := hrel
                  have gx := HI.out.blk.cell
                  have zx := HI.out.blk.lt
                  by_cases hlt : k < un
                  · obtain ⟨g, u, rfl, hg, hc, hf, cs, hb⟩ := HI.out.u.at_ hlt (j := 1) (by omega)
                    have HI2 := Hid.mk' (HI.out.set hb (by decide) (HI.out.ge g 0 (.inr (.inr (.inr rfl)))) (o := k * 2 + 1) (.int .u32 78))
                    clear hb HI
                    try simp only [Nat.add_zero] at hc hf HI2
                    go_wp2
                    go_roundg (un - (k + 1))
                    case measure => omega
                    case rel => exact ⟨k + 1, by omega, by go_num, HI2⟩
                  · obtain ⟨wo, hwo⟩ : ∃ x, x = wr := ⟨_, rfl⟩
                    subst hwo
                    have HE3 := Hid.mk' HI.out.ext
                    go_wp2
                    clear gx zx hlt hk HI
                    have g3 := (HB3.out.ext HE3.out).cell
                    have z3 := (HB3.out.ext HE3.out).lt
                    have gv := (HV.out.ext HE3.out).cell
                    have zv := (HV.out.ext HE3.out).lt
                    have HBK := Hid.mk' (fun W (h : Ext wo W) => eback_el ⟨(⟨k1, ao1, av1, old1, b1, a1, r1, fl1⟩ : Ev), ba2, bc2, aa2, ac2, ra2, rc2⟩ W (HY.out.ext (HE3.out.trans h)) HSM.out.b HSM.out.a HSM.out.r)
                    unfold EL.agg at HBK
                    simp only at HBK
                    go_region_held3 (fun w' => Ext (wo) w' ∧ (∀ b o, b < (wo).heap.size → w'.cell? ⟨b, o, none⟩ = (wo).cell? ⟨b, o, none⟩) ∧ (∀ b o, b < (wo).heap.size → w'.frozen? ⟨b, o, none⟩ = (wo).frozen? ⟨b, o, none⟩)) ((exact held_of (by (repeat (with_reducible (first | exact Ext.refl _ | assumption | exact held_left (by assumption) | apply Ext.drewN | apply Ext.drew | apply Ext.alloc | (refine Ext.setCell ?_ (by first | (simp; done) | (simp; omega) | omega) _) | (refine Ext.trans ?_ (by assumption)) | (refine Ext.trans ?_ (held_left (by assumption)))))))))
                      (first
                        | (go_at_call 41; refine (HBK.out _ (by (repeat (with_reducible (first | exact Ext.refl _ | assumption | exact held_left (by assumption) | apply Ext.drewN | apply Ext.drew | apply Ext.alloc | (refine Ext.setCell ?_ (by first | (simp; done) | (simp; omega) | omega) _) | (refine Ext.trans ?_ (by assumption)) | (refine Ext.trans ?_ (held_left (by assumption)))))))).mono ?_; rintro e w4 ⟨⟨ye, ba4, bc4, aa4, ac4, ra4, rc4⟩, rfl, hye, hat4, -, hb4⟩; simp only at hye; subst hye; have H4 := Hid.mk' hat4; have HB4 := Hid.mk' hb4; clear hat4; (try simp only))
                        | (go_at_call 40; refine (esame_any ⟨(⟨k1, ao1, av1, old1, b1, a1, r1, fl1⟩ : Ev), ba4, bc4, aa4, ac4, ra4, rc4⟩ ⟨(⟨k1, ao1, av1, old1, b1, a1, r1, fl1⟩ : Ev), ba1, bc1, aa1, ac1, ra1, rc1⟩ _ (H4.out.ext (by (repeat (with_reducible (first | exact Ext.refl _ | assumption | exact held_left (by assumption) | apply Ext.drewN | apply Ext.drew | apply Ext.alloc | (refine Ext.setCell ?_ (by first | (simp; done) | (simp; omega) | omega) _) | (refine Ext.trans ?_ (by assumption)) | (refine Ext.trans ?_ (held_left (by assumption)))))))) (HX.out.ext (by have := HEW.out.trans HE3.out; (repeat (with_reducible (first | exact Ext.refl _ | assumption | exact held_left (by assumption) | apply Ext.drewN | apply Ext.drew | apply Ext.alloc | (refine Ext.setCell ?_ (by first | (simp; done) | (simp; omega) | omega) _) | (refine Ext.trans ?_ (by assumption)) | (refine Ext.trans ?_ (held_left (by assumption)))))))) HSM.out HSM.out).mono ?_; rw [evB_true.2 rfl]; rintro e w5 ⟨rfl, hb5⟩)
                        | (go_at_call 43; refine (awake13_any _).mono ?_; rintro e w6 ⟨rfl, hb6⟩))
                    all_goals
                      go_wp2
                      go_ret
                      exact ⟨rfl, (HEW.out.trans HE3.out).trans (by (repeat (with_reducible (first | exact Ext.refl _ | assumption | exact held_left (by assumption) | apply Ext.drewN | apply Ext.drew | apply Ext.alloc | (refine Ext.setCell ?_ (by first | (simp; done) | (simp; omega) | omega) _) | (refine Ext.trans ?_ (by assumption)) | (refine Ext.trans ?_ (held_left (by assumption)))))))⟩

end Go.Proofs.Ythdjinicmnhgpaa
