/-
One relation more in a catalog: the program's own, Add.
-/
import Derived.RangeFuncNested
import Derived.RangeFuncBound
import Derived.RangeFuncCalls
import Derived.RangeFuncLeaves
import Derived.RangeFuncBox
import Derived.Shelf.Abstract
import Derived.Shelf.RegionOpen
import Derived.OwnWalkIn
import Derived.TacticsInMore
import Derived.LoopNIn
import Derived.LoopIn
import Derived.RangeFuncOne
import Derived.Test.YthdjinicmnhgpaaP4
namespace Go.Proofs.Ythdjinicmnhgpaa
open Go.RowKit

/-- Its columns lie in a row of the call's own, from N on. -/
def RR.owned (N : Nat) (W : World) (q : RR) : Prop := W.ownsRow N 40 3 (.slice q.a q.r.cols.length q.c) q.r.cols.length (q.r.cols.map Col.cells).flatten
theorem RR.owned.in {N : Nat} {W : World} {q : RR} (h : q.owned N W) : q.in W := Sl.of_owns (base := N) (e := 40) (by rw [List.length_map]; exact h) (by intro xs hxs; simp at hxs; obtain ⟨_, _, rfl⟩ := hxs; rfl)
theorem RR.owned.at_ {N : Nat} {W : World} {q : RR} (h : q.owned N W) {b o : Nat} (e : q.a = some ⟨b, o, none⟩) : N ≤ b ∧ b < W.heap.size := h.lt b (by rw [e]; rfl)
theorem RR.owned.ext {N : Nat} {W W' : World} {q : RR} (h : q.owned N W) (he : Ext W W') : q.owned N W' := owns_ext h he
theorem RR.owned.mono {N M : Nat} {W : World} {q : RR} (h : q.owned N W) (hm : M ≤ N) : q.owned M W := owns_base h hm

set_option maxRecDepth 100000 in set_option maxHeartbeats 1600000 in
theorem pown_any (p : RR) (w : World) (hp : p.in w) (hlen : p.r.cols.length ≤ 1000) :
    Calls Try.prog 51 #[p.agg] w fun e w' => ∃ q : RR, e = .returned q.agg ∧ q.r = p.r ∧ q.owned w.heap.size w' ∧ Ext w w' := by
  obtain ⟨⟨oid, ver, nm, id, cols⟩, a2, c2⟩ := p
  unfold RR.agg
  unfold RR.in at hp
  simp only at hp hlen ⊢
  have HC := Hid.mk' (fun W (h : Ext w W) => clonec_any cols a2 c2 W (hp.ext h) hlen)
  clear hp
  go_enter Try.func51, Try.ntmps51
  go_wp2_with (go_at_call 80; refine (HC.out _ (by (repeat (with_reducible (first | exact Ext.refl _ | assumption | exact held_left (by assumption) | apply Ext.drewN | apply Ext.drew | apply Ext.alloc | (refine Ext.setCell ?_ (by first | (simp; done) | (simp; omega) | omega) _) | (refine Ext.trans ?_ (by assumption)) | (refine Ext.trans ?_ (held_left (by assumption)))))))).mono ?_; rintro e w1 ⟨a', c', rfl, ho, hb1⟩; have HO := Hid.mk' ho; have HB := Hid.mk' hb1; have g0 := (((Blk.new w #[.int .u32 oid, .int .u32 ver, .string nm, .int .u8 id, .slice a2 cols.length c2] 36).alloc (.cells #[.int .u32 0, .int .u32 0, .string ⟨#[]⟩, .int .u8 0, .slice none 0 0] 36)).ext hb1); have g1 := ((Blk.new' (w := w.alloc (.cells #[.int .u32 oid, .int .u32 ver, .string nm, .int .u8 id, .slice a2 cols.length c2] 36)) (b := w.heap.size + 1) #[.int .u32 0, .int .u32 0, .string ⟨#[]⟩, .int .u8 0, .slice none 0 0] 36 (by simp)).ext hb1); have g0c := g0.cell; have g0f := g0.frozen; have g0z := g0.lt; have g1c := g1.cell; have g1f := g1.frozen; have g1z := g1.lt; clear ho hb1 g0 g1)
  simp [bodyPost, results, Try.results51, go_sem, *]
  have hEw : Ext w w1 := (((Ext.refl w).alloc _).alloc _).trans HB.out
  have ho := HO.out
  simp only [World.size_alloc] at ho
  refine ⟨⟨⟨oid, ver, nm, id, cols⟩, a', c'⟩, ⟨rfl, rfl, rfl, rfl, rfl, rfl, rfl⟩, rfl, ?_, by (repeat (with_reducible (first | exact Ext.refl _ | assumption | exact held_left (by assumption) | apply Ext.drewN | apply Ext.drew | apply Ext.alloc | (refine Ext.setCell ?_ (by first | (simp; done) | (simp; omega) | omega) _) | (refine Ext.trans ?_ (by assumption)) | (refine Ext.trans ?_ (held_left (by assumption))))))⟩
  refine owns_base (base := w.heap.size + 1 + 1) ?_ (by omega)
  dsimp only
  exact owns_set (owns_set (owns_set (owns_set (owns_set (owns_set ho (by dsimp only; omega) _) (by dsimp only; omega) _) (by dsimp only; omega) _) (by dsimp only; omega) _) (by dsimp only; omega) _) (by dsimp only; omega) _

theorem Ca.ins {w5 w6 : World} {N g : Nat} {c v' : Value} {ps : List RR} {q : RR} (hc : Ca w5 N g c ps) (hq : q.in w5) (hqn : q.r.cols ≠ [] → ∀ b o, q.a = some ⟨b, o, none⟩ → b ≠ g ∧ c.ownBlock ≠ some b ∧ N ≤ b ∧ b < w5.heap.size) (hadd : addE (ps.map RR.r) q.r = 0) (hwb : q.r.wb)
    (ho : w6.ownsRow N 36 5 v' (ps.length + 1) ((insP ps q).map RR.cells).flatten) (hg : w5.grownBy w6 c.ownBlock) (hat : v'.ownBlock = c.ownBlock ∨ ∃ b, v'.ownBlock = some b ∧ w5.heap.size ≤ b) :
    Ca (w6.setCell ⟨g, 0, none⟩ v') N g v' (insP ps q) ∧ Kp (Ca.S g c) w5 (w6.setCell ⟨g, 0, none⟩ v') := by
  have hgz := hc.ptr.lt
  have hk1 : Kp (fun k => c.ownBlock = some k) w5 w6 := Kp.of_grown hg
  have hk2 : Kp (fun k => k = g) w6 (w6.setCell ⟨g, 0, none⟩ v') := Kp.set _ _ rfl
  have hv : v'.ownBlock ≠ some g := by
    rcases hat with h | ⟨b, h, hb⟩
    · rw [h]; exact hc.gv
    · rw [h]; intro e; injection e with e; omega
  have hp6 : Blk w6 g #[c] 116 := hc.ptr.kp hk1 hc.gv
  have hne : ∀ p ∈ insP ps q, p.r.cols ≠ [] → ∀ b o, p.a = some ⟨b, o, none⟩ → b ≠ g ∧ c.ownBlock ≠ some b ∧ N ≤ b ∧ b < w5.heap.size := fun p hp => by
    rcases insP_mem hp with rfl | h
    · exact hqn
    · exact hc.ne p h
  have hin : ∀ p ∈ insP ps q, p.in w5 := fun p hp => by
    rcases insP_mem hp with rfl | h
    · exact hq
    · exact hc.sl p h
  refine ⟨⟨?_, ?_, hc.gN, hv, fun p hp => ?_, fun p hp h0 b o e => ?_, ?_, fun p hp => ?_⟩, ?_⟩
  · have := hp6.set 0 v'
    simpa using this
  · rw [insP_len]
    exact owns_kp ho hk2 (fun b hb e => hv (by rw [hb, e]))
  · have h0 := hne p hp
    have h1 : p.in w6 := Sl.kp (hin p hp) hk1 (fun hx b o e => (h0 (fun h => hx (by rw [h]; rfl)) b o e).2.1)
    exact Sl.kp h1 hk2 (fun hx b o e => (h0 (fun h => hx (by rw [h]; rfl)) b o e).1)
  · obtain ⟨q1, q2, q3, q4⟩ := hne p hp h0 b o e
    refine ⟨q1, ?_, q3, by have := hg.size; simp [World.setCell]; omega⟩
    rcases hat with h | ⟨b', h, hb⟩
    · rw [h]; exact q2
    · rw [h]; intro e2; injection e2 with e2; omega
  · rw [insP_r]
    have := hc.ok.add q.r
    unfold addL at this
    rwa [if_pos hadd] at this
  · rcases insP_mem hp with rfl | h
    · exact hwb
    · exact hc.wb p h
  · refine (hk1.mono (T := Ca.S g c) (fun x hx _ => .inr hx)).trans hk2 (fun x hx _ => .inl hx)

def CAddPost (N g : Nat) (c : Value) (ps : List RR) (q : RR) (w : World) (e : Ending) (w' : World) : Prop :=
  ∃ c' q', e = .returned (.int .i64 (addE (ps.map RR.r) q.r)) ∧ q'.r = q.r ∧ Ca w' N g c' (addP ps q') ∧ Kp (Ca.S g c) w w' ∧ ∀ b, c'.ownBlock = some b → c.ownBlock = some b ∨ w.heap.size ≤ b
theorem CAddPost.keep {N g : Nat} {c : Value} {ps : List RR} {q : RR} {w w' : World} {E : Int} (h : addE (ps.map RR.r) q.r = E) (h0 : E ≠ 0) (hc : Ca w N g c ps) (he : Ext w w') : CAddPost N g c ps q w (.returned (.int .i64 E)) w' := by
  have e : addP ps q = ps := by unfold addP; rw [h, if_neg h0]
  exact ⟨c, q, by rw [h], rfl, by rw [e]; exact hc.ext he, Kp.of_ext he, fun b hb => .inl hb⟩

set_option maxRecDepth 100000 in set_option maxHeartbeats 4000000 in
theorem cadd_any (N g : Nat) (c : Value) (ps : List RR) (q : RR) (w : World) (hc : Ca w N g c ps) (hq : q.in w) (hcap : q.r.cols.length ≤ q.c) (hb : q.r.wb) :
    Calls Try.prog 19 #[.pointer (some ⟨g, 0, none⟩), q.agg] w (CAddPost N g c ps q w) := by
  obtain ⟨a, cap, rfl⟩ := hc.shape
  obtain ⟨⟨oid, ver, nm, id, cols⟩, a2, c2⟩ := q
  unfold RR.agg
  simp only at hcap ⊢
  have HR8 := Hid.mk' (fun W (h : Ext w W) => right8_big oid ver nm id cols a2 c2 W (Sl.ext hq h) hcap (by have := hb.n; simp only at this; omega) hb.nm hb.cs)
  have HFD := Hid.mk' (fun W (h : Ext w W) => find_any N g _ ps oid ver W (hc.ext h))
  have HOW := Hid.mk' (fun W (h : Ext w W) hn => pown_any (⟨⟨oid, ver, nm, id, cols⟩, a2, c2⟩ : RR) W (hq.ext h) hn)
  have HC := Hid.mk' hc
  have HWB := Hid.mk' hb
  have HAE : Hid (addE (ps.map RR.r) (⟨oid, ver, nm, id, cols⟩ : Rl) = if (⟨oid, ver, nm, id, cols⟩ : Rl).right ≠ 0 then (⟨oid, ver, nm, id, cols⟩ : Rl).right else if hasR oid ver (ps.map RR.r) = true then 9 else if 64 ≤ (ps.map RR.r).length then 8 else 0) := Hid.mk' rfl
  have hgc := hc.ptr.cell
  have hgz := hc.ptr.lt
  have hn64 := hc.n64
  unfold RR.agg at HOW
  simp only at HOW
  clear hc hq hb hcap
  obtain ⟨E, hE⟩ : ∃ E, E = Rl.right (⟨oid, ver, nm, id, cols⟩ : Rl) := ⟨_, rfl⟩
  rw [← hE] at HR8 HAE
  by_cases h0 : E = 0
  case neg =>
    have h0' : (E != 0) = true := by simpa using h0
    have HA := Hid.mk' (HAE.out.trans (if_pos h0))
    have H0 := Hid.mk' h0
    clear h0 hE HAE
    go_enter Try.func19, Try.ntmps19
    go_wp2_with (go_at_call 53; refine (HR8.out _ (by (repeat (with_reducible (first | exact Ext.refl _ | assumption | exact held_left (by assumption) | apply Ext.drewN | apply Ext.drew | apply Ext.alloc | (refine Ext.setCell ?_ (by first | (simp; done) | (simp; omega) | omega) _) | (refine Ext.trans ?_ (by assumption)) | (refine Ext.trans ?_ (held_left (by assumption)))))))).mono ?_; rintro e w1 ⟨rfl, hb1⟩; have hE1 : Ext w w1 := (by (repeat (with_reducible (first | exact Ext.refl _ | assumption | exact held_left (by assumption) | apply Ext.drewN | apply Ext.drew | apply Ext.alloc | (refine Ext.setCell ?_ (by first | (simp; done) | (simp; omega) | omega) _) | (refine Ext.trans ?_ (by assumption)) | (refine Ext.trans ?_ (held_left (by assumption))))))))
    go_ret
    exact CAddPost.keep HA.out H0.out HC.out hE1
  subst h0
  have hn16 : cols.length ≤ 16 := Rl.cols_le hE.symm
  have HAE2 := Hid.mk' (HAE.out.trans (if_neg (by simp)))
  clear HAE hE
  obtain ⟨P, hP⟩ : ∃ P, P = posR oid ver (ps.map RR.r) := ⟨_, rfl⟩
  have hPn : P ≤ ps.length := by have := posR_le oid ver (ps.map RR.r); rw [List.length_map] at this; omega
  rw [← hP] at HFD
  have HPP := Hid.mk' hP
  clear hP
  cases hh : hasR oid ver (ps.map RR.r) with
  | true =>
    rw [hh] at HFD HAE2
    have HA := Hid.mk' (HAE2.out.trans (if_pos rfl))
    clear hh HAE2
    go_enter Try.func19, Try.ntmps19
    go_wp2_with (first
      | (go_at_call 53; refine (HR8.out _ (by (repeat (with_reducible (first | exact Ext.refl _ | assumption | exact held_left (by assumption) | apply Ext.drewN | apply Ext.drew | apply Ext.alloc | (refine Ext.setCell ?_ (by first | (simp; done) | (simp; omega) | omega) _) | (refine Ext.trans ?_ (by assumption)) | (refine Ext.trans ?_ (held_left (by assumption)))))))).mono ?_; rintro e w1 ⟨rfl, hb1⟩; have hE1 : Ext w w1 := (by (repeat (with_reducible (first | exact Ext.refl _ | assumption | exact held_left (by assumption) | apply Ext.drewN | apply Ext.drew | apply Ext.alloc | (refine Ext.setCell ?_ (by first | (simp; done) | (simp; omega) | omega) _) | (refine Ext.trans ?_ (by assumption)) | (refine Ext.trans ?_ (held_left (by assumption))))))); have g0 := ((Blk.new w #[.int .u32 oid, .int .u32 ver, .string nm, .int .u8 id, .slice a2 cols.length c2] 36).ext hb1).cell)
      | (go_at_call 50; refine (HFD.out _ (by (repeat (with_reducible (first | exact Ext.refl _ | assumption | exact held_left (by assumption) | apply Ext.drewN | apply Ext.drew | apply Ext.alloc | (refine Ext.setCell ?_ (by first | (simp; done) | (simp; omega) | omega) _) | (refine Ext.trans ?_ (by assumption)) | (refine Ext.trans ?_ (held_left (by assumption)))))))).mono ?_; rintro e w2 ⟨rfl, hb2⟩; have hE2 : Ext w w2 := (by (repeat (with_reducible (first | exact Ext.refl _ | assumption | exact held_left (by assumption) | apply Ext.drewN | apply Ext.drew | apply Ext.alloc | (refine Ext.setCell ?_ (by first | (simp; done) | (simp; omega) | omega) _) | (refine Ext.trans ?_ (by assumption)) | (refine Ext.trans ?_ (held_left (by assumption)))))))))
    go_ret
    exact CAddPost.keep HA.out (by decide) HC.out hE2
  | false =>
    rw [hh] at HFD HAE2
    have HAE3 := Hid.mk' (HAE2.out.trans (if_neg (by simp)))
    rw [List.length_map] at HAE3
    clear hh HAE2
    by_cases h64 : 64 ≤ ps.length
    · have HA := Hid.mk' (HAE3.out.trans (if_pos h64))
      clear HAE3
      go_enter Try.func19, Try.ntmps19
      go_wp2_with (first
        | (go_at_call 53; refine (HR8.out _ (by (repeat (with_reducible (first | exact Ext.refl _ | assumption | exact held_left (by assumption) | apply Ext.drewN | apply Ext.drew | apply Ext.alloc | (refine Ext.setCell ?_ (by first | (simp; done) | (simp; omega) | omega) _) | (refine Ext.trans ?_ (by assumption)) | (refine Ext.trans ?_ (held_left (by assumption)))))))).mono ?_; rintro e w1 ⟨rfl, hb1⟩; have hE1 : Ext w w1 := (by (repeat (with_reducible (first | exact Ext.refl _ | assumption | exact held_left (by assumption) | apply Ext.drewN | apply Ext.drew | apply Ext.alloc | (refine Ext.setCell ?_ (by first | (simp; done) | (simp; omega) | omega) _) | (refine Ext.trans ?_ (by assumption)) | (refine Ext.trans ?_ (held_left (by assumption))))))); have g0 := ((Blk.new w #[.int .u32 oid, .int .u32 ver, .string nm, .int .u8 id, .slice a2 cols.length c2] 36).ext hb1).cell)
        | (go_at_call 50; refine (HFD.out _ (by (repeat (with_reducible (first | exact Ext.refl _ | assumption | exact held_left (by assumption) | apply Ext.drewN | apply Ext.drew | apply Ext.alloc | (refine Ext.setCell ?_ (by first | (simp; done) | (simp; omega) | omega) _) | (refine Ext.trans ?_ (by assumption)) | (refine Ext.trans ?_ (held_left (by assumption)))))))).mono ?_; rintro e w2 ⟨rfl, hb2⟩; have hE2 : Ext w w2 := (by (repeat (with_reducible (first | exact Ext.refl _ | assumption | exact held_left (by assumption) | apply Ext.drewN | apply Ext.drew | apply Ext.alloc | (refine Ext.setCell ?_ (by first | (simp; done) | (simp; omega) | omega) _) | (refine Ext.trans ?_ (by assumption)) | (refine Ext.trans ?_ (held_left (by assumption))))))); have hgc2 := (HC.out.ptr.ext hE2).cell))
      go_ret
      exact CAddPost.keep HA.out (by decide) HC.out hE2
    · have HA := Hid.mk' (HAE3.out.trans (if_neg h64))
      have h64' : ps.length < 64 := by omega
      clear HAE3 h64
      go_enter Try.func19, Try.ntmps19
      go_upto_region 9 with (first
        | (go_at_call 53; refine (HR8.out _ (by (repeat (with_reducible (first | exact Ext.refl _ | assumption | exact held_left (by assumption) | apply Ext.drewN | apply Ext.drew | apply Ext.alloc | (refine Ext.setCell ?_ (by first | (simp; done) | (simp; omega) | omega) _) | (refine Ext.trans ?_ (by assumption)) | (refine Ext.trans ?_ (held_left (by assumption)))))))).mono ?_; rintro e w1 ⟨rfl, hb1⟩; have hE1 : Ext w w1 := (by (repeat (with_reducible (first | exact Ext.refl _ | assumption | exact held_left (by assumption) | apply Ext.drewN | apply Ext.drew | apply Ext.alloc | (refine Ext.setCell ?_ (by first | (simp; done) | (simp; omega) | omega) _) | (refine Ext.trans ?_ (by assumption)) | (refine Ext.trans ?_ (held_left (by assumption))))))); have g0 := ((Blk.new w #[.int .u32 oid, .int .u32 ver, .string nm, .int .u8 id, .slice a2 cols.length c2] 36).ext hb1).cell; have HB0 := Hid.mk' ((Blk.new w #[.int .u32 oid, .int .u32 ver, .string nm, .int .u8 id, .slice a2 cols.length c2] 36).ext hb1))
        | (go_at_call 50; refine (HFD.out _ (by (repeat (with_reducible (first | exact Ext.refl _ | assumption | exact held_left (by assumption) | apply Ext.drewN | apply Ext.drew | apply Ext.alloc | (refine Ext.setCell ?_ (by first | (simp; done) | (simp; omega) | omega) _) | (refine Ext.trans ?_ (by assumption)) | (refine Ext.trans ?_ (held_left (by assumption)))))))).mono ?_; rintro e w2 ⟨rfl, hb2⟩; have hE2 : Ext w w2 := (by (repeat (with_reducible (first | exact Ext.refl _ | assumption | exact held_left (by assumption) | apply Ext.drewN | apply Ext.drew | apply Ext.alloc | (refine Ext.setCell ?_ (by first | (simp; done) | (simp; omega) | omega) _) | (refine Ext.trans ?_ (by assumption)) | (refine Ext.trans ?_ (held_left (by assumption))))))); have hgc2 := (HC.out.ptr.ext hE2).cell; have HB2 := Hid.mk' (HB0.out.ext hb2)))
      have HE2 := Hid.mk' hE2
      have HK2 : Hid (∀ W, Ext w2 W → Ext w W) := Hid.mk' (fun W h => HE2.out.trans h)
      have hA0 : Hid ((fun W : World => (∀ o, W.cell? ⟨g, o, none⟩ = (#[Value.slice a ps.length cap] : Array Value)[o]?) ∧ (∀ o, W.cell? ⟨w.heap.size, o, none⟩ = (#[.int .u32 oid, .int .u32 ver, .string nm, .int .u8 id, .slice a2 cols.length c2] : Array Value)[o]?)) w2.drew) := Hid.mk' ⟨hgc2, HB2.out.cell⟩
      clear hE1 hE2 hb1 hb2 g0 hgc
      refine wp_region_head 10 (fun W : World => (∀ o, W.cell? ⟨g, o, none⟩ = (#[Value.slice a ps.length cap] : Array Value)[o]?) ∧ (∀ o, W.cell? ⟨w.heap.size, o, none⟩ = (#[.int .u32 oid, .int .u32 ver, .string nm, .int .u8 id, .slice a2 cols.length c2] : Array Value)[o]?)) (by kernel_rfl) (by decide) ?_
      (refine wpHd_take (i := 0) (v := ?_) rfl (by kernel_rfl) (by kernel_rfl) (by kernel_rfl) (fun _ _ _ h => h) (Or.inl ⟨by rfl, ?_⟩) hA0.out ?_; rotate_left 1; · (intro w' hS'; (try dsimp only at hS'); go_split_ands; go_simp; try with_reducible rfl))
      (refine wpHd_take (i := 1) (v := ?_) rfl (by kernel_rfl) (by kernel_rfl) (by kernel_rfl) (fun _ _ _ h => h) (Or.inl ⟨by rfl, ?_⟩) hA0.out ?_; rotate_left 1; · (intro w' hS'; (try dsimp only at hS'); go_split_ands; go_simp; try with_reducible rfl))
      (refine wpHd_take (i := 2) (v := ?_) rfl (by kernel_rfl) (by kernel_rfl) (by kernel_rfl) (fun _ _ _ h => h) (Or.inl ⟨by rfl, ?_⟩) hA0.out ?_; rotate_left 1; · (intro w' hS'; (try dsimp only at hS'); go_split_ands; go_simp; try with_reducible rfl))
      (refine wpHd_take (i := 3) (v := ?_) rfl (by kernel_rfl) (by kernel_rfl) (by kernel_rfl) (fun _ _ _ h => h) (Or.inl ⟨by rfl, ?_⟩) hA0.out ?_; rotate_left 1; · (intro w' hS'; (try dsimp only at hS'); go_split_ands; go_simp; try with_reducible rfl))
      (refine wpHd_take (i := 4) (v := ?_) rfl (by kernel_rfl) (by kernel_rfl) (by kernel_rfl) (fun _ _ _ h => h) (Or.inl ⟨by rfl, ?_⟩) hA0.out ?_; rotate_left 1; · (intro w' hS'; (try dsimp only at hS'); go_split_ands; go_simp; try with_reducible rfl))
      (refine wpHd_take (i := 5) (v := ?_) rfl (by kernel_rfl) (by kernel_rfl) (by kernel_rfl) (fun _ _ _ h => h) (Or.inl ⟨by rfl, ?_⟩) hA0.out ?_; rotate_left 1; · (intro w' hS'; (try dsimp only at hS'); go_split_ands; go_simp; try with_reducible rfl))
      (refine wpHd_take (i := 6) (v := ?_) rfl (by kernel_rfl) (by kernel_rfl) (by kernel_rfl) (fun _ _ _ h => h) (Or.inl ⟨by rfl, ?_⟩) hA0.out ?_; rotate_left 1; · (intro w' hS'; (try dsimp only at hS'); go_split_ands; go_simp; try with_reducible rfl))
      refine wpHd_one (i := 7) rfl rfl (by kernel_rfl) (fun K hK => ?_)
      go_simp
      refine (HOW.out _ (HK2.out _ (Ext.refl w2).drew) (by omega)).mono ?_
      rintro e w4 ⟨⟨r', a', k'⟩, rfl, hqr, hqo, hb4⟩
      simp only at hqr
      subst hqr
      have HX4 : Hid (Ext w2 w4) := Hid.mk' ((Ext.refl w2).drew.trans hb4)
      have HQO := Hid.mk' hqo
      simp only
      refine hK.out _ _ ⟨((HC.out.ptr.ext HE2.out).ext HX4.out).cell, (HB2.out.ext HX4.out).cell⟩ (fun hA => ?_)
      clear hK K hA hA0 hb4 hqo hgc2
      refine wpHd_one (i := 8) rfl rfl (by kernel_rfl) (fun K hK => ?_)
      go_simp
      have HX5 : Hid (Ext w2 (w4.alloc (.cells #[.int .u32 oid, .int .u32 ver, .string nm, .int .u8 id, .slice a' cols.length k'] 36))) := Hid.mk' (HX4.out.alloc _)
      refine hK.out _ _ ⟨((HC.out.ptr.ext HE2.out).ext HX5.out).cell, (HB2.out.ext HX5.out).cell⟩ (fun hA => ?_)
      clear hK K hA
      obtain ⟨w5, hw5⟩ : ∃ w5, w5 = w4.alloc (.cells #[.int .u32 oid, .int .u32 ver, .string nm, .int .u8 id, .slice a' cols.length k'] 36) := ⟨_, rfl⟩
      have HV5 : Hid (Blk w5 w4.heap.size #[.int .u32 oid, .int .u32 ver, .string nm, .int .u8 id, .slice a' cols.length k'] 36) := Hid.mk' (by rw [hw5]; exact Blk.new _ _ _)
      have HQ5 : Hid (RR.owned w2.heap.size w5 (⟨⟨oid, ver, nm, id, cols⟩, a', k'⟩ : RR)) := Hid.mk' (by rw [hw5]; exact RR.owned.ext HQO.out ((Ext.refl w4).alloc _))
      have hz5 : w4.heap.size < w5.heap.size := HV5.out.lt
      have hz4 : w2.heap.size ≤ w4.heap.size := HX4.out.size
      have hz2 : w.heap.size ≤ w2.heap.size := HE2.out.size
      rw [← hw5] at HX5 ⊢
      clear hw5
      have HC5 : Hid (Ca w5 N g (.slice a ps.length cap) ps) := Hid.mk' ((HC.out.ext HE2.out).ext HX5.out)
      have hown5 := HC5.out.own
      have HOL : Hid (∀ b, (Value.slice a ps.length cap).ownBlock = some b → b < w.heap.size) := Hid.mk' (fun b hb => (HC.out.own.lt b hb).2)
      have hins := ins_any N ps.length P cap w4.heap.size a ((ps.map RR.cells).flatten) (RR.cells (⟨⟨oid, ver, nm, id, cols⟩, a', k'⟩ : RR)) w5 hown5 rfl HV5.out (by intro u hu; simp [RR.cells] at hu; rcases hu with rfl | rfl | rfl | rfl | rfl <;> rfl) (RR.one ps) (by omega) hPn (fun e => by have := HOL.out _ e; omega) (by have := HC.out.gN; omega)
      have HINS := Hid.mk' hins
      clear hins hown5
      refine wpHd_one (i := 9) rfl rfl (by kernel_rfl) (fun K hK => ?_)
      go_simp
      refine HINS.out.mono ?_
      rintro e w6 ⟨v', rfl, ho6, hg6, hat6⟩
      have hbk : ∀ k, k < w5.heap.size → (Value.slice a ps.length cap).ownBlock ≠ some k → w6.heap[k]? = w5.heap[k]? := fun k hk hn => hg6.block k hk (fun e => hn e.symm)
      have hgl := HC5.out.ptr.lt
      refine hK.out _ _ ⟨Blk.cell ((hbk g hgl HC5.out.gv).trans HC5.out.ptr), Blk.cell ((hbk w.heap.size (by omega) (fun e => by have := HOL.out _ e; omega)).trans (HB2.out.ext HX5.out))⟩ (fun hA => ?_)
      clear hK K hA
      have hfl := insP_flat ps (⟨⟨oid, ver, nm, id, cols⟩, a', k'⟩ : RR)
      simp only [← HPP.out] at hfl
      rw [← hfl] at ho6
      obtain ⟨a6, c6, rfl⟩ := owns_shape ho6
      have HFIN := Hid.mk' (Ca.ins HC5.out HQ5.out.in (fun h0 b o e => by
        obtain ⟨h1, h2⟩ := HQ5.out.at_ e
        have := HC.out.gN
        exact ⟨by omega, fun e2 => by have := HOL.out _ e2; omega, by omega, h2⟩) HA.out ⟨HWB.out.nm, HWB.out.cs, HWB.out.n, HWB.out.idn⟩ ho6 hg6 hat6)
      have HG6 : Hid (Blk w6 g #[.slice a ps.length cap] 116) := Hid.mk' ((hbk g hgl HC5.out.gv).trans HC5.out.ptr)
      have HAT : Hid (∀ b, (Value.slice a6 (ps.length + 1) c6).ownBlock = some b → (Value.slice a ps.length cap).ownBlock = some b ∨ w.heap.size ≤ b) := Hid.mk' (fun b hb => by
        rcases hat6 with h | ⟨b', h, h2⟩
        · left; rw [← h]; exact hb
        · right; rw [h] at hb; injection hb with hb; omega)
      have hg6c := HG6.out.cell
      have hg6f := HG6.out.frozen
      have hg6z := HG6.out.lt
      have HX5w : Hid (Ext w w5) := Hid.mk' (HE2.out.trans HX5.out)
      clear ho6 hg6 hat6 hbk hfl
      refine wpHd_tail (by kernel_rfl) ?_
      simp only [List.drop_succ_cons, List.drop_zero]
      go_wp2
      go_ret
      have hadd : addP ps (⟨⟨oid, ver, nm, id, cols⟩, a', k'⟩ : RR) = insP ps (⟨⟨oid, ver, nm, id, cols⟩, a', k'⟩ : RR) := by unfold addP; rw [if_pos HA.out]
      exact ⟨_, ⟨⟨oid, ver, nm, id, cols⟩, a', k'⟩, by rw [HA.out]; rfl, rfl, by rw [hadd]; exact HFIN.out.1, (Kp.of_ext HX5w.out).trans HFIN.out.2 (fun x hx _ => hx), HAT.out⟩

end Go.Proofs.Ythdjinicmnhgpaa

/-
A catalog of relations: the program's New, Of, Len, Get; the laws' Own of relations, Ref.
-/
namespace Go.Proofs.Ythdjinicmnhgpaa
open Go.RowKit

theorem Ca.new (w : World) : Ca (w.alloc (.cells #[.slice none 0 0] 116)) w.heap.size w.heap.size (.slice none 0 0) [] :=
  ⟨Blk.new _ _ _, World.ownsRow_nil _ _ _ _, Nat.le_refl _, (by intro h; cases h), (fun p h => by cases h), (fun p h => by cases h), CatOk.nil, (fun p h => by cases h)⟩

set_option maxRecDepth 20000 in set_option maxHeartbeats 400000 in
theorem new_any (w : World) : Calls Try.prog 25 #[] w fun e w' => e = .returned (.pointer (some ⟨w.heap.size, 0, none⟩)) ∧ w' = w.alloc (.cells #[.slice none 0 0] 116) := by
  go_enter Try.func25, Try.ntmps25
  go_wp2
  go_ret
  exact ⟨rfl, rfl⟩

set_option maxRecDepth 20000 in set_option maxHeartbeats 400000 in
theorem len_any (N g : Nat) (c : Value) (ps : List RR) (w : World) (hc : Ca w N g c ps) : Calls Try.prog 24 #[.pointer (some ⟨g, 0, none⟩)] w fun e w' => e = .returned (.int .i64 (ps.length : Nat)) ∧ Ext w w' := by
  obtain ⟨a, ca, rfl⟩ := hc.shape
  have g0 := hc.ptr.cell
  have z0 := hc.ptr.lt
  clear hc
  go_enter Try.func24, Try.ntmps24
  go_wp2
  go_ret
  exact ⟨rfl, by (repeat (with_reducible (first | exact Ext.refl _ | assumption | exact held_left (by assumption) | apply Ext.drewN | apply Ext.drew | apply Ext.alloc | (refine Ext.setCell ?_ (by first | (simp; done) | (simp; omega) | omega) _) | (refine Ext.trans ?_ (by assumption)) | (refine Ext.trans ?_ (held_left (by assumption))))))⟩

set_option maxRecDepth 20000 in set_option maxHeartbeats 400000 in
theorem ref9_any (o v : Int) (w : World) : Calls Try.prog 21 #[.agg #[.int .u32 o, .int .u32 v]] w fun e w' => e = .returned (.agg #[.int .u32 o, .int .u32 v]) ∧ Ext w w' := by
  go_enter Try.func21, Try.ntmps21
  go_wp2
  simp [bodyPost, results, Try.results21, go_sem, *]
  (repeat (with_reducible (first | exact Ext.refl _ | assumption | exact held_left (by assumption) | apply Ext.drewN | apply Ext.drew | apply Ext.alloc | (refine Ext.setCell ?_ (by first | (simp; done) | (simp; omega) | omega) _) | (refine Ext.trans ?_ (by assumption)) | (refine Ext.trans ?_ (held_left (by assumption))))))

theorem own9_one (p : RR) (w : World) (hp : p.in w) (hn : p.r.cols.length ≤ 5864062014634) :
    Calls Try.prog 20 #[p.agg] w fun e w' => ∃ q : RR, e = .returned q.agg ∧ q.r = p.r ∧ q.r.cols.length ≤ q.c ∧ q.owned w.heap.size w' ∧ Ext w w' := by
  obtain ⟨⟨oid, ver, nm, id, cols⟩, a, cap⟩ := p
  refine (own8_big oid ver nm id cols a cap w hp hn).mono fun e w' h => ?_
  obtain ⟨a', c', h1, h2, h3, h4⟩ := h
  exact ⟨⟨⟨oid, ver, nm, id, cols⟩, a', c'⟩, h1, rfl, h2, h3, h4⟩

/-- Relations of the call's own, in a row of its own, all from N on. -/
structure OwnR (W : World) (N : Nat) (ps : List RR) (k : Nat) (v : Value) (qs : List RR) : Prop where
  own : W.ownsRow N 36 5 v k (qs.map RR.cells).flatten
  len : qs.length = k
  r : ∀ i (h : i < qs.length) (h2 : i < ps.length), qs[i].r = ps[i].r
  cap : ∀ q ∈ qs, q.r.cols.length ≤ q.c
  sl : ∀ q ∈ qs, q.owned N W
  ne : ∀ q ∈ qs, ∀ b o, q.a = some ⟨b, o, none⟩ → v.ownBlock ≠ some b
theorem OwnR.nil (W : World) (N : Nat) (ps : List RR) : OwnR W N ps 0 (.slice none 0 0) [] :=
  ⟨World.ownsRow_nil _ _ _ _, rfl, (fun i h => absurd h (Nat.not_lt_zero _)), (fun q h => by cases h), (fun q h => by cases h), (fun q h => by cases h)⟩
theorem OwnR.ext {W W' : World} {N k : Nat} {ps qs : List RR} {v : Value} (h : OwnR W N ps k v qs) (he : Ext W W') : OwnR W' N ps k v qs :=
  ⟨owns_ext h.own he, h.len, h.r, h.cap, fun q hq => (h.sl q hq).ext he, h.ne⟩
theorem OwnR.push {W W' : World} {N k : Nat} {ps qs : List RR} {v v' : Value} {q : RR} (h : OwnR W N ps k v qs) (hk : k < ps.length) (hr : q.r = ps[k].r) (hc : q.r.cols.length ≤ q.c) (hs : q.owned N W) (hn : ∀ b o, q.a = some ⟨b, o, none⟩ → v.ownBlock ≠ some b)
    (hg : W.grownBy W' v.ownBlock) (hat : v'.ownBlock = v.ownBlock ∨ v'.ownBlock = some W.heap.size) (ho : W'.ownsRow N 36 5 v' (k + 1) ((qs.map RR.cells).flatten ++ q.cells)) : OwnR W' N ps (k + 1) v' (qs ++ [q]) := by
  have hall : ∀ x ∈ qs ++ [q], x.r.cols.length ≤ x.c ∧ x.owned N W ∧ ∀ b o, x.a = some ⟨b, o, none⟩ → v.ownBlock ≠ some b := fun x hx => by
    rcases List.mem_append.1 hx with hx | hx
    · exact ⟨h.cap x hx, h.sl x hx, h.ne x hx⟩
    · obtain rfl : x = q := by simpa using hx
      exact ⟨hc, hs, hn⟩
  have hk1 : Kp (fun k => v.ownBlock = some k) W W' := Kp.of_grown hg
  refine ⟨by simpa using ho, by rw [List.length_append, h.len]; rfl, fun i h1 h2 => ?_, fun x hx => (hall x hx).1, fun x hx => ?_, fun x hx b o e => ?_⟩
  · by_cases hi : i < qs.length
    · rw [List.getElem_append_left hi]; exact h.r i hi h2
    · have hql := h.len
      rw [List.length_append, List.length_singleton] at h1
      obtain rfl : i = k := by omega
      rw [List.getElem_append_right (by omega)]
      simpa using hr
  · obtain ⟨-, h2, h3⟩ := hall x hx
    refine owns_kp h2 hk1 (fun b hb => ?_)
    obtain ⟨xr, xa, xc⟩ := x
    cases xa with
    | none => cases hb
    | some ad =>
      obtain ⟨b', o', sp⟩ := ad
      have hb' : b' = b := by simpa [Value.ownBlock] using hb
      subst hb'
      rcases h2.2 with ⟨hv, -⟩ | ⟨g, cap, cur, hv, -⟩
      · cases hv
      · simp only [Value.slice.injEq, Option.some.injEq, Addr.mk.injEq] at hv
        obtain ⟨⟨rfl, rfl, rfl⟩, -⟩ := hv
        exact h3 _ _ rfl
  · obtain ⟨-, h2, h3⟩ := hall x hx
    rcases hat with h4 | h4
    · rw [h4]; exact h3 b o e
    · rw [h4]; intro h5; injection h5 with h5
      have := (h2.at_ e).2; omega
theorem OwnR.rl {W : World} {N : Nat} {ps qs : List RR} {v : Value} (h : OwnR W N ps ps.length v qs) : RL W v qs := ⟨Sl.of_owns (base := N) (e := 36) (by rw [List.length_map, h.len]; exact h.own) (RR.len qs), fun q hq => (h.sl q hq).in⟩
theorem OwnR.rs {W : World} {N : Nat} {ps qs : List RR} {v : Value} (h : OwnR W N ps ps.length v qs) : qs.map RR.r = ps.map RR.r := by
  apply List.ext_getElem
  · rw [List.length_map, List.length_map, h.len]
  · intro i h1 h2
    rw [List.getElem_map, List.getElem_map]
    rw [List.length_map] at h1 h2
    exact h.r i h1 h2
theorem OwnR.wb {W : World} {N : Nat} {ps qs : List RR} {v : Value} (h : OwnR W N ps ps.length v qs) (hw : ∀ p ∈ ps, p.r.wb) : ∀ q ∈ qs, q.r.wb := fun q hq => by
  obtain ⟨i, hi, rfl⟩ := List.getElem_of_mem hq
  rw [h.r i hi (by rw [← h.len]; exact hi)]
  exact hw _ (List.getElem_mem _)

set_option maxRecDepth 100000 in set_option maxHeartbeats 4000000 in
theorem own9_any (ps : List RR) (a : Option Addr) (cap : Nat) (w : World) (hl : RL w (.slice a ps.length cap) ps) (hlen : ps.length ≤ 1000) (hb : ∀ p ∈ ps, p.r.wb) :
    Calls Try.prog 13 #[.slice a ps.length cap] w fun e w' => ∃ a' c' qs, e = .returned (.slice a' ps.length c') ∧ OwnR w' w.heap.size ps ps.length (.slice a' ps.length c') qs ∧ Ext w w' := by
  obtain ⟨i0, hi, hz0, hz1, hz2⟩ := info_parts Try.infoRel
  have HL := Hid.mk' hl
  have HB := Hid.mk' hb
  clear hl hb
  go_enter Try.func13, Try.ntmps13
  go_wp2
  go_loopw [3, 4] (fun v i wr => ∃ (k : Nat) (qs : List RR), k ≤ ps.length ∧ i = .int .i64 k ∧ Hid (OwnR wr w.heap.size ps k v qs) ∧ Hid (Ext w wr)) (fun _ i _ => ps.length - (intOf i).toNat)
  case atStart => exact ⟨0, [], Nat.zero_le _, rfl, Hid.mk' (OwnR.nil _ _ _), Hid.mk' (Ext.refl _)⟩
  case round =>
    obtain ⟨k, qs, hk, rfl, hown, hE⟩ := hrel
    by_cases hlt : k < ps.length
    · obtain ⟨b, o, rfl, hb, hx⟩ := HL.out.row.at_ (i := k) (by simpa using hlt)
      obtain ⟨f0, f1, f2, f3, f4⟩ := RR.at_ hlt hx hb hE.out
      have hbw : b < wr.heap.size := Nat.lt_of_lt_of_le hb hE.out.size
      have HO := Hid.mk' (fun W (h : Ext wr W) => own9_one ps[k] W ((HL.out.sl _ (List.getElem_mem hlt)).ext (hE.out.trans h)) (HB.out _ (List.getElem_mem hlt)).n)
      obtain ⟨p, hp⟩ : ∃ p, p = ps[k] := ⟨_, rfl⟩
      rw [← hp] at f0 f1 f2 f3 f4 HO
      unfold RR.agg at HO
      have HP := Hid.mk' hp
      have hwz := hE.out.size
      clear hx hp
      go_wp2_with (first
        | (go_at_call 20; refine (HO.out _ (Ext.refl _)).mono ?_; rintro e w1 ⟨⟨r', a', c'⟩, rfl, hr, hcp, ho, hb1⟩; simp only at hr; subst hr; have HQ := Hid.mk' ho; have HCP := Hid.mk' hcp; have HB1 := Hid.mk' hb1; have hz1' := hb1.size; clear ho hcp hb1; try simp only)
        | (at_builtin; refine wpList_append_own_at _ rfl _ _ 25 rfl w.heap.size 36 i0 _ 5 56 Try.underlying25 hi hz0 hz1 hz2 rfl (by decide) _ _ _ rfl (owns_ext hown.out.own (HB1.out.alloc _)) ⟨_, 0, none⟩ 1 1 (RR.cells ⟨p.r, a', c'⟩) rfl rfl (cells_new _ #[.int .u32 p.r.oid, .int .u32 p.r.ver, .string p.r.nm, .int .u8 p.r.id, .slice a' p.r.cols.length c'] _) (by intro u hu; simp [RR.cells] at hu; rcases hu with rfl | rfl | rfl | rfl | rfl <;> rfl) (by unfold maxLen; omega) (by omega) (by simp; omega) ?_))
      intro v' w2 hown' hgrow _ hat
      have HE2 := Hid.mk' ((hE.out.trans HB1.out).alloc (.cells #[.int .u32 p.r.oid, .int .u32 p.r.ver, .string p.r.nm, .int .u8 p.r.id, .slice a' p.r.cols.length c'] 36) |>.grown (owns_ext hown.out.own (HB1.out.alloc _)) hgrow)
      have HN := Hid.mk' ((hown.out.ext (HB1.out.alloc (.cells #[.int .u32 p.r.oid, .int .u32 p.r.ver, .string p.r.nm, .int .u8 p.r.id, .slice a' p.r.cols.length c'] 36))).push (q := ⟨p.r, a', c'⟩) hlt (by rw [← HP.out]) HCP.out ((RR.owned.ext HQ.out ((Ext.refl w1).alloc _)).mono hwz) (fun b o e h4 => by
          have h5 := owns_lt3 hown.out.own h4
          have h6 := (RR.owned.at_ HQ.out e).1
          omega) hgrow (by first | exact hat | (rw [World.size_alloc]; exact hat)) hown')
      clear hown' hgrow hat hown hE
      go_wp2
      go_roundw
      case rel => exact ⟨k + 1, _, by omega, by go_num, HN, HE2⟩
      case measure => simp [intOf]; omega
    · obtain rfl : k = ps.length := by omega
      obtain ⟨a', c', rfl⟩ := owns_shape hown.out.own
      go_wp2
      go_ret
      exact ⟨a', c', qs, rfl, hown.out, hE.out⟩

end Go.Proofs.Ythdjinicmnhgpaa

/-
A catalog of relations: the program's Of, Get.
-/
namespace Go.Proofs.Ythdjinicmnhgpaa
open Go.RowKit

theorem Ca.S_ge {W : World} {N g : Nat} {c : Value} {ps : List RR} (h : Ca W N g c ps) : ∀ x, Ca.S g c x → N ≤ x := fun x hx => by
  rcases hx with rfl | hx
  · exact h.gN
  · exact (h.own.lt x hx).1

def COfPost (l : List Rl) (w : World) (e : Ending) (w' : World) : Prop :=
  ∃ pv, e = .returned (.tuple #[.pointer pv, .int .i64 (ofPl l : Nat), .int .i64 (ofE l)]) ∧ (ofE l = 0 → pv = some ⟨w.heap.size, 0, none⟩ ∧ ∃ c qs, Ca w' w.heap.size w.heap.size c qs ∧ qs.map RR.r = ofUp l l.length) ∧ (ofE l ≠ 0 → pv = none) ∧ Ext w w'

set_option maxRecDepth 100000 in set_option maxHeartbeats 4000000 in
theorem cof_any (ps : List RR) (a : Option Addr) (cap : Nat) (w : World) (hl : RL w (.slice a ps.length cap) ps) (hcap : ∀ p ∈ ps, p.r.cols.length ≤ p.c) (hb : ∀ p ∈ ps, p.r.wb) (hlen : ps.length ≤ 1000) :
    Calls Try.prog 14 #[.slice a ps.length cap] w (COfPost (ps.map RR.r) w) := by
  have HL := Hid.mk' hl
  have HB := Hid.mk' hb
  have HCP := Hid.mk' hcap
  clear hl hb hcap
  go_enter Try.func14, Try.ntmps14
  go_wp2_with (go_at_call 25; refine (new_any _).mono ?_; rintro e w1 ⟨rfl, rfl⟩)
  go_loopw [12] (fun i wr => ∃ (k : Nat) (c : Value) (qs : List RR), k ≤ ps.length ∧ i = .int .i64 k ∧ Hid (∀ j, j < k → ofAt (ps.map RR.r) j = 0) ∧ Hid (Ca wr w.heap.size w.heap.size c qs) ∧ Hid (qs.map RR.r = ofUp (ps.map RR.r) k) ∧ Hid (Ext w wr)) (fun i _ => ps.length - (intOf i).toNat)
  case atStart => exact ⟨0, _, [], Nat.zero_le _, rfl, Hid.mk' (fun j h => by omega), Hid.mk' (Ca.new w), Hid.mk' rfl, Hid.mk' (by (repeat (with_reducible (first | exact Ext.refl _ | assumption | exact held_left (by assumption) | apply Ext.drewN | apply Ext.drew | apply Ext.alloc | (refine Ext.setCell ?_ (by first | (simp; done) | (simp; omega) | omega) _) | (refine Ext.trans ?_ (by assumption)) | (refine Ext.trans ?_ (held_left (by assumption)))))))⟩
  case round =>
    obtain ⟨k, c, qs, hk, rfl, hz, hca, hqs, hE⟩ := hrel
    by_cases hlt : k < ps.length
    · obtain ⟨b, o, rfl, hb, hx⟩ := HL.out.row.at_ (i := k) (by simpa using hlt)
      obtain ⟨f0, f1, f2, f3, f4⟩ := RR.at_ hlt hx hb hE.out
      have hbw : b < wr.heap.size := Nat.lt_of_lt_of_le hb hE.out.size
      have hin := HL.out.sl _ (List.getElem_mem hlt)
      have hwb := HB.out _ (List.getElem_mem hlt)
      have hcp := HCP.out _ (List.getElem_mem hlt)
      have hlt2 : k < (ps.map RR.r).length := by simpa using hlt
      have HS : Hid (ofUp (ps.map RR.r) (k + 1) = addL (qs.map RR.r) ps[k].r) := Hid.mk' (by rw [ofUp_succ hlt2, List.getElem_map, hqs.out])
      have HAT : Hid (ofAt (ps.map RR.r) k = addE (qs.map RR.r) ps[k].r) := Hid.mk' (by unfold ofAt; rw [dif_pos hlt2, List.getElem_map, hqs.out])
      obtain ⟨p, hp⟩ : ∃ p, p = ps[k] := ⟨_, rfl⟩
      rw [← hp] at f0 f1 f2 f3 f4 hin hwb hcp HS HAT
      have HAD := Hid.mk' (fun W (h : Ext wr W) => cadd_any w.heap.size w.heap.size c qs p W (hca.out.ext h) (hin.ext (hE.out.trans h)) hcp hwb)
      unfold CAddPost RR.agg at HAD
      rw [← HAT.out] at HAD
      clear hx hp hin hwb hcp
      obtain ⟨E, hEE⟩ : ∃ E, E = ofAt (ps.map RR.r) k := ⟨_, rfl⟩
      rw [← hEE] at HAD
      have HSG := Hid.mk' hca.out.S_ge
      by_cases h0 : E = 0
      · have H0 := Hid.mk' (hEE.symm.trans h0)
        subst h0
        clear hEE
        go_wp2_with (go_at_call 19; refine (HAD.out _ (by (repeat (with_reducible (first | exact Ext.refl _ | assumption | exact held_left (by assumption) | apply Ext.drewN | apply Ext.drew | apply Ext.alloc | (refine Ext.setCell ?_ (by first | (simp; done) | (simp; omega) | omega) _) | (refine Ext.trans ?_ (by assumption)) | (refine Ext.trans ?_ (held_left (by assumption)))))))).mono ?_; rintro e w1 ⟨c', q', rfl, hqr, hc', hkp, -⟩; have HC' := Hid.mk' hc'; have HQR := Hid.mk' hqr; have HE1 := Hid.mk' (Kp.ext (show Ext w _ from hE.out.trans (by (repeat (with_reducible (first | exact Ext.refl _ | assumption | exact held_left (by assumption) | apply Ext.drewN | apply Ext.drew | apply Ext.alloc | (refine Ext.setCell ?_ (by first | (simp; done) | (simp; omega) | omega) _) | (refine Ext.trans ?_ (by assumption)) | (refine Ext.trans ?_ (held_left (by assumption)))))))) (fun x hx _ => HSG.out x hx) hkp); clear hc' hqr hkp)
        go_roundw
        case rel => exact ⟨k + 1, c', _, by omega, by go_num, Hid.mk' (fun j hj => by
          by_cases e : j = k
          · subst e; exact H0.out
          · exact hz.out j (by omega)), HC', Hid.mk' (by rw [addP_r, HS.out, HQR.out]), HE1⟩
        case measure => simp [intOf]; omega
      · have h0' : (E != 0) = true := by simpa using h0
        have HF := Hid.mk' (show ofE (ps.map RR.r) = E by unfold ofE; rw [firstE_at hz.out hlt2 (by rw [← hEE]; exact h0), hEE])
        have HPL := Hid.mk' (show ofPl (ps.map RR.r) = k from plE_at hz.out (by rw [← hEE]; exact h0) hlt2)
        have H0 := Hid.mk' h0
        clear h0 hEE
        go_wp2_with (go_at_call 19; refine (HAD.out _ (by (repeat (with_reducible (first | exact Ext.refl _ | assumption | exact held_left (by assumption) | apply Ext.drewN | apply Ext.drew | apply Ext.alloc | (refine Ext.setCell ?_ (by first | (simp; done) | (simp; omega) | omega) _) | (refine Ext.trans ?_ (by assumption)) | (refine Ext.trans ?_ (held_left (by assumption)))))))).mono ?_; rintro e w1 ⟨c', q', rfl, hqr, hc', hkp, -⟩; have HE1 := Hid.mk' (Kp.ext (show Ext w _ from hE.out.trans (by (repeat (with_reducible (first | exact Ext.refl _ | assumption | exact held_left (by assumption) | apply Ext.drewN | apply Ext.drew | apply Ext.alloc | (refine Ext.setCell ?_ (by first | (simp; done) | (simp; omega) | omega) _) | (refine Ext.trans ?_ (by assumption)) | (refine Ext.trans ?_ (held_left (by assumption)))))))) (fun x hx _ => HSG.out x hx) hkp); clear hc' hqr hkp)
        go_ret3
        exact ⟨none, by rw [HF.out, HPL.out]; rfl, fun h => absurd (HF.out.symm.trans h) H0.out, fun _ => rfl, HE1.out⟩
    · obtain rfl : k = ps.length := by omega
      have HF := Hid.mk' (show ofE (ps.map RR.r) = 0 by unfold ofE; exact firstE_zero (by rw [List.length_map]; exact hz.out))
      have HPL := Hid.mk' (show ofPl (ps.map RR.r) = ps.length by unfold ofPl; rw [plE_zero (by rw [List.length_map]; exact hz.out), List.length_map])
      go_wp2
      go_ret3
      exact ⟨_, by rw [HF.out, HPL.out]; rfl, fun _ => ⟨rfl, c, qs, hca.out, by rw [List.length_map]; exact hqs.out⟩, fun h => absurd HF.out h, hE.out⟩

set_option maxRecDepth 100000 in set_option maxHeartbeats 4000000 in
theorem cget_any (N g : Nat) (c : Value) (ps : List RR) (o v : Int) (w : World) (hc : Ca w N g c ps) :
    Calls Try.prog 15 #[.pointer (some ⟨g, 0, none⟩), .agg #[.int .u32 o, .int .u32 v]] w fun e w' => ∃ q : RR, e = .returned (.tuple #[q.agg, .bool (hasR o v (ps.map RR.r))]) ∧ q.r = ((getP o v ps).getD RR.zero).r ∧ q.owned w.heap.size w' ∧ Ext w w' := by
  obtain ⟨a, cap, rfl⟩ := hc.shape
  have HFD := Hid.mk' (fun W (h : Ext w W) => find_any N g _ ps o v W (hc.ext h))
  have HC := Hid.mk' hc
  have hhas := hc.ok.srt.has o v
  have g0 := hc.ptr.cell
  have z0 := hc.ptr.lt
  clear hc
  obtain ⟨P, hP⟩ : ∃ P, P = posR o v (ps.map RR.r) := ⟨_, rfl⟩
  rw [← hP] at HFD
  cases hh : hasR o v (ps.map RR.r) with
  | false =>
    rw [hh] at HFD
    have HN : Hid (getP o v ps = none) := Hid.mk' (by
      have := getP_is o v ps
      rw [hh] at this
      exact Option.not_isSome_iff_eq_none.1 (by rw [this]; simp))
    clear hh hhas hP
    go_enter Try.func15, Try.ntmps15
    go_wp2_with (go_at_call 50; refine (HFD.out _ (by (repeat (with_reducible (first | exact Ext.refl _ | assumption | exact held_left (by assumption) | apply Ext.drewN | apply Ext.drew | apply Ext.alloc | (refine Ext.setCell ?_ (by first | (simp; done) | (simp; omega) | omega) _) | (refine Ext.trans ?_ (by assumption)) | (refine Ext.trans ?_ (held_left (by assumption)))))))).mono ?_; rintro e w1 ⟨rfl, hb1⟩; have HB1 := Hid.mk' ((Blk.new' (w := w.alloc (.cells #[.int .u32 o, .int .u32 v] 33)) (b := w.heap.size + 1) #[.int .u32 0, .int .u32 0, .string ⟨#[]⟩, .int .u8 0, .slice none 0 0] 36 (by simp)).ext hb1); have g1 := HB1.out.cell; have g1f := HB1.out.frozen; have z1 := HB1.out.lt)
    simp [bodyPost, results, Try.results15, go_sem, *]
    refine ⟨RR.zero, ⟨rfl, by rw [HN.out]; rfl, World.ownsRow_nil _ _ _ _, by (repeat (with_reducible (first | exact Ext.refl _ | assumption | exact held_left (by assumption) | apply Ext.drewN | apply Ext.drew | apply Ext.alloc | (refine Ext.setCell ?_ (by first | (simp; done) | (simp; omega) | omega) _) | (refine Ext.trans ?_ (by assumption)) | (refine Ext.trans ?_ (held_left (by assumption))))))⟩⟩
  | true =>
    rw [hh] at HFD hhas
    have hex := of_decide_eq_true hhas.symm
    obtain ⟨hi, hq⟩ := hex
    simp only [← hP, List.getElem_map] at hi hq
    have hlt : P < ps.length := by simpa using hi
    have HG : Hid (getP o v ps = some ps[P]) := Hid.mk' (getP_at hlt hq (fun j hj hjp hq2 => by
      have := HC.out.ok.srt.at_ (i := j) (j := P) (by simpa using hj) (by simpa using hlt) hjp
      unfold Rl.lt at this
      simp only [List.getElem_map] at this
      rw [hq.1, hq.2, hq2.1, hq2.2] at this
      exact ahead_irr this))
    have HOW := Hid.mk' (fun W (h : Ext w W) => pown_any ps[P] W ((HC.out.sl _ (List.getElem_mem hlt)).ext h) (by have := HC.out.n16 (List.getElem_mem hlt); omega))
    obtain ⟨b, q, rfl, hb, hx⟩ := HC.out.rl.row.at_ (i := P) (by simpa using hlt)
    have HF := Hid.mk' (fun W (h : Ext w W) => RR.at_ hlt hx hb h)
    obtain ⟨p, hp⟩ : ∃ p, p = ps[P] := ⟨_, rfl⟩
    rw [← hp] at HG HOW HF
    unfold RR.agg at HOW
    clear hh hhas hP hi hq hx hp
    go_enter Try.func15, Try.ntmps15
    go_wp2_with (first
      | (go_at_call 50; refine (HFD.out _ (by (repeat (with_reducible (first | exact Ext.refl _ | assumption | exact held_left (by assumption) | apply Ext.drewN | apply Ext.drew | apply Ext.alloc | (refine Ext.setCell ?_ (by first | (simp; done) | (simp; omega) | omega) _) | (refine Ext.trans ?_ (by assumption)) | (refine Ext.trans ?_ (held_left (by assumption)))))))).mono ?_; rintro e w1 ⟨rfl, hb1⟩; have HE1 := Hid.mk' (show Ext ((w.alloc (.cells #[.int .u32 o, .int .u32 v] 33)).alloc (.cells #[.int .u32 0, .int .u32 0, .string ⟨#[]⟩, .int .u8 0, .slice none 0 0] 36)) w1 from hb1); have hEw : Ext w w1 := (((Ext.refl w).alloc _).alloc _).trans hb1; obtain ⟨f0, f1, f2, f3, f4⟩ := HF.out _ hEw; have g2 := (HC.out.ptr.ext hEw).cell; have z2 := (HC.out.ptr.ext hEw).lt; have hbw : b < w1.heap.size := Nat.lt_of_lt_of_le hb hEw.size; have HEw := Hid.mk' hEw; clear hEw hb1)
      | (go_at_call 51; refine (HOW.out _ HEw.out).mono ?_; rintro e w3 ⟨⟨r', a', c'⟩, rfl, hqr, hqo, hb3⟩; simp only at hqr; subst hqr; have HQO := Hid.mk' hqo; have HE3 := Hid.mk' (HE1.out.trans hb3); have HB1 := Hid.mk' ((Blk.new' (w := w.alloc (.cells #[.int .u32 o, .int .u32 v] 33)) (b := w.heap.size + 1) #[.int .u32 0, .int .u32 0, .string ⟨#[]⟩, .int .u8 0, .slice none 0 0] 36 (by simp)).ext HE3.out); have g1 := HB1.out.cell; have g1f := HB1.out.frozen; have z1 := HB1.out.lt; have hzz := HE1.out.size; clear hqo hb3; try simp only))
    simp [bodyPost, results, Try.results15, go_sem, *]
    have hEw : Ext w w3 := (((Ext.refl w).alloc _).alloc _).trans HE3.out
    simp only [World.size_alloc] at hzz
    refine ⟨⟨p.r, a', c'⟩, rfl, by rw [HG.out]; rfl, ?_, by (repeat (with_reducible (first | exact Ext.refl _ | assumption | exact held_left (by assumption) | apply Ext.drewN | apply Ext.drew | apply Ext.alloc | (refine Ext.setCell ?_ (by first | (simp; done) | (simp; omega) | omega) _) | (refine Ext.trans ?_ (by assumption)) | (refine Ext.trans ?_ (held_left (by assumption))))))⟩
    exact owns_base (base := w1.heap.size) (owns_set (owns_set (owns_set (owns_set (owns_set HQO.out (by dsimp only; omega) _) (by dsimp only; omega) _) (by dsimp only; omega) _) (by dsimp only; omega) _) (by dsimp only; omega) _) (by omega)

end Go.Proofs.Ythdjinicmnhgpaa

/-
The youngest relation of an oid: the program's Last, over slices.Backward.
-/
namespace Go.Proofs.Ythdjinicmnhgpaa
open Go.RowKit Go.Shelf
attribute [local go_sem] Oper.semAt_some

abbrev IX (n : Nat) := { i : Nat // i < n }
/-- The last k places, from the last one on. -/
def backUp (n : Nat) : Nat → List (IX n)
  | 0 => []
  | k + 1 => if h : k < n then backUp n k ++ [⟨n - 1 - k, by omega⟩] else backUp n k
theorem backUp_succ {n k : Nat} (h : k < n) : backUp n (k + 1) = backUp n k ++ [⟨n - 1 - k, by omega⟩] := by
  conv => lhs; unfold backUp
  rw [dif_pos h]
theorem backUp_len {n : Nat} : ∀ k, (backUp n k).length ≤ k
  | 0 => Nat.le_refl _
  | k + 1 => by
    have := backUp_len (n := n) k
    unfold backUp
    split
    · rw [List.length_append, List.length_singleton]; omega
    · omega
theorem backUp_mem {n : Nat} : ∀ k, k ≤ n → ∀ x : IX n, x ∈ backUp n k ↔ n - k ≤ x.1
  | 0, _, x => by have := x.2; simp [backUp]; omega
  | k + 1, hk, x => by
    have ih := backUp_mem k (by omega) x
    have hx := x.2
    rw [backUp_succ (by omega), List.mem_append, ih, List.mem_singleton]
    constructor
    · rintro (h | h)
      · omega
      · have := congrArg Subtype.val h; simp only at this; omega
    · intro h
      by_cases e : x.1 = n - 1 - k
      · right; exact Subtype.ext e
      · left; omega
def encB (ps : List RR) (x : IX ps.length) : Array Value := #[.int .i64 (x.1 : Int), .agg #[.int .u32 (ps[x.1]'x.2).r.oid, .int .u32 (ps[x.1]'x.2).r.ver, .string (ps[x.1]'x.2).r.nm, .int .u8 (ps[x.1]'x.2).r.id, .slice (ps[x.1]'x.2).a (ps[x.1]'x.2).r.cols.length (ps[x.1]'x.2).c]]

/-- The youngest one, from the back. -/
theorem lastUp_from {o : Int} {ps : List RR} {i : Nat} (h : ∀ j (hj : j < ps.length), i < j → ps[j].r.oid ≠ o) : ∀ k, k + i + 1 = ps.length → lastUp o ps ps.length = lastUp o ps (i + 1) := by
  have : ∀ m, i + 1 + m ≤ ps.length → lastUp o ps (i + 1 + m) = lastUp o ps (i + 1) := by
    intro m
    induction m with
    | zero => intro _; rfl
    | succ m ih =>
      intro hm
      rw [show i + 1 + (m + 1) = (i + 1 + m) + 1 by omega, lastUp_miss (by omega) (h _ (by omega) (by omega))]
      exact ih (by omega)
  intro k hk
  have h2 := this k (by omega)
  rw [show i + 1 + k = ps.length by omega] at h2
  exact h2
theorem lastUp_none {o : Int} {ps : List RR} (h : ∀ j (hj : j < ps.length), ps[j].r.oid ≠ o) : ∀ k, lastUp o ps k = none
  | 0 => rfl
  | k + 1 => by
    unfold lastUp
    rw [dif_neg (fun q => h k q.1 q.2)]
    exact lastUp_none h k

set_option maxRecDepth 100000 in
set_option maxHeartbeats 2000000 in
theorem bwd1_in (F : Fence) (n : Nat) (hF : F.fn 88) (hro : F.round = none) (hn : 1 ≤ n) (l Bs : Nat) (w0 : World) (a : Option Addr) (cap : Nat) (ps : List RR) (hlen : ps.length ≤ 1000) (hl : Hid (Sl w0 (.slice a ps.length cap) 5 (ps.map RR.cells)))
    (J Jx : List (IX ps.length) → World → Prop) (W0 : World)
    (hY : Hid (∀ pre x W, J pre W → pre.length < ps.length → YieldAt F (n - 1) Try.prog l (encB ps x) W fun e W' => (e = .returned (.bool true) ∧ J (pre ++ [x]) W' ∧ Below w0.heap.size W W') ∨ (e = .returned (.bool false) ∧ Jx (pre ++ [x]) W')))
    (hE : Hid (Ext w0 W0)) (hBs : w0.cell? ⟨Bs, 0, none⟩ = some (.slice a ps.length cap)) (hBz : Bs < w0.heap.size) (h0 : Hid (J [] W0)) :
    CallsIn F n Try.prog 88 #[.func (.yield l) #[] #[], .pointer (some ⟨Bs, 0, none⟩)] W0 fun e W' => (∃ v, e = .returned v) ∧
      ((∃ ys, ys = backUp ps.length ps.length ∧ J ys W') ∨ (∃ pre, (∃ k, k ≤ ps.length ∧ pre = backUp ps.length k) ∧ Jx pre W')) := by
  have HBS : Hid (∀ W, Ext w0 W → W.cell? ⟨Bs, 0, none⟩ = some (.slice a ps.length cap)) := Hid.mk' (fun W h => (h.cells.1 Bs 0 hBz).trans hBs)
  have g00 := HBS.out _ hE.out
  refine callsIn_of_wp Try.func88 rfl hF ?_ hro
  simp only [Try.ntmps88, List.size_toArray, List.length_cons, List.length_nil, Nat.reduceAdd, Nat.reduceSub, Array.replicate_succ, Array.replicate_zero, List.push_toArray, List.append_toArray, List.nil_append, List.cons_append]
  gi_wp2
  clear g00
  gi_loopw [3] (fun i wr => ∃ k : Nat, k ≤ ps.length ∧ i = .int .i64 ((ps.length : Int) - 1 - k) ∧ Hid (J (backUp ps.length k) wr) ∧ Hid (Ext w0 wr)) (fun i _ => (intOf i + 1).toNat)
  case atStart => exact ⟨0, Nat.zero_le _, by go_num, h0, hE⟩
  case round =>
    obtain ⟨k, hk, rfl, hJs, hEw⟩ := hrel
    have g00 := HBS.out _ hEw.out
    by_cases hlt : k < ps.length
    · obtain ⟨m, hm⟩ : ∃ m : Nat, m = ps.length - 1 - k := ⟨_, rfl⟩
      have hmp : m < ps.length := by omega
      have e0 : (ps.length : Int) - 1 - (k : Int) = (m : Int) := by omega
      rw [e0]
      obtain ⟨b, o, rfl, hb, hx⟩ := hl.out.at_ (i := m) (by simpa using hmp)
      obtain ⟨f0, f1, f2, f3, f4⟩ := RR.at_ hmp hx hb hEw.out
      have hHU : backUp ps.length (k + 1) = backUp ps.length k ++ [⟨m, hmp⟩] := by rw [backUp_succ hlt]; congr 2; exact Subtype.ext hm.symm
      have HU := Hid.mk' hHU
      obtain ⟨fn, tmps, assign, body, hy, hR⟩ := hY.out (backUp ps.length k) ⟨m, hmp⟩ wr hJs.out (by have := backUp_len (n := ps.length) k; omega)
      simp only [encB] at hy
      have HM := Hid.mk' hm
      have hbw : b < wr.heap.size := Nat.lt_of_lt_of_le hb hEw.out.size
      clear hx hHU hm
      gi_wp2
      refine hR.mono ?_
      rintro e W3 (⟨rfl, hJ3, hk3⟩ | ⟨rfl, hJx3⟩)
      · gi_wp2
        go_roundw
        case rel => exact ⟨k + 1, by omega, by (have := HM.out); first | go_num | (congr 1; omega), Hid.mk' (by rw [HU.out]; exact hJ3), Hid.mk' (Below.trans hEw.out hk3)⟩
        case measure => have := HM.out; simp [intOf]; try omega
      · gi_wp2
        refine bodyPost_ret (results_none rfl _ _ _) rfl ?_
        exact ⟨⟨_, rfl⟩, .inr ⟨_, ⟨k + 1, by omega, HU.out.symm⟩, hJx3⟩⟩
    · obtain rfl : k = ps.length := by omega
      gi_wp2
      go_end0
      exact ⟨⟨_, rfl⟩, .inl ⟨_, rfl, hJs.out⟩⟩

theorem bwd_stops (F : Fence) (n : Nat) (hF : F.fn 88) (hro : F.round = none) (hn : 1 ≤ n) (Bs : Nat) (w0 : World) (a : Option Addr) (cap : Nat) (ps : List RR) (hlen : ps.length ≤ 1000) (hl : Sl w0 (.slice a ps.length cap) 5 (ps.map RR.cells)) (hBs : w0.cell? ⟨Bs, 0, none⟩ = some (.slice a ps.length cap)) (hBz : Bs < w0.heap.size) :
    SeqStopsK F n Try.prog 88 #[.pointer (some ⟨Bs, 0, none⟩)] (encB ps) (Below w0.heap.size) (fun ys => ys = backUp ps.length ps.length) (fun pre => ∃ k, k ≤ ps.length ∧ pre = backUp ps.length k) ps.length w0 := fun l J Jx W hW _ _ hY h0 =>
  bwd1_in F n hF hro hn l Bs w0 a cap ps hlen hl J Jx W hY hW hBs hBz h0

set_option maxHeartbeats 1000000 in
theorem bwd_in (F : Fence) (n : Nat) (hF : F.fn 57) (hro : F.round = none) (a : Option Addr) (m cap : Nat) (w : World) :
    CallsIn F n Try.prog 57 #[.slice a m cap] w fun e w' => e = .returned (.func (.func 88) #[] #[.pointer (some ⟨w.heap.size, 0, none⟩)]) ∧ w' = w.alloc (.cells #[.slice a m cap] 25) := by
  refine callsIn_of_wp Try.func57 rfl hF ?_ hro
  simp only [Try.ntmps57, List.size_toArray, List.length_cons, List.length_nil, Nat.reduceAdd, Nat.reduceSub, Array.replicate_succ, Array.replicate_zero, List.push_toArray, List.append_toArray, List.nil_append, List.cons_append]
  gi_wp2
  go_ret
  exact ⟨rfl, rfl⟩

theorem owns_kept {A B : World} {row : Option Nat} {base n size : Nat} {e : TypeId} {v : Value} {xs : List Value} (h : A.ownsRow base e size v n xs) (hg : A.grownBy B row) (hr : ∀ r, row = some r → ∃ o : Obj, A.heap[r]? = some o ∧ o.isCells = false) : B.ownsRow base e size v n xs := by
  refine owns_kp h (Kp.of_grown hg) (fun b hb e => ?_)
  obtain ⟨o, ho, hn⟩ := hr b e
  rcases h.2 with ⟨rfl, _⟩ | ⟨g, cap, cur, rfl, hbg, hh, _⟩
  · simp [Value.ownBlock] at hb
  · simp [Value.ownBlock] at hb; subst hb
    rw [hh] at ho; cases ho; simp [Obj.isCells] at hn

/-- What Last leaves in its two results' cells. -/
structure LastAt (N : Nat) (w W : World) (q : RR) : Prop where
  c0 : W.cell? ⟨w.heap.size + 1, 0, none⟩ = some (.int .u32 q.r.oid)
  c1 : W.cell? ⟨w.heap.size + 1, 1, none⟩ = some (.int .u32 q.r.ver)
  c2 : W.cell? ⟨w.heap.size + 1, 2, none⟩ = some (.string q.r.nm)
  c3 : W.cell? ⟨w.heap.size + 1, 3, none⟩ = some (.int .u8 q.r.id)
  c4 : W.cell? ⟨w.heap.size + 1, 4, none⟩ = some (.slice q.a q.r.cols.length q.c)
  b : W.cell? ⟨w.heap.size + 1 + 1, 0, none⟩ = some (.bool true)
  own : q.owned N W
theorem LastAt.kept {N : Nat} {w A B : World} {q : RR} {row : Option Nat} (h : LastAt N w A q) (hg : A.grownBy B row) (hr : ∀ r, row = some r → ∃ o : Obj, A.heap[r]? = some o ∧ o.isCells = false) : LastAt N w B q :=
  ⟨cell_kept h.c0 hg hr, cell_kept h.c1 hg hr, cell_kept h.c2 hg hr, cell_kept h.c3 hg hr, cell_kept h.c4 hg hr, cell_kept h.b hg hr, owns_kept h.own hg hr⟩

set_option maxRecDepth 100000 in
set_option maxHeartbeats 4000000 in
theorem last_in (F : Fence) (n : Nat) (hFe : F = Fence.wide) (h1F : F.fn 88) (hKF : F.fn 57) (hOF : F.fn 51) (hDF : F.fn 28) (hro : F.round = none) (hn : 3 ≤ n) (N g : Nat) (c : Value) (ps : List RR) (o : Int) (w : World) (hc : Ca w N g c ps) :
    CallsIn F n Try.prog 28 #[.pointer (some ⟨g, 0, none⟩), .int .u32 o] w fun e w' => ∃ q : RR, e = .returned (.tuple #[q.agg, .bool (lastUp o ps ps.length).isSome]) ∧ q.r = ((lastUp o ps ps.length).getD RR.zero).r ∧ q.owned w.heap.size w' ∧ Ext w w' := by
  have h1 : 1 ≤ n := by omega
  obtain ⟨a, cap, rfl⟩ := hc.shape
  have HC := Hid.mk' hc
  have HOW := Hid.mk' (fun m (p : RR) (hp : p ∈ ps) W (h : Ext w W) => (show CallsIn F m Try.prog 51 #[p.agg] W _ from by rw [hFe]; exact callsIn_wide.2 (pown_any p W ((hc.sl p hp).ext h) (by have := hc.n16 hp; omega))))
  have g0 := hc.ptr.cell
  have z0 := hc.ptr.lt
  have hn64 := hc.n64
  have g3 := (hc.ptr.ext (show Ext w (((w.alloc (.cells #[.int .u32 o] 31)).alloc (.cells #[.int .u32 0, .int .u32 0, .string ⟨#[]⟩, .int .u8 0, .slice none 0 0] 36)).alloc (.cells #[.bool false] 4)) by (repeat (with_reducible (first | exact Ext.refl _ | assumption | exact held_left (by assumption) | apply Ext.drewN | apply Ext.drew | apply Ext.alloc | (refine Ext.setCell ?_ (by first | (simp; done) | (simp; omega) | omega) _) | (refine Ext.trans ?_ (by assumption)) | (refine Ext.trans ?_ (held_left (by assumption)))))))).cell
  have z3 := (hc.ptr.ext (show Ext w (((w.alloc (.cells #[.int .u32 o] 31)).alloc (.cells #[.int .u32 0, .int .u32 0, .string ⟨#[]⟩, .int .u8 0, .slice none 0 0] 36)).alloc (.cells #[.bool false] 4)) by (repeat (with_reducible (first | exact Ext.refl _ | assumption | exact held_left (by assumption) | apply Ext.drewN | apply Ext.drew | apply Ext.alloc | (refine Ext.setCell ?_ (by first | (simp; done) | (simp; omega) | omega) _) | (refine Ext.trans ?_ (by assumption)) | (refine Ext.trans ?_ (held_left (by assumption)))))))).lt
  clear hc hFe
  refine callsIn_of_wp_marks Try.func28 rfl hDF ?_ hro
  simp only [Try.ntmps28, List.size_toArray, List.length_cons, List.length_nil, Nat.reduceAdd, Nat.reduceSub, Array.replicate_succ, Array.replicate_zero, List.push_toArray, List.append_toArray, List.nil_append, List.cons_append]
  gi_wp2_with (gi_at_call 57; refine (bwd_in F (n - 1) hKF hro _ _ _ _).mono ?_; rintro e w' ⟨rfl, rfl⟩)
  have hE4 : Ext w ((((w.alloc (.cells #[.int .u32 o] 31)).alloc (.cells #[.int .u32 0, .int .u32 0, .string ⟨#[]⟩, .int .u8 0, .slice none 0 0] 36)).alloc (.cells #[.bool false] 4)).alloc (.cells #[.slice a ps.length cap] 25)) := by (repeat (with_reducible (first | exact Ext.refl _ | assumption | exact held_left (by assumption) | apply Ext.drewN | apply Ext.drew | apply Ext.alloc | (refine Ext.setCell ?_ (by first | (simp; done) | (simp; omega) | omega) _) | (refine Ext.trans ?_ (by assumption)) | (refine Ext.trans ?_ (held_left (by assumption))))))
  have hS4 : Sl ((((w.alloc (.cells #[.int .u32 o] 31)).alloc (.cells #[.int .u32 0, .int .u32 0, .string ⟨#[]⟩, .int .u8 0, .slice none 0 0] 36)).alloc (.cells #[.bool false] 4)).alloc (.cells #[.slice a ps.length cap] 25)) (.slice a ps.length cap) 5 (ps.map RR.cells) := (HC.out.rl.ext hE4).row
  have hB4 : Blk ((((w.alloc (.cells #[.int .u32 o] 31)).alloc (.cells #[.int .u32 0, .int .u32 0, .string ⟨#[]⟩, .int .u8 0, .slice none 0 0] 36)).alloc (.cells #[.bool false] 4)).alloc (.cells #[.slice a ps.length cap] 25)) (w.heap.size + 1 + 1 + 1) #[.slice a ps.length cap] 25 := Blk.new' _ _ (by simp)
  obtain ⟨W4, hW4⟩ : ∃ W4, W4 = ((((w.alloc (.cells #[.int .u32 o] 31)).alloc (.cells #[.int .u32 0, .int .u32 0, .string ⟨#[]⟩, .int .u8 0, .slice none 0 0] 36)).alloc (.cells #[.bool false] 4)).alloc (.cells #[.slice a ps.length cap] 25)) := ⟨_, rfl⟩
  have hz4 : W4.heap.size = w.heap.size + 1 + 1 + 1 + 1 := by rw [hW4]; simp
  have HR0 : Hid (Blk W4 w.heap.size #[.int .u32 o] 31) := Hid.mk' (by rw [hW4]; exact (((Blk.new _ _ _).alloc _).alloc _).alloc _)
  have HR1 : Hid (Blk W4 (w.heap.size + 1) #[.int .u32 0, .int .u32 0, .string ⟨#[]⟩, .int .u8 0, .slice none 0 0] 36) := Hid.mk' (by rw [hW4]; exact ((Blk.new' _ _ (by simp)).alloc _).alloc _)
  have HR2 : Hid (Blk W4 (w.heap.size + 1 + 1) #[.bool false] 4) := Hid.mk' (by rw [hW4]; exact (Blk.new' _ _ (by simp)).alloc _)
  rw [← hW4] at hE4 hS4 hB4 ⊢
  have HE4 := Hid.mk' hE4
  clear hW4 g3 z3 g0 hE4
  refine wpIn_rangeFunc_ownH hro h1 (gf := 88) (lb := #[.pointer (some ⟨w.heap.size + 1 + 1 + 1, 0, none⟩)]) rfl h1F (enters_of Try.func88 (by kernel_rfl) rfl)
    (bwd_stops F (n - 1) h1F hro (by omega) (w.heap.size + 1 + 1 + 1) W4 a cap ps (by omega) hS4 (hB4.cell 0) hB4.lt) belowK_t (belowK_b (Nat.le_refl _)) (Below.refl _ _) (fun _ => rfl)
    (fun pre W => Hid (∀ y ∈ pre, (ps[y.1]'y.2).r.oid ≠ o) ∧ Below W4.heap.size W4 W)
    (fun c pre W => (c = .ret ∧ ∃ ini last q, pre = ini ++ [last] ∧ (∀ y ∈ ini, (ps[y.1]'y.2).r.oid ≠ o) ∧ (ps[last.1]'last.2).r.oid = o ∧ q.r = (ps[last.1]'last.2).r ∧ LastAt w.heap.size w W q) ∧ Below w.heap.size w W)
    (OwnFrom.and (ownFrom_pure _ (fun (pre : List (IX ps.length)) => Hid (∀ y ∈ pre, (ps[y.1]'y.2).r.oid ≠ o))) (ownFrom_below (Nat.le_refl _) (Nat.le_refl _)))
    (fun c => OwnFrom.and (Own.from (fun s A B row hs hg hr => by obtain ⟨q1, ini, last, q, q2, q3, q4, q5, q6⟩ := hs; exact ⟨q1, ini, last, q, q2, q3, q4, q5, q6.kept hg hr⟩) _) (ownFrom_below (Nat.le_refl _) (by omega)))
    ⟨Hid.mk' (fun y hy => by cases hy), Below.refl _ _⟩
    (fun x a' W => ∃ X, a' = { tmps := #[.pointer (some ⟨g, 0, none⟩), .int .u32 o, undef, .pointer (some ⟨w.heap.size, 0, none⟩), .pointer (some ⟨w.heap.size + 1, 0, none⟩), .pointer (some ⟨w.heap.size + 1 + 1, 0, none⟩), undef, .pointer (some ⟨X, 0, none⟩), .pointer (some ⟨g, 0, none⟩), .pointer (some ⟨g, 0, none⟩), .pointer (some ⟨g, 0, none⟩), .slice a ps.length cap, .func (.func 88) #[] #[.pointer (some ⟨w.heap.size + 1 + 1 + 1, 0, none⟩)], .int .i64 (x.1 : Int), RR.agg (ps[x.1]'x.2), undef, undef, undef, undef, undef, undef, undef, undef], defers := [] } ∧ W4.heap.size ≤ X ∧ Blk W X #[.int .u32 (ps[x.1]'x.2).r.oid, .int .u32 (ps[x.1]'x.2).r.ver, .string (ps[x.1]'x.2).r.nm, .int .u8 (ps[x.1]'x.2).r.id, .slice (ps[x.1]'x.2).a (ps[x.1]'x.2).r.cols.length (ps[x.1]'x.2).c] 36)
    (fun x a' => fun s A B row hs hg hr => by
      obtain ⟨X, q1, q2, q3⟩ := hs
      refine ⟨X, q1, q2, q3.kp (Kp.of_grown hg) (fun e => ?_)⟩
      obtain ⟨-, ob, ho, hn⟩ := hr X e
      rw [show A.heap[X]? = _ from q3] at ho; cases ho; simp [Obj.isCells] at hn)
    ?assign ?body ?done ?stop
  case assign =>
    rintro l pre x W K ⟨hpre, hB⟩ hK
    have hzW := hB.size
    unfold encB
    rw [fold_two]
    gi_wp2
    exact hK _ _ ((KeepsOthers.alloc _ _).from _) ((Below.refl _ W).alloc hzW _) ⟨hpre, hB.alloc hzW _⟩ ⟨W.heap.size, rfl, hzW, Blk.new _ _ _⟩
  case body =>
    rintro l pre ⟨xi, hxi⟩ a' W hlw hlr ⟨hpre, hB⟩ ⟨X, rfl, hX, hbX⟩ hlen
    have HPRE := hpre
    have HB := Hid.mk' hB
    have HEW : Hid (Ext w W) := Hid.mk' (HE4.out.trans hB)
    have hbc := hbX.cell
    have hbz := hbX.lt
    have h0c := (HR0.out.ext hB).cell
    have h0z := (HR0.out.ext hB).lt
    have hpm : ps[xi] ∈ ps := List.getElem_mem hxi
    have HOWp := Hid.mk' (fun m W (h : Ext w W) => HOW.out m ps[xi] hpm W h)
    have HX : Hid (∀ y ∈ pre ++ [(⟨xi, hxi⟩ : IX ps.length)], ps[xi].r.oid ≠ o → (ps[y.1]'y.2).r.oid ≠ o) := Hid.mk' (fun y hy hne => by
      rcases List.mem_append.1 hy with h | h
      · exact HPRE.out y h
      · rw [List.mem_singleton] at h; rw [h]; exact hne)
    unfold RR.agg
    simp only at hbc ⊢
    obtain ⟨p, hp⟩ : ∃ p, p = ps[xi] := ⟨_, rfl⟩
    rw [← hp] at hbc HOWp HX
    simp only [← hp]
    unfold RR.agg at HOWp
    have HPP := Hid.mk' hp
    clear hp hpre hB hlr hlen hbX
    by_cases ho : p.r.oid = o
    · obtain ⟨⟨oid, ver, nm, id, cols⟩, a2, c2⟩ := p
      simp only at ho hbc HOWp HX ⊢
      subst ho
      have hz5 : w.heap.size + 1 + 1 + 1 + 1 ≤ W.heap.size := by have := HB.out.size; omega
      have h11 : 1 ≤ n - 1 - 1 := by omega
      gi_wp2_with (gi_at_call 51; refine (CallsIn.inRound l (HOWp.out _ _ HEW.out)).mono ?_; rintro e w5 ⟨⟨r', a', c'⟩, rfl, hqr, hqo, hb5⟩; simp only at hqr; subst hqr; have HQO := Hid.mk' hqo; have HB5 := Hid.mk' hb5; have HR15 := Hid.mk' (HR1.out.ext (HB.out.trans (hb5.mono HB.out.size))); have HR25 := Hid.mk' (HR2.out.ext (HB.out.trans (hb5.mono HB.out.size))); have h1c := HR15.out.cell; have h1f := HR15.out.frozen; have h1z := HR15.out.lt; have h2c := HR25.out.cell; have h2f := HR25.out.frozen; have h2z := HR25.out.lt; clear hqo hb5; try simp only)
      have hk5 : KeepsFrom W4.heap.size W w5 := ⟨HB5.out.size, fun k ob hk hob _ => (HB5.out.block k (Array.getElem?_eq_some_iff.1 hob).1).trans hob⟩
      have hq1 := (((((HR15.out.set 0 (.int .u32 oid)).set 1 (.int .u32 ver)).set 2 (.string nm)).set 3 (.int .u8 id)).set 4 (.slice a' cols.length c')).other ⟨w.heap.size + 1 + 1, 0, none⟩ (.bool true) (by show w.heap.size + 1 ≠ w.heap.size + 1 + 1; omega)
      have hq2 := ((((((HR25.out.other ⟨w.heap.size + 1, 0, none⟩ (.int .u32 oid) (by show w.heap.size + 1 + 1 ≠ w.heap.size + 1; omega)).other ⟨w.heap.size + 1, 1, none⟩ (.int .u32 ver) (by show w.heap.size + 1 + 1 ≠ w.heap.size + 1; omega)).other ⟨w.heap.size + 1, 2, none⟩ (.string nm) (by show w.heap.size + 1 + 1 ≠ w.heap.size + 1; omega)).other ⟨w.heap.size + 1, 3, none⟩ (.int .u8 id) (by show w.heap.size + 1 + 1 ≠ w.heap.size + 1; omega)).other ⟨w.heap.size + 1, 4, none⟩ (.slice a' cols.length c') (by show w.heap.size + 1 + 1 ≠ w.heap.size + 1; omega)).set 0 (.bool true))
      refine ⟨hk5.trans (((((((KeepsOthers.setCell _ _ _).trans (KeepsOthers.setCell _ _ _)).trans (KeepsOthers.setCell _ _ _)).trans (KeepsOthers.setCell _ _ _)).trans (KeepsOthers.setCell _ _ _)).trans (KeepsOthers.setCell _ _ _)).from _), ⟨rfl, pre, ⟨xi, hxi⟩, ⟨⟨oid, ver, nm, id, cols⟩, a', c'⟩, rfl, HPRE.out, ?_, ?_, ?_⟩, ?_⟩
      · simp only [← HPP.out]
      · simp only [← HPP.out]
      · refine ⟨hq1.cell 0, hq1.cell 1, hq1.cell 2, hq1.cell 3, hq1.cell 4, hq2.cell 0, ?_⟩
        exact owns_base (base := W.heap.size) (owns_set (owns_set (owns_set (owns_set (owns_set (owns_set HQO.out (by dsimp only; omega) _) (by dsimp only; omega) _) (by dsimp only; omega) _) (by dsimp only; omega) _) (by dsimp only; omega) _) (by dsimp only; omega) _) (by omega)
      · have hEx : Below w.heap.size w w5 := HEW.out.trans HB5.out
        exact (((((hEx.setCell (by dsimp only; omega) _).setCell (by dsimp only; omega) _).setCell (by dsimp only; omega) _).setCell (by dsimp only; omega) _).setCell (by dsimp only; omega) _).setCell (by dsimp only; omega) _
    · have ho' : (p.r.oid == o) = false := by simpa using ho
      have HO := Hid.mk' ho
      clear ho
      gi_wp2
      exact ⟨KeepsFrom.refl _ _, Below.refl _ _, Hid.mk' (fun y hy => HX.out y hy HO.out), HB.out⟩
  case done =>
    rintro D ys W hD rfl ⟨hpre, hB⟩ hK
    have HN : Hid (lastUp o ps ps.length = none) := Hid.mk' (lastUp_none (fun j hj => hpre.out ⟨j, hj⟩ ((backUp_mem _ (Nat.le_refl _) _).2 (by simp))) _)
    have HEW : Hid (Ext w W) := Hid.mk' (HE4.out.trans hB)
    have HR15 := Hid.mk' (HR1.out.ext hB)
    have HR25 := Hid.mk' (HR2.out.ext hB)
    have h1c := HR15.out.cell
    have h1f := HR15.out.frozen
    have h1z := HR15.out.lt
    have h2c := HR25.out.cell
    have h2f := HR25.out.frozen
    have h2z := HR25.out.lt
    gi_wp2
    have hq1 := (((((HR15.out.set 0 (.int .u32 0)).set 1 (.int .u32 0)).set 2 (.string ⟨#[]⟩)).set 3 (.int .u8 0)).set 4 (.slice none 0 0)).other ⟨w.heap.size + 1 + 1, 0, none⟩ (.bool false) (by show w.heap.size + 1 ≠ w.heap.size + 1 + 1; omega)
    have hq2 := ((((((HR25.out.other ⟨w.heap.size + 1, 0, none⟩ (.int .u32 0) (by show w.heap.size + 1 + 1 ≠ w.heap.size + 1; omega)).other ⟨w.heap.size + 1, 1, none⟩ (.int .u32 0) (by show w.heap.size + 1 + 1 ≠ w.heap.size + 1; omega)).other ⟨w.heap.size + 1, 2, none⟩ (.string ⟨#[]⟩) (by show w.heap.size + 1 + 1 ≠ w.heap.size + 1; omega)).other ⟨w.heap.size + 1, 3, none⟩ (.int .u8 0) (by show w.heap.size + 1 + 1 ≠ w.heap.size + 1; omega)).other ⟨w.heap.size + 1, 4, none⟩ (.slice none 0 0) (by show w.heap.size + 1 + 1 ≠ w.heap.size + 1; omega)).set 0 (.bool false))
    have hK' := ((((((KeepsOthers.setCell W ⟨w.heap.size + 1, 0, none⟩ (.int .u32 0)).trans (KeepsOthers.setCell _ ⟨w.heap.size + 1, 1, none⟩ (.int .u32 0))).trans (KeepsOthers.setCell _ ⟨w.heap.size + 1, 2, none⟩ (.string ⟨#[]⟩))).trans (KeepsOthers.setCell _ ⟨w.heap.size + 1, 3, none⟩ (.int .u8 0))).trans (KeepsOthers.setCell _ ⟨w.heap.size + 1, 4, none⟩ (.slice none 0 0))).trans (KeepsOthers.setCell _ ⟨w.heap.size + 1 + 1, 0, none⟩ (.bool false))).same D _ hK rfl
    have hEx : Below w.heap.size w _ := (((((HEW.out.setCell (p := ⟨w.heap.size + 1, 0, none⟩) (by dsimp only; omega) (.int .u32 0)).setCell (p := ⟨w.heap.size + 1, 1, none⟩) (by dsimp only; omega) (.int .u32 0)).setCell (p := ⟨w.heap.size + 1, 2, none⟩) (by dsimp only; omega) (.string ⟨#[]⟩)).setCell (p := ⟨w.heap.size + 1, 3, none⟩) (by dsimp only; omega) (.int .u8 0)).setCell (p := ⟨w.heap.size + 1, 4, none⟩) (by dsimp only; omega) (.slice none 0 0)).setCell (p := ⟨w.heap.size + 1 + 1, 0, none⟩) (by dsimp only; omega) (.bool false)
    obtain ⟨V, hV⟩ : ∃ V, V = (((((W.setCell ⟨w.heap.size + 1, 0, none⟩ (.int .u32 0)).setCell ⟨w.heap.size + 1, 1, none⟩ (.int .u32 0)).setCell ⟨w.heap.size + 1, 2, none⟩ (.string ⟨#[]⟩)).setCell ⟨w.heap.size + 1, 3, none⟩ (.int .u8 0)).setCell ⟨w.heap.size + 1, 4, none⟩ (.slice none 0 0)).setCell ⟨w.heap.size + 1 + 1, 0, none⟩ (.bool false) := ⟨_, rfl⟩
    rw [← hV] at hq1 hq2 hK' hEx ⊢
    have hg' := grownBy_putObj' V D (.deferred none)
    have hr' : ∀ r, some D = some r → ∃ ob : Obj, V.heap[r]? = some ob ∧ ob.isCells = false := fun r e => by cases e; exact ⟨_, hK', rfl⟩
    have hc0 := cell_kept (hq1.cell 0) hg' hr'
    have hc1 := cell_kept (hq1.cell 1) hg' hr'
    have hc2 := cell_kept (hq1.cell 2) hg' hr'
    have hc3 := cell_kept (hq1.cell 3) hg' hr'
    have hc4 := cell_kept (hq1.cell 4) hg' hr'
    have hcb := cell_kept (hq2.cell 0) hg' hr'
    refine ⟨by simp, .inl ⟨_, _, rfl, run_takeDeferred hK', ?_⟩⟩
    refine ⟨.tuple #[RR.agg RR.zero, .bool false], ?_, ⟨RR.zero, by rw [HN.out]; rfl, by rw [HN.out]; rfl, World.ownsRow_nil _ _ _ _, hEx.trans (belowK_b (w := w) (Nat.le_refl _) V D _ _ (by omega) hK' rfl rfl)⟩⟩
    simp [results, Try.f28, go_sem, hc0, hc1, hc2, hc3, hc4, hcb]
    rfl
  case stop =>
    rintro D c pre W hD ⟨k, hk, hpk⟩ ⟨⟨rfl, ini, last, q, e1, e2, e3, e4, e5⟩, hB⟩ hK
    have HL : Hid (lastUp o ps ps.length = some (ps[last.1]'last.2)) := Hid.mk' (by
      cases k with
      | zero => rw [hpk] at e1; simp [backUp] at e1
      | succ k =>
        rw [hpk, backUp_succ (by omega)] at e1
        obtain ⟨h1, h2⟩ := List.append_inj' e1 rfl
        have h3 : last.1 = ps.length - 1 - k := by have := List.singleton_inj.1 h2; rw [← this]
        rw [lastUp_from (i := last.1) (fun j hj hjl => e2 ⟨j, hj⟩ (by rw [← h1]; exact (backUp_mem k (by omega) _).2 (by simp only; omega))) k (by omega), lastUp_hit last.2 e3])
    gi_wp2
    refine ⟨by simp, .inl ⟨_, _, rfl, run_takeDeferred hK, ?_⟩⟩
    have e6 := e5.kept (grownBy_putObj' W D (.deferred none)) (fun r e => by cases e; exact ⟨_, hK, rfl⟩)
    have hc0 := e6.c0
    have hc1 := e6.c1
    have hc2 := e6.c2
    have hc3 := e6.c3
    have hc4 := e6.c4
    have hcb := e6.b
    refine ⟨.tuple #[q.agg, .bool true], ?_, ⟨q, by rw [HL.out]; rfl, by rw [HL.out]; exact e4, e6.own, hB.trans (belowK_b (w := w) (Nat.le_refl _) W D _ _ (by omega) hK rfl rfl)⟩⟩
    simp [results, Try.f28, go_sem, hc0, hc1, hc2, hc3, hc4, hcb]
    rfl

theorem last_any (N g : Nat) (c : Value) (ps : List RR) (o : Int) (w : World) (hc : Ca w N g c ps) :
    Calls Try.prog 28 #[.pointer (some ⟨g, 0, none⟩), .int .u32 o] w fun e w' => ∃ q : RR, e = .returned (.tuple #[q.agg, .bool (lastUp o ps ps.length).isSome]) ∧ q.r = ((lastUp o ps ps.length).getD RR.zero).r ∧ q.owned w.heap.size w' ∧ Ext w w' :=
  callsIn_wide.1 (last_in Fence.wide 3 rfl trivial trivial trivial trivial rfl (Nat.le_refl _) N g c ps o w hc)

end Go.Proofs.Ythdjinicmnhgpaa

/-
A range over an iterator that hands out what it has laid down itself: the iterator's word tells of each thing handed out what the memory holds then; a loop whose body always goes on.
-/
namespace Go.Proofs.Ythdjinicmnhgpaa
open Go.RowKit

variable {F : Fence} {n : Nat} {P : Program}

/-- The iterator's word: what is handed out meets C in the memory as it is then. -/
def SeqTold {α : Type} (F : Fence) (n : Nat) (P : Program) (g : Nat) (lb : Array Value) (encs : α → Array Value) (C : α → World → Prop) (S : List α → Prop) (N B0 : Nat) (w : World) : Prop :=
  ∀ (l : Nat) (J : List α → World → Prop) (W : World), Below w.heap.size w W → AbidesFrom W.heap.size J →
    (∀ pre x W1, J pre W1 → pre.length < N → C x W1 → YieldAt F (n - 1) P l (encs x) W1 fun e W' => e = .returned (.bool true) ∧ J (pre ++ [x]) W' ∧ Below B0 W1 W') →
    J [] W →
    CallsIn F n P g (#[.func (.yield l) #[] #[]] ++ lb) W fun e W' => (∃ v, e = .returned v) ∧ ∃ xs, S xs ∧ J xs W'

/-- How a body that always goes on is left. -/
def goesOn {α : Type} (B B0 : Nat) (I : List α → World → Prop) (xs : List α) (W : World) : Exit → Act → World → Prop
  | .normal, _, W' => KeepsFrom B W W' ∧ Below B0 W W' ∧ I xs W'
  | _, _, _ => False

theorem below_putObj {B0 : Nat} (W : World) (l : Nat) (o' : Obj) (h : B0 ≤ l) : Below B0 W (W.putObj l o') :=
  have hg := grownBy_putObj' W l o'
  ⟨hg.os, hg.tape, hg.output, hg.size, fun k hk => by
    rcases Nat.lt_or_ge k W.heap.size with h1 | h1
    · exact hg.block k h1 (fun e => by cases e; omega)
    · exact World.putObj_heap_other (by omega)⟩

theorem wpIn_range_told {α : Type} {g : Operand} {ps : Array Tmp} {assign body : Code} {Q : Exit → Act → World → Prop} {a : Act} {w : World}
    (hro : F.round = none) (h1 : 1 ≤ n) {gf : Nat} {lb : Array Value} (hg : a.eval g = .func (.func gf) #[] lb) (hFg : F.fn gf) (eg : ∀ args w, (callFunc gf args).run P w = .ok (.enter gf args) w)
    {encs : α → Array Value} {C : α → World → Prop} {S : List α → Prop} {N B0 : Nat} {w0 : World} (hseq : SeqTold F (n - 1) P gf lb encs C S N B0 w0) (hB0 : B0 ≤ w.heap.size) (hb0 : Below w0.heap.size w0 w) (hps : ∀ x, (encs x).size = ps.size)
    (I : List α → World → Prop) (hI : OwnFrom w.heap.size I) (h0 : I [] w) (Ax : α → Act → World → Prop)
    (hAx : ∀ x a' W l o', Ax x a' W → w.heap.size ≤ l → (∃ o, W.heap[l]? = some o ∧ o.isCells = false) → Ax x a' (W.putObj l o'))
    (hassign : ∀ (l : Nat) (pre : List α) (x : α) (W : World) (K : Act → World → Prop), I pre W → C x W → (∀ a' W', KeepsFrom w.heap.size W W' → Below B0 W W' → I pre W' → Ax x a' W' → K a' W') →
      assign.wpIn (F.inRound l) (n - 1 - 1) P (Exit.then K (fun _ _ _ => False)) { tmps := (ps.zip (encs x)).foldl (fun t (p, v) => t.setIfInBounds p v) a.tmps, defers := [] } W)
    (hbody : ∀ (l : Nat) (pre : List α) (x : α) (a' : Act) (W : World), I pre W → pre.length < N → Ax x a' W → body.wpIn (F.inRound l) (n - 1 - 1) P (goesOn w.heap.size B0 I (pre ++ [x]) W) a' W)
    (hdone : ∀ (D : Nat) (xs : List α) (W : World), w.heap.size ≤ D → S xs → I xs W → W.heap[D]? = some (.deferred (some [])) → Q .normal { a with defers := { target := .collected D, args := #[] } :: a.defers } W) :
    (Code.rangeFunc g ps assign body).wpIn F n P Q a w := by
  refine wpIn_rangeFunc ?_
  intro fn hfn
  rw [hro]
  have hw0 : w0.heap.size ≤ w.heap.size := hb0.size
  obtain ⟨rec, hrec⟩ : ∃ rec : LoopState → Option Code → Loop, rec = fun st pe => { state := st, pending := pe, fn, tmps := a.tmps, params := ps, assign, body, defers := w.heap.size } := ⟨_, rfl⟩
  obtain ⟨W1, hW1⟩ : ∃ W1, (w.alloc (.deferred (some []))).alloc (.loop (rec .ready none)) = W1 := ⟨_, rfl⟩
  have hs1 : W1.heap.size = w.heap.size + 2 := by rw [← hW1]; simp
  have hL1 : W1.heap[w.heap.size + 1]? = some (.loop (rec .ready none)) := by
    rw [← hW1]; have := World.alloc_heap_new (w.alloc (.deferred (some []))) (.loop (rec .ready none)); rwa [World.size_alloc] at this
  have hK1 : W1.heap[w.heap.size]? = some (.deferred (some [])) := by
    rw [← hW1]; exact (Below.heap_alloc _ _ _ (by simp)).trans (World.alloc_heap_new w _)
  refine ⟨w.heap.size + 1, [{ target := .collected w.heap.size, args := #[] }], W1, { target := .fn (.func gf) lb, args := #[.func (.yield (w.heap.size + 1)) #[] #[]] }, W1, gf,
    #[.func (.yield (w.heap.size + 1)) #[] #[]] ++ lb, W1, ?_, ?_, ?_, ?_, fun _ => h1, ?_⟩
  · rw [← hW1, hrec]; exact run_enterLoop_outer _ _ _ _ _
  · simp only [resolve, hg]
    simp [go_sem]
  · intro f' hf'; simp [Target.leads] at hf'; subst hf'; exact hFg
  · simp [invoke, go_sem, eg]
  refine (hseq (w.heap.size + 1) (fun pre W => I pre W ∧ W.heap[w.heap.size + 1]? = some (.loop (rec .ready none)) ∧ W.heap[w.heap.size]? = some (.deferred (some []))) W1
    (by rw [← hW1]; exact hb0.trans ((((Below.refl _ w).alloc (Nat.le_refl _) _).alloc (by simp) _).mono hw0))
    (fun s A B row hs hg' hr => ⟨hI s A B row hs.1 hg' (fun r e => by obtain ⟨q1, o, q2, q3⟩ := hr r e; exact ⟨by omega, o, q2, Obj.not_cells_of_walk q3⟩), (grownBy_keeps hg' (fun r e => (hr r e).2) hs.2.1 rfl).trans hs.2.1, (grownBy_keeps hg' (fun r e => (hr r e).2) hs.2.2 rfl).trans hs.2.2⟩)
    ?_ ⟨by rw [← hW1]; exact hI.alloc _ (hI.alloc _ h0), hL1, hK1⟩).mono ?_
  · rintro pre x W ⟨hi, hl, hk⟩ hlen hc
    have hlt : w.heap.size + 1 < W.heap.size := (Array.getElem?_eq_some_iff.1 hl).1
    have hy := run_yield (P := P) (args := encs x) hl (by rw [hrec]; exact hps x)
    rw [hrec] at hy
    refine ⟨fn, _, assign, body, hy, roundIn_of_wpIn hfn (hassign _ pre x W _ hi hc (fun a' W' hkp hbl hi' hax => ?_))⟩
    have hl' : W'.heap[w.heap.size + 1]? = some (.loop (rec .ready none)) := hkp.same _ _ (by omega) hl rfl
    have hk' : W'.heap[w.heap.size]? = some (.deferred (some [])) := hkp.same _ _ (Nat.le_refl _) hk rfl
    have hlt' : w.heap.size + 1 < W'.heap.size := (Array.getElem?_eq_some_iff.1 hl').1
    refine ⟨_, run_beginRound hl' (by rw [hrec]), ?_⟩
    obtain ⟨V, hV⟩ : ∃ V, V = W'.putObj (w.heap.size + 1) (.loop { rec .ready none with state := .busy }) := ⟨_, rfl⟩
    have hl2 : V.heap[w.heap.size + 1]? = some (.loop { rec .ready none with state := .busy }) := by rw [hV]; exact World.putObj_heap_same hlt'
    have hk2 : V.heap[w.heap.size]? = some (.deferred (some [])) := by rw [hV]; exact (World.putObj_heap_other (by omega)).trans hk'
    have hVb : Below B0 W V := by rw [hV]; exact hbl.trans (below_putObj _ _ _ (by omega))
    have hVI : I pre V := by rw [hV]; exact hI.putObj _ hi' (by omega) hl' rfl
    have hVA : Ax x a' V := by rw [hV]; exact hAx x a' W' _ _ hax (by omega) ⟨_, hl', rfl⟩
    rw [← hV]
    refine wpIn_mono (hbody _ pre x a' V hVI hlen hVA) ?_
    rintro e a3 W3 hp
    cases e with
    | normal =>
      obtain ⟨hk3, hkp3, hi3⟩ := hp
      have hl3 := hk3.same _ _ (by omega) hl2 rfl
      have hr := run_endRound (P := P) none hl3
      refine ⟨_, _, hr, rfl, ⟨hI.putObj _ hi3 (by omega) hl3 rfl, ?_, (World.putObj_heap_other (by omega)).trans (hk3.same _ _ (Nat.le_refl _) hk2 rfl)⟩, (hVb.trans hkp3).trans (below_putObj _ _ _ (by omega))⟩
      rw [World.putObj_heap_same (Array.getElem?_eq_some_iff.1 hl3).1, hrec]; rfl
    | _ => exact hp.elim
  · rintro e W2 ⟨⟨v, rfl⟩, xs, hS, hi, hl, hk⟩
    exact ⟨none, _, by have := run_endLoop (P := P) hl (by rw [hrec]; simp); rw [hrec] at this; exact this, hdone _ xs _ (Nat.le_refl _) hS (hI.putObj _ hi (by omega) hl rfl) ((World.putObj_heap_other (by omega)).trans hk)⟩

end Go.Proofs.Ythdjinicmnhgpaa

/-
All relations of a catalog, handed out one after the other: the program's All; the laws' Back.
-/
namespace Go.Proofs.Ythdjinicmnhgpaa
open Go.RowKit Go.Shelf
attribute [local go_sem] Oper.semAt_some

def encA (q : RR) : Array Value := #[.agg #[.int .u32 q.r.oid, .int .u32 q.r.ver], .agg #[.int .u32 q.r.oid, .int .u32 q.r.ver, .string q.r.nm, .int .u8 q.r.id, .slice q.a q.r.cols.length q.c]]

theorem ext_grown {w w' : World} (h : Ext w w') : w.grownBy w' none := ⟨h.os, h.tape, h.output, h.size, fun k hk _ => h.block k hk⟩

set_option maxRecDepth 100000 in
set_option maxHeartbeats 4000000 in
theorem all1_in (F : Fence) (n : Nat) (hFe : F = Fence.wide) (hF : F.fn 81) (hOF : F.fn 51) (hro : F.round = none) (hn : 1 ≤ n) (l Bs : Nat) (w0 : World) (N g : Nat) (c : Value) (ps : List RR) (hc : Hid (Ca w0 N g c ps))
    (J : List RR → World → Prop) (W0 : World) (hJ : Hid (AbidesFrom W0.heap.size J))
    (hY : Hid (∀ pre x W, J pre W → pre.length < ps.length → x.in W → x.r.cols.length ≤ 1000 → YieldAt F (n - 1) Try.prog l (encA x) W fun e W' => e = .returned (.bool true) ∧ J (pre ++ [x]) W' ∧ Below w0.heap.size W W'))
    (hE : Hid (Ext w0 W0)) (hBs : W0.cell? ⟨Bs, 0, none⟩ = some (.pointer (some ⟨g, 0, none⟩))) (h0 : Hid (J [] W0)) :
    CallsIn F n Try.prog 81 #[.func (.yield l) #[] #[], .pointer (some ⟨Bs, 0, none⟩)] W0 fun e W' => (∃ v, e = .returned v) ∧ ∃ ys, ys.map RR.r = ps.map RR.r ∧ J ys W' := by
  obtain ⟨a, cap, rfl⟩ := hc.out.shape
  have HOW := Hid.mk' (fun m (p : RR) (hp : p ∈ ps) W (h : Ext w0 W) => (show CallsIn F m Try.prog 51 #[p.agg] W _ from by rw [hFe]; exact callsIn_wide.2 (pown_any p W ((hc.out.sl p hp).ext h) (by have := hc.out.n16 hp; omega))))
  have hB0 := hBs
  have g0 := (hc.out.ptr.ext hE.out).cell
  have z0 := (hc.out.ptr.ext hE.out).lt
  have HL := Hid.mk' hc.out.rl.row
  have hn64 := hc.out.n64
  have H16 := Hid.mk' (fun p hp => hc.out.n16 (p := p) hp)
  have mixed : Try.prog.follows .mixedOrders = true := by kernel_rfl
  clear hFe hc hBs
  refine callsIn_of_wp Try.func81 rfl hF ?_ hro
  simp only [Try.ntmps81, List.size_toArray, List.length_cons, List.length_nil, Nat.reduceAdd, Nat.reduceSub, Array.replicate_succ, Array.replicate_zero, List.push_toArray, List.append_toArray, List.nil_append, List.cons_append]
  gi_wp2
  clear hB0 g0 z0
  gi_loopw [10] (fun i wr => ∃ (k : Nat) (ys : List RR), k ≤ ps.length ∧ i = .int .i64 k ∧ Hid (ys.map RR.r = (ps.map RR.r).take k) ∧ Hid (J ys wr) ∧ Hid (Ext w0 wr)) (fun i _ => ps.length - (intOf i).toNat)
  case atStart => exact ⟨0, [], Nat.zero_le _, rfl, Hid.mk' rfl, h0, hE⟩
  case round =>
    obtain ⟨k, ys, hk, rfl, hys, hJs, hEw⟩ := hrel
    by_cases hlt : k < ps.length
    · obtain ⟨b, o, rfl, hb, hx⟩ := HL.out.at_ (i := k) (by simpa using hlt)
      obtain ⟨f0, f1, f2, f3, f4⟩ := RR.at_ hlt hx hb hEw.out
      have hbw : b < wr.heap.size := Nat.lt_of_lt_of_le hb hEw.out.size
      have hpm : ps[k] ∈ ps := List.getElem_mem hlt
      have HOWp := Hid.mk' (fun m W (h : Ext w0 W) => HOW.out m ps[k] hpm W h)
      have HN := Hid.mk' (H16.out _ hpm)
      have HLEN : Hid (ys.length < ps.length) := Hid.mk' (by have := congrArg List.length hys.out; simp at this; omega)
      have HT : Hid ((ps.map RR.r).take (k + 1) = (ps.map RR.r).take k ++ [ps[k].r]) := Hid.mk' (by rw [List.take_succ_eq_append_getElem (by simpa using hlt), List.getElem_map])
      obtain ⟨p, hp⟩ : ∃ p, p = ps[k] := ⟨_, rfl⟩
      rw [← hp] at f0 f1 f2 f3 f4 HOWp HN HT
      unfold RR.agg at HOWp
      clear hx hp hpm
      gi_wp2
      have HW1 : Hid (Ext wr (wr.alloc (.cells #[.int .u32 p.r.oid, .int .u32 p.r.ver, .string p.r.nm, .int .u8 p.r.id, .slice p.a p.r.cols.length p.c] 36))) := Hid.mk' ((Ext.refl wr).alloc _)
      have hbx := (Blk.new wr #[.int .u32 p.r.oid, .int .u32 p.r.ver, .string p.r.nm, .int .u8 p.r.id, .slice p.a p.r.cols.length p.c] 36).cell
      gi_region_with_o (first
        | (gi_at_call 51; refine (HOWp.out _ _ (hEw.out.trans (by (repeat (with_reducible (first | exact Ext.refl _ | assumption | exact held_left (by assumption) | apply Ext.drewN | apply Ext.drew | apply Ext.alloc | (refine Ext.setCell ?_ (by first | (simp; done) | (simp; omega) | omega) _) | (refine Ext.trans ?_ (by assumption)) | (refine Ext.trans ?_ (held_left (by assumption))))))))).mono ?_; rintro e w5 ⟨⟨r', a', c'⟩, rfl, hqr, hqo, hb5⟩; simp only at hqr; subst hqr; have HX5 := Hid.mk' (show Ext wr w5 by (repeat (with_reducible (first | exact Ext.refl _ | assumption | exact held_left (by assumption) | apply Ext.drewN | apply Ext.drew | apply Ext.alloc | (refine Ext.setCell ?_ (by first | (simp; done) | (simp; omega) | omega) _) | (refine Ext.trans ?_ (by assumption)) | (refine Ext.trans ?_ (held_left (by assumption))))))); have HQI := Hid.mk' (RR.owned.in hqo); have hbx5 := ((Blk.new wr #[.int .u32 p.r.oid, .int .u32 p.r.ver, .string p.r.nm, .int .u8 p.r.id, .slice p.a p.r.cols.length p.c] 36).ext (show Ext (wr.alloc (.cells #[.int .u32 p.r.oid, .int .u32 p.r.ver, .string p.r.nm, .int .u8 p.r.id, .slice p.a p.r.cols.length p.c] 36)) w5 by (repeat (with_reducible (first | exact Ext.refl _ | assumption | exact held_left (by assumption) | apply Ext.drewN | apply Ext.drew | apply Ext.alloc | (refine Ext.setCell ?_ (by first | (simp; done) | (simp; omega) | omega) _) | (refine Ext.trans ?_ (by assumption)) | (refine Ext.trans ?_ (held_left (by assumption)))))))).cell; obtain ⟨fn, tmps, assign, body, hy, hR⟩ := hY.out ys ⟨p.r, a', c'⟩ w5 (hJ.out _ _ _ none hJs.out (ext_grown HX5.out) (by simp)) HLEN.out HQI.out (by have := HN.out; simp only; omega); simp only [encA] at hy; clear hqo hb5; try simp only)
        | (refine hR.mono ?_; rintro e W3 ⟨rfl, hJ3, hk3⟩))
      all_goals
        gi_wp2
        go_roundw
        case rel => exact ⟨k + 1, _, by omega, by go_num, Hid.mk' (by rw [List.map_append, hys.out, HT.out]; rfl), Hid.mk' hJ3, Hid.mk' (Below.trans (hEw.out.trans HX5.out) hk3)⟩
        case measure => simp [intOf]; omega
    · obtain rfl : k = ps.length := by omega
      have hys2 := hys.out
      rw [show ps.length = (ps.map RR.r).length by simp, List.take_length] at hys2
      gi_wp2
      go_end0
      exact ⟨⟨_, rfl⟩, ys, hys2, hJs.out⟩

theorem all_told (F : Fence) (n : Nat) (hFe : F = Fence.wide) (hF : F.fn 81) (hOF : F.fn 51) (hro : F.round = none) (hn : 1 ≤ n) (Bs : Nat) (w0 w : World) (N g : Nat) (c : Value) (ps : List RR) (hc : Ca w0 N g c ps) (hE : Ext w0 w) (hBs : w.cell? ⟨Bs, 0, none⟩ = some (.pointer (some ⟨g, 0, none⟩))) (hBz : Bs < w.heap.size) :
    SeqTold F n Try.prog 81 #[.pointer (some ⟨Bs, 0, none⟩)] encA (fun x W => x.in W ∧ x.r.cols.length ≤ 1000) (fun ys => ys.map RR.r = ps.map RR.r) ps.length w0.heap.size w := fun l J W hW hJ hY h0 =>
  all1_in F n hFe hF hOF hro hn l Bs w0 N g c ps hc J W hJ (fun pre x W1 hj hn h1 h2 => hY pre x W1 hj hn ⟨h1, h2⟩) (Below.trans hE (hW.mono hE.size)) ((hW.cell (p := ⟨Bs, 0, none⟩) hBz).trans hBs) h0

set_option maxHeartbeats 1000000 in
theorem all_in (F : Fence) (n : Nat) (hF : F.fn 52) (hro : F.round = none) (g : Nat) (w : World) :
    CallsIn F n Try.prog 52 #[.pointer (some ⟨g, 0, none⟩)] w fun e w' => e = .returned (.func (.func 81) #[] #[.pointer (some ⟨w.heap.size, 0, none⟩)]) ∧ w' = w.alloc (.cells #[.pointer (some ⟨g, 0, none⟩)] 27) := by
  refine callsIn_of_wp Try.func52 rfl hF ?_ hro
  simp only [Try.ntmps52, List.size_toArray, List.length_cons, List.length_nil, Nat.reduceAdd, Nat.reduceSub, Array.replicate_succ, Array.replicate_zero, List.push_toArray, List.append_toArray, List.nil_append, List.cons_append]
  gi_wp2
  go_ret
  exact ⟨rfl, rfl⟩

end Go.Proofs.Ythdjinicmnhgpaa
