/-
Transactions of the call's own; the laws' Txs.
-/
import Derived.Maps.AppendAt
import Derived.Laws.AppendOwnNone
import Derived.Test.YthdjinicmnhgpaaGreatP13
namespace Go.Proofs.YthdjinicmnhgpaaGreat
open Go.RowKit

theorem Tryz.infoEvP : (Tryz.prog.info? 76).map (fun i => (i.zero, i.size, i.bytes)) = some (some (.agg #[.int .u8 0, .int .u32 0, .int .u32 0, .int .u8 0, .slice none 0 0, .slice none 0 0, .slice none 0 0, .int .u8 0]), 8, 96) := by kernel_rfl
theorem Tryz.infoTxP : (Tryz.prog.info? 40).map (fun i => (i.zero, i.size, i.bytes)) = some (some (.agg #[.int .u32 0, .int .u64 0, .slice none 0 0]), 3, 40) := by kernel_rfl

structure TL.on (S : Nat → Prop) (x : TL) : Prop where
  a : x.es ≠ [] → ∀ b o, x.a = some ⟨b, o, none⟩ → S b
  e : ∀ e ∈ x.es, e.on S
theorem TL.on.mono {S T : Nat → Prop} {x : TL} (h : x.on S) (hs : ∀ b, S b → T b) : x.on T := ⟨fun h0 b o e => hs b (h.a h0 b o e), fun e he => (h.e e he).mono hs⟩
theorem TL.on.and {S T : Nat → Prop} {x : TL} (h : x.on S) (k : x.on T) : x.on (fun b => S b ∧ T b) := ⟨fun h0 b o e => ⟨h.a h0 b o e, k.a h0 b o e⟩, fun e he => (h.e e he).and (k.e e he)⟩
theorem TL.at.lt {n : Nat} {f : K → List Value} {W : World} {x : TL} (h : x.at n f W) : x.on (fun b => b < W.heap.size) :=
  ⟨fun h0 b o e => Sl.lt (by have := h.row; rw [e] at this; exact this) (fun q => h0 (by simpa using q)), fun e he => (h.sl e he).lt⟩
theorem TL.at.kp {S : Nat → Prop} {n : Nat} {f : K → List Value} {W W' : World} {x : TL} (h : x.at n f W) (hk : Kp S W W') (hs : x.on (fun b => ¬ S b)) : x.at n f W' := ES.kp h hk hs.a hs.e
theorem TL.len (l : List TL) : ∀ xs ∈ l.map TL.vals, xs.length = 3 := by
  intro xs hxs
  rw [List.mem_map] at hxs
  obtain ⟨p, _, rfl⟩ := hxs
  rfl

/-- Transactions of the call's own, in a row of its own, all from N on. -/
structure OwnT (W : World) (N : Nat) (xs : List Tx) (v : Value) (qs : List TL) : Prop where
  own : W.ownsRow N 40 3 v qs.length (qs.map TL.vals).flatten
  t : qs.map TL.t = xs
  sl : ∀ q ∈ qs, q.at 5 K.pc W
  ne : ∀ q ∈ qs, q.on (fun b => N ≤ b ∧ v.ownBlock ≠ some b)
  cap : ∀ q ∈ qs, q.es.length ≤ q.c
section
variable {S : Nat → Prop} {W W' : World} {N : Nat} {xs : List Tx} {v v' : Value} {qs : List TL} {q : TL}
theorem OwnT.nil (W : World) (N : Nat) : OwnT W N [] (.slice none 0 0) [] := ⟨World.ownsRow_nil _ _ _ _, rfl, (fun q h => by cases h), (fun q h => by cases h), (fun q h => by cases h)⟩
theorem OwnT.len (h : OwnT W N xs v qs) : qs.length = xs.length := by rw [← h.t, List.length_map]
theorem OwnT.kp (h : OwnT W N xs v qs) (hk : Kp S W W') (h1 : ∀ b, v.ownBlock = some b → ¬ S b) (h2 : ∀ q ∈ qs, q.on (fun b => ¬ S b)) : OwnT W' N xs v qs :=
  ⟨owns_kp h.own hk h1, h.t, fun q hq => (h.sl q hq).kp hk (h2 q hq), h.ne, h.cap⟩
theorem OwnT.low (h : OwnT W N xs v qs) (hk : Kp S W W') (h1 : ∀ b, S b → b < N ∨ W.heap.size ≤ b) : OwnT W' N xs v qs :=
  h.kp hk (fun b hb hs => by have := owns_lt3 h.own hb; have := h1 b hs; omega) (fun q hq => ((h.ne q hq).and (h.sl q hq).lt).mono (fun b hb hs => by have := h1 b hs; omega))
theorem OwnT.ext (h : OwnT W N xs v qs) (he : Ext W W') : OwnT W' N xs v qs := ⟨owns_ext h.own he, h.t, fun q hq => (h.sl q hq).ext he, h.ne, h.cap⟩
theorem OwnT.push (h : OwnT W N xs v qs) (hs : q.at 5 K.pc W) (hc : q.es.length ≤ q.c) (hn : q.on (fun b => N ≤ b ∧ v.ownBlock ≠ some b))
    (hg : W.grownBy W' v.ownBlock) (hat : v'.ownBlock = v.ownBlock ∨ v'.ownBlock = some W.heap.size) (ho : W'.ownsRow N 40 3 v' (qs.length + 1) ((qs.map TL.vals).flatten ++ q.vals)) : OwnT W' N (xs ++ [q.t]) v' (qs ++ [q]) := by
  have hall : ∀ x ∈ qs ++ [q], x.at 5 K.pc W ∧ x.on (fun b => N ≤ b ∧ v.ownBlock ≠ some b) := fun x hx => by
    rcases List.mem_append.1 hx with hx | hx
    · exact ⟨h.sl x hx, h.ne x hx⟩
    · obtain rfl : x = q := by simpa using hx
      exact ⟨hs, hn⟩
  refine ⟨by simpa using ho, by rw [List.map_append, h.t]; rfl, fun x hx => (hall x hx).1.kp (Kp.of_grown hg) ((hall x hx).2.mono (fun b hb => hb.2)), fun x hx => ((hall x hx).2.and (hall x hx).1.lt).mono (fun b hb => ⟨hb.1.1, ?_⟩), fun x hx => ?_⟩
  rotate_left 1
  · rcases List.mem_append.1 hx with hx | hx
    · exact h.cap x hx
    · obtain rfl : x = q := by simpa using hx
      exact hc
  rcases hat with h4 | h4
  · rw [h4]; exact hb.1.2
  · rw [h4]; intro h5; injection h5 with h5
    have := hb.2; omega
theorem OwnT.ts (h : OwnT W N xs v qs) : TS 5 K.pc W v qs := ⟨Sl.of_owns (base := N) (e := 40) (by rw [List.length_map]; exact h.own) (TL.len qs), h.sl⟩
end

set_option maxRecDepth 100000 in set_option maxHeartbeats 4000000 in
theorem txs_any (ts : List TL) (a : Option Addr) (c : Nat) (w : World) (ht : TS 6 K.rc w (.slice a ts.length c) ts) (hn : ts.length ≤ 1000) (hm : ∀ t ∈ ts, t.es.length ≤ 1000) (hs : ∀ t ∈ ts, ∀ e ∈ t.es, e.e.small) :
    Calls Tryz.prog 8 #[.slice a ts.length c] w fun e w' => ∃ a' c' qs, e = .returned (.slice a' ts.length c') ∧ OwnT w' w.heap.size (ts.map TL.t) (.slice a' ts.length c') qs ∧ Ext w w' := by
  obtain ⟨i0, hi, hz0, hz1, hz2⟩ := info_parts Tryz.infoEvP
  obtain ⟨j0, hj, hy0, hy1, hy2⟩ := info_parts Tryz.infoTxP
  have HT := Hid.mk' ht
  have HM := Hid.mk' hm
  have HS := Hid.mk' hs
  clear ht hm hs
  go_enter Tryz.func8, Tryz.ntmps8
  go_wp2
  go_loopg [3, 4] ts.length (fun z v i wr => ∃ (k : Nat) (qs : List TL), z + k = ts.length ∧ i = .int .i64 k ∧ Hid (OwnT wr w.heap.size ((ts.take k).map TL.t) v qs) ∧ Hid (Ext w wr))
  case atStart => exact ⟨0, [], by omega, rfl, Hid.mk' (OwnT.nil _ _), Hid.mk' (Ext.refl _)⟩
  case round =>
    obtain ⟨k, qs, hzk, rfl, hown, hE⟩ := hrel
    by_cases hlt : k < ts.length
    · obtain ⟨b, o, rfl, hb, hx⟩ := HT.out.row.at_ (i := k) (by simpa using hlt)
      have HF := Hid.mk' (fun W (h : Ext w W) => TL.at_ hlt hx hb h)
      obtain ⟨f0, f1, f2⟩ := HF.out wr hE.out
      have hbw : b < wr.heap.size := Nat.lt_of_lt_of_le hb hE.out.size
      have HES := Hid.mk' (HT.out.sl _ (List.getElem_mem hlt))
      have HMM := Hid.mk' (HM.out _ (List.getElem_mem hlt))
      have HSS := Hid.mk' (HS.out _ (List.getElem_mem hlt))
      have HTK : Hid (ts.take (k + 1) = ts.take k ++ [ts[k]]) := Hid.mk' (List.take_succ_eq_append_getElem hlt)
      obtain ⟨t, hte⟩ : ∃ t, t = ts[k] := ⟨_, rfl⟩
      rw [← hte] at HF f0 f1 f2 HES HMM HSS HTK
      have HBW := Hid.mk' hb
      have HLK := Hid.mk' hlt
      clear hte hx hb
      obtain ⟨xid, st, es, ta, tc⟩ := t
      simp only at HF f0 f1 f2 HMM HSS
      have HES2 : Hid (ES 6 K.rc w (.slice ta es.length tc) es) := HES
      clear HES
      go_wp2
      go_region_held3 (fun w' => Ext (wr) w' ∧ (∀ b o, b < (wr).heap.size → w'.cell? ⟨b, o, none⟩ = (wr).cell? ⟨b, o, none⟩) ∧ (∀ b o, b < (wr).heap.size → w'.frozen? ⟨b, o, none⟩ = (wr).frozen? ⟨b, o, none⟩)) ((exact held_of (by (repeat (with_reducible (first | exact Ext.refl _ | assumption | exact held_left (by assumption) | apply Ext.drewN | apply Ext.drew | apply Ext.alloc | (refine Ext.setCell ?_ (by first | (simp; done) | (simp; omega) | omega) _) | (refine Ext.trans ?_ (by assumption)) | (refine Ext.trans ?_ (held_left (by assumption))))))))) (fail)
      have HX1 : Hid (Blk (wr.alloc (.cells #[.int .u32 xid, .int .u64 st, .slice none 0 0] 40)).drew wr.heap.size #[.int .u32 xid, .int .u64 st, .slice none 0 0] 40) := Hid.mk' (Blk.new wr _ _).drew
      have HE1 : Hid (Ext wr (wr.alloc (.cells #[.int .u32 xid, .int .u64 st, .slice none 0 0] 40)).drew) := Hid.mk' (by (repeat (with_reducible (first | exact Ext.refl _ | assumption | exact held_left (by assumption) | apply Ext.drewN | apply Ext.drew | apply Ext.alloc | (refine Ext.setCell ?_ (by first | (simp; done) | (simp; omega) | omega) _) | (refine Ext.trans ?_ (by assumption)) | (refine Ext.trans ?_ (held_left (by assumption)))))))
      have hsz1 : (wr.alloc (.cells #[.int .u32 xid, .int .u64 st, .slice none 0 0] 40)).drew.heap.size = wr.heap.size + 1 := World.size_alloc _ _
      obtain ⟨w1, hw1⟩ : ∃ w1, w1 = (wr.alloc (.cells #[.int .u32 xid, .int .u64 st, .slice none 0 0] 40)).drew := ⟨_, rfl⟩
      rw [← hw1] at HX1 HE1 hsz1 ⊢
      obtain ⟨wo, hwo⟩ : ∃ x, x = wr := ⟨_, rfl⟩
      subst hwo
      obtain ⟨X, hX⟩ : ∃ X, X = wo.heap.size := ⟨_, rfl⟩
      rw [← hX] at HX1 hsz1 ⊢
      have HSZ := Hid.mk' (And.intro hX (And.intro hsz1 hE.out.size))
      have HEo := Hid.mk' hE.out
      clear hw1 hX hsz1 f0 f1 f2 hE
      go_wp2
      go_loopg [6] es.length (fun z2 i wr => ∃ (n : Nat) (va : Option Addr) (vc : Nat) (qs2 : List EL), z2 + n = es.length ∧ i = .int .i64 n ∧ Hid (Blk wr X #[.int .u32 xid, .int .u64 st, .slice va n vc] 40) ∧ Hid (OwnE 5 K.pc 76 wr (X + 1) ((es.take n).map EL.e) (.slice va n vc) qs2) ∧ Hid (Kp (fun x => x = X) w1 wr))
      case atStart => exact ⟨0, none, 0, [], by omega, rfl, HX1, Hid.mk' (OwnE.nil _ _), Hid.mk' Kp.refl⟩
      case round =>
        obtain ⟨n, va, vc, qs2, hzn, rfl, hB, hO, hK⟩ := hrel
        have HEW : Hid (Ext w wr) := Hid.mk' (Kp.ext (HEo.out.trans HE1.out) (fun x hx _ => by have := HSZ.out; omega) hK.out)
        have gX := hB.out.cell
        have gXf := hB.out.frozen
        have zX := hB.out.lt
        obtain ⟨f0, f1, f2⟩ := HF.out wr HEW.out
        have hbw2 : b < wr.heap.size := Nat.lt_of_lt_of_le HBW.out HEW.out.size
        have HKS := Hid.mk' hK.out.size
        have HQL := Hid.mk' hO.out.len
        by_cases hlt2 : n < es.length
        · obtain ⟨b2, o2, rfl, hb2, hx2⟩ := HES2.out.row.at_ (i := n) (by simpa using hlt2)
          have HG := Hid.mk' (fun W (h : Ext w W) => EL.at_ hlt2 hx2 hb2 h)
          have HB2 := Hid.mk' hb2
          have HTN : Hid (es.take (n + 1) = es.take n ++ [es[n]]) := Hid.mk' (List.take_succ_eq_append_getElem hlt2)
          have hsm := HSS.out _ (List.getElem_mem hlt2)
          have HOW := Hid.mk' (fun W (h : Ext w W) => eown_el es[n] W ((HES2.out.sl _ (List.getElem_mem hlt2)).ext h) hsm.b hsm.a hsm.r)
          obtain ⟨x, hxx⟩ : ∃ x, x = es[n] := ⟨_, rfl⟩
          have HLT := Hid.mk' hlt2
          rw [← hxx] at HG HTN HOW
          clear hxx hx2 hb2 hsm
          obtain ⟨⟨k1, ao1, av1, old1, b1, a1, r1, fl1⟩, ba1, bc1, aa1, ac1, ra1, rc1⟩ := x
          unfold EL.agg at HOW
          simp only at HG HOW
          have HSET : Hid (∀ w', Kp (fun x => w1.heap.size ≤ x) wr w' → (∀ j, w'.cell? ⟨X, j, none⟩ = (#[.int .u32 xid, .int .u64 st, .slice va n vc])[j]?) ∧ (∀ j, w'.frozen? ⟨X, j, none⟩ = false) ∧ w'.cell? ⟨b, o + k * 3 + 2, none⟩ = some (.slice (some ⟨b2, o2, none⟩) es.length tc) ∧ w'.cell? ⟨b2, o2 + n * 8, none⟩ = some (.int .u8 k1) ∧ w'.cell? ⟨b2, o2 + n * 8 + 1, none⟩ = some (.int .u32 ao1) ∧ w'.cell? ⟨b2, o2 + n * 8 + 2, none⟩ = some (.int .u32 av1) ∧ w'.cell? ⟨b2, o2 + n * 8 + 3, none⟩ = some (.int .u8 old1) ∧ w'.cell? ⟨b2, o2 + n * 8 + 4, none⟩ = some (.slice ba1 b1.length bc1) ∧ w'.cell? ⟨b2, o2 + n * 8 + 5, none⟩ = some (.slice aa1 a1.length ac1) ∧ w'.cell? ⟨b2, o2 + n * 8 + 6, none⟩ = some (.slice ra1 r1.length rc1) ∧ w'.cell? ⟨b2, o2 + n * 8 + 7, none⟩ = some (.int .u8 fl1) ∧ b < w'.heap.size ∧ b2 < w'.heap.size ∧ X < w'.heap.size) := Hid.mk' (fun w' h => by
            have hq := HSZ.out
            have hE' : Ext w w' := Kp.ext (HEo.out.trans HE1.out) (S := fun x => x = X ∨ w1.heap.size ≤ x) (fun x hx _ => by omega) ((hK.out.mono (T := fun x => x = X ∨ w1.heap.size ≤ x) (fun x hx _ => .inl hx)).trans h (fun x hx _ => .inr hx))
            have h2 := hB.out.kp h (by omega)
            obtain ⟨p0, p1, p2, p3, p4, p5, p6, p7⟩ := HG.out w' hE'
            exact ⟨h2.cell, h2.frozen, (HF.out w' hE').2.2, p0, p1, p2, p3, p4, p5, p6, p7, Nat.lt_of_lt_of_le HBW.out hE'.size, Nat.lt_of_lt_of_le HB2.out hE'.size, h2.lt⟩)
          obtain ⟨g0, g1, g2, g3, g4, g5, g6, g7⟩ := HG.out wr HEW.out
          have hbw3 : b2 < wr.heap.size := Nat.lt_of_lt_of_le HB2.out HEW.out.size
          go_wp2
          clear gX gXf zX f0 f1 f2 g0 g1 g2 g3 g4 g5 g6 g7
          have hA0 : Hid ((fun w' => (∀ j, w'.cell? ⟨X, j, none⟩ = (#[.int .u32 xid, .int .u64 st, .slice va n vc])[j]?) ∧ (∀ j, w'.frozen? ⟨X, j, none⟩ = false) ∧ w'.cell? ⟨b, o + k * 3 + 2, none⟩ = some (.slice (some ⟨b2, o2, none⟩) es.length tc) ∧ w'.cell? ⟨b2, o2 + n * 8, none⟩ = some (.int .u8 k1) ∧ w'.cell? ⟨b2, o2 + n * 8 + 1, none⟩ = some (.int .u32 ao1) ∧ w'.cell? ⟨b2, o2 + n * 8 + 2, none⟩ = some (.int .u32 av1) ∧ w'.cell? ⟨b2, o2 + n * 8 + 3, none⟩ = some (.int .u8 old1) ∧ w'.cell? ⟨b2, o2 + n * 8 + 4, none⟩ = some (.slice ba1 b1.length bc1) ∧ w'.cell? ⟨b2, o2 + n * 8 + 5, none⟩ = some (.slice aa1 a1.length ac1) ∧ w'.cell? ⟨b2, o2 + n * 8 + 6, none⟩ = some (.slice ra1 r1.length rc1) ∧ w'.cell? ⟨b2, o2 + n * 8 + 7, none⟩ = some (.int .u8 fl1) ∧ b < w'.heap.size ∧ b2 < w'.heap.size ∧ X < w'.heap.size) wr.drew) := Hid.mk' (HSET.out _ (Kp.of_ext (Ext.refl wr).drew))
          refine wp_region_head 13 (fun w' => (∀ j, w'.cell? ⟨X, j, none⟩ = (#[.int .u32 xid, .int .u64 st, .slice va n vc])[j]?) ∧ (∀ j, w'.frozen? ⟨X, j, none⟩ = false) ∧ w'.cell? ⟨b, o + k * 3 + 2, none⟩ = some (.slice (some ⟨b2, o2, none⟩) es.length tc) ∧ w'.cell? ⟨b2, o2 + n * 8, none⟩ = some (.int .u8 k1) ∧ w'.cell? ⟨b2, o2 + n * 8 + 1, none⟩ = some (.int .u32 ao1) ∧ w'.cell? ⟨b2, o2 + n * 8 + 2, none⟩ = some (.int .u32 av1) ∧ w'.cell? ⟨b2, o2 + n * 8 + 3, none⟩ = some (.int .u8 old1) ∧ w'.cell? ⟨b2, o2 + n * 8 + 4, none⟩ = some (.slice ba1 b1.length bc1) ∧ w'.cell? ⟨b2, o2 + n * 8 + 5, none⟩ = some (.slice aa1 a1.length ac1) ∧ w'.cell? ⟨b2, o2 + n * 8 + 6, none⟩ = some (.slice ra1 r1.length rc1) ∧ w'.cell? ⟨b2, o2 + n * 8 + 7, none⟩ = some (.int .u8 fl1) ∧ b < w'.heap.size ∧ b2 < w'.heap.size ∧ X < w'.heap.size) (by kernel_rfl) (by decide) ?_
          (refine wpHd_take (i := 0) (v := ?_) rfl (by kernel_rfl) (by kernel_rfl) (by kernel_rfl) (fun _ _ _ h => h) (Or.inl ⟨by rfl, ?_⟩) hA0.out ?_; rotate_left 1; · (intro w' hS'; (try dsimp only at hS'); go_split_ands; go_simp; try with_reducible rfl))
          (refine wpHd_take (i := 1) (v := ?_) rfl (by kernel_rfl) (by kernel_rfl) (by kernel_rfl) (fun _ _ _ h => h) (Or.inl ⟨by rfl, ?_⟩) hA0.out ?_; rotate_left 1; · (intro w' hS'; (try dsimp only at hS'); go_split_ands; go_simp; try with_reducible rfl))
          (refine wpHd_take (i := 2) (v := ?_) rfl (by kernel_rfl) (by kernel_rfl) (by kernel_rfl) (fun _ _ _ h => h) (Or.inl ⟨by rfl, ?_⟩) hA0.out ?_; rotate_left 1; · (intro w' hS'; (try dsimp only at hS'); go_split_ands; go_simp; try with_reducible rfl))
          (refine wpHd_take (i := 3) (v := ?_) rfl (by kernel_rfl) (by kernel_rfl) (by kernel_rfl) (fun _ _ _ h => h) (Or.inl ⟨by rfl, ?_⟩) hA0.out ?_; rotate_left 1; · (intro w' hS'; (try dsimp only at hS'); go_split_ands; go_simp; try with_reducible rfl))
          (refine wpHd_take (i := 4) (v := ?_) rfl (by kernel_rfl) (by kernel_rfl) (by kernel_rfl) (fun _ _ _ h => h) (Or.inl ⟨by rfl, ?_⟩) hA0.out ?_; rotate_left 1; · (intro w' hS'; (try dsimp only at hS'); go_split_ands; go_simp; try with_reducible rfl))
          (refine wpHd_take (i := 5) (v := ?_) rfl (by kernel_rfl) (by kernel_rfl) (by kernel_rfl) (fun _ _ _ h => h) (Or.inl ⟨by rfl, ?_⟩) hA0.out ?_; rotate_left 1; · (intro w' hS'; (try dsimp only at hS'); go_split_ands; go_simp; try with_reducible rfl))
          (refine wpHd_take (i := 6) (v := ?_) rfl (by kernel_rfl) (by kernel_rfl) (by kernel_rfl) (fun _ _ _ h => h) (Or.inl ⟨by rfl, ?_⟩) hA0.out ?_; rotate_left 1; · (intro w' hS'; (try dsimp only at hS'); go_split_ands; go_simp; try with_reducible rfl))
          (refine wpHd_take (i := 7) (v := ?_) rfl (by kernel_rfl) (by kernel_rfl) (by kernel_rfl) (fun _ _ _ h => h) (Or.inl ⟨by rfl, ?_⟩) hA0.out ?_; rotate_left 1; · (intro w' hS'; (try dsimp only at hS'); go_split_ands; go_simp; try with_reducible rfl))
          (refine wpHd_take (i := 8) (v := ?_) rfl (by kernel_rfl) (by kernel_rfl) (by kernel_rfl) (fun _ _ _ h => h) (Or.inl ⟨by rfl, ?_⟩) hA0.out ?_; rotate_left 1; · (intro w' hS'; (try dsimp only at hS'); go_split_ands; go_simp; try with_reducible rfl))
          (refine wpHd_take (i := 9) (v := ?_) rfl (by kernel_rfl) (by kernel_rfl) (by kernel_rfl) (fun _ _ _ h => h) (Or.inl ⟨by rfl, ?_⟩) hA0.out ?_; rotate_left 1; · (intro w' hS'; (try dsimp only at hS'); go_split_ands; go_simp; try with_reducible rfl))
          refine wpHd_one (i := 10) rfl rfl (by kernel_rfl) (fun KK hK => ?_)
          go_simp
          refine (HOW.out _ HEW.out.drew).mono ?_
          rintro e w7 ⟨⟨ye, ba2, bc2, aa2, ac2, ra2, rc2⟩, rfl, hye, hat7, hon7, hb7⟩
          simp only at hye
          subst hye
          have H7 := Hid.mk' hat7
          have HN7 := Hid.mk' hon7
          have HB7 : Hid (Ext wr w7) := Hid.mk' ((Ext.refl wr).drew.trans hb7)
          refine hK.out _ _ (HSET.out _ (Kp.of_ext HB7.out)) (fun hA => ?_)
          clear hK KK hA hA0 hat7 hon7 hb7
          try simp only
          refine wpHd_one (i := 11) rfl rfl (by kernel_rfl) (fun KK hK => ?_)
          go_simp
          refine hK.out _ _ (HSET.out _ (Kp.of_ext (HB7.out.alloc _))) (fun hA => ?_)
          clear hK KK hA
          refine wpHd_one (i := 12) rfl rfl (by kernel_rfl) (fun KK hK => ?_)
          have hqn : qs2.length = n := by rw [HQL.out, List.length_map, List.length_take]; have := HLT.out; omega
          have HQN := Hid.mk' hqn
          have HQN2 := Hid.mk' (show n + 1 ≤ 1000 by have := HLT.out; have := HMM.out; omega)
          have HO7 : Hid (OwnE 5 K.pc 76 (w7.alloc (.cells #[.int .u8 k1, .int .u32 ao1, .int .u32 av1, .int .u8 old1, .slice ba2 b1.length bc2, .slice aa2 a1.length ac2, .slice ra2 r1.length rc2, .int .u8 fl1] 76)) (X + 1) ((es.take n).map EL.e) (.slice va n vc) qs2) := Hid.mk' (hO.out.ext (HB7.out.alloc _))
          refine wp_append_lies _ _ _ 38 (by rfl) (X + 1) 76 i0 _ 8 96 Tryz.underlying38 hi hz0 hz1 hz2 rfl (by decide) (.slice va n vc) n _ (by rfl) (by have := HO7.out.own; rw [HQN.out] at this; exact this) ⟨_, 0, none⟩ 1 1 (EL.vals ⟨⟨k1, ao1, av1, old1, b1, a1, r1, fl1⟩, ba2, bc2, aa2, ac2, ra2, rc2⟩) (by rfl) rfl (cells_new _ #[.int .u8 k1, .int .u32 ao1, .int .u32 av1, .int .u8 old1, .slice ba2 b1.length bc2, .slice aa2 a1.length ac2, .slice ra2 r1.length rc2, .int .u8 fl1] _) (EL.one _) (by decide) (by unfold maxLen; have := HQN2.out; omega) (by have := HQN2.out; omega) (by have h1 := HB7.out.size; have h2 := HKS.out; have h3 := HSZ.out; simp; omega) _ rfl ?_
          intro g4 cap4 w4 hown4 hgrow4 hat4 hlt4
          have HP : Hid (OwnE 5 K.pc 76 w4 (X + 1) ((es.take (n + 1)).map EL.e) (.slice (some ⟨g4, 0, none⟩) (n + 1) cap4) (qs2 ++ [⟨⟨k1, ao1, av1, old1, b1, a1, r1, fl1⟩, ba2, bc2, aa2, ac2, ra2, rc2⟩])) := Hid.mk' (by
            rw [HTN.out, List.map_append]
            refine OwnE.push HO7.out (H7.out.ext ((Ext.refl _).alloc _)) ((HN7.out).mono (fun b hb => ?_)) hgrow4 (hat4.elim (fun h => .inl (by rw [h]; rfl)) (fun h => .inr (by rw [h]; rfl))) (by rw [HQN.out]; exact hown4)
            have hb' : wr.heap.size ≤ b := hb
            have h2 := HKS.out
            have h3 := HSZ.out
            exact ⟨by omega, fun e => by have := owns_lt3 hO.out.own e; omega⟩)
          have HKG : Hid (Kp (fun x => w1.heap.size ≤ x) wr w4) := Hid.mk' ((Kp.of_ext (S := fun x => w1.heap.size ≤ x) (HB7.out.alloc _)).trans (Kp.of_grown hgrow4) (fun x hx _ => by have := owns_lt3 hO.out.own hx; have h3 := HSZ.out; omega))
          refine hK.out _ _ (HSET.out _ HKG.out) (fun hA => ?_)
          clear hK KK hA hown4 hgrow4 hat4 hlt4 hqn
          have hX4 : Hid (Blk w4 X #[.int .u32 xid, .int .u64 st, .slice va n vc] 40) := Hid.mk' (hB.out.kp HKG.out (by have := HSZ.out; omega))
          have gX := hX4.out.cell
          have gXf := hX4.out.frozen
          have zX := hX4.out.lt
          have hml := HMM.out
          have hlt3 := HLT.out
          refine wpHd_tail (by kernel_rfl) ?_
          simp only [List.drop_succ_cons, List.drop_zero]
          go_wp2
          go_roundg (es.length - (n + 1))
          case measure => have := HLT.out; omega
          case rel =>
            refine ⟨n + 1, some ⟨g4, 0, none⟩, cap4, _, Nat.sub_add_cancel HLT.out, by go_num, Hid.mk' ?_, Hid.mk' (HP.out.low (Kp.set (S := fun x => x = X) ⟨X, 2, none⟩ _ rfl) (fun x hx => by have hx' : x = X := hx; omega)), Hid.mk' ?_⟩
            · have := hX4.out.set 2 (.slice (some ⟨g4, 0, none⟩) (n + 1) cap4)
              simpa only [List.setIfInBounds_toArray, List.set_cons_zero, List.set_cons_succ] using this
            · exact ((hK.out.mono (T := fun x => x = X) (fun x hx _ => hx)).trans (HKG.out) (fun x hx h => by omega)).trans (T := fun x => x = X) (Kp.set _ _ rfl) (fun x hx _ => hx)
        · obtain rfl : n = es.length := by omega
          rw [List.take_length] at hO
          have HON : Hid (OwnT wr w.heap.size ((ts.take k).map TL.t) _ qs) := Hid.mk' (hown.out.low (S := fun x => x = X) ((Kp.of_ext HE1.out).trans hK.out (fun x hx _ => hx)) (fun x hx => by have := HSZ.out; have hx' : x = X := hx; omega))
          have HQT : Hid (qs.length = k) := Hid.mk' (by rw [hown.out.len, List.length_map, List.length_take]; have := HLK.out; omega)
          have HKN := Hid.mk' (show k + 1 ≤ 1000 by have := HLK.out; omega)
          have HVB := Hid.mk' (fun b hb => (owns_lt3 hown.out.own (g := b) hb))
          have HQS : Hid (ES 5 K.pc wr (.slice va es.length vc) qs2) := Hid.mk' hO.out.row
          have hqn : qs2.length = es.length := by rw [HQL.out, List.length_map, List.length_take]; omega
          have HQN := Hid.mk' hqn
          have HQE := Hid.mk' hO.out.e
          have HCV := Hid.mk' (owns_cap hO.out.own)
          have HON2 := Hid.mk' hO.out.ne
          have HOB := Hid.mk' (fun b hb => (owns_lt3 hO.out.own (g := b) hb))
          clear hqn hown hO
          go_wp2_with (at_builtin; refine wpList_append_own_at _ rfl _ _ 33 rfl w.heap.size 40 j0 _ 3 40 Tryz.underlying33 hj hy0 hy1 hy2 rfl (by decide) _ k _ rfl (by have h := owns_ext HON.out.own ((Ext.refl wr).alloc (.cells #[.int .u32 xid, .int .u64 st, .slice va es.length vc] 40)); rw [HQT.out] at h; exact h) ⟨_, 0, none⟩ 1 1 [.int .u32 xid, .int .u64 st, .slice va es.length vc] rfl rfl ?c1 ?c2 ?c3 ?c4 ?c5 ?_)
          case c1 => exact cells_new _ #[.int .u32 xid, .int .u64 st, .slice va es.length vc] _
          case c2 => intro u hu; simp at hu; rcases hu with rfl | rfl | rfl <;> rfl
          case c3 => unfold maxLen; have := HKN.out; omega
          case c4 => have := HKN.out; omega
          case c5 => have := HSZ.out; have := HKS.out; simp; omega
          intro v' w2 hown' hgrow _ hat
          have HOF : Hid (OwnT w2 w.heap.size ((ts.take (k + 1)).map TL.t) v' (qs ++ [⟨xid, st, qs2, va, vc⟩])) := Hid.mk' (by
            rw [HTK.out, List.map_append]
            have h1 := OwnT.push (q := ⟨xid, st, qs2, va, vc⟩) (HON.out.ext ((Ext.refl wr).alloc (.cells #[.int .u32 xid, .int .u64 st, .slice va es.length vc] 40))) (by show ES 5 K.pc _ (.slice va qs2.length vc) qs2; rw [HQN.out]; exact HQS.out.ext ((Ext.refl wr).alloc _)) (by show qs2.length ≤ vc; rw [HQN.out]; exact HCV.out) ⟨fun h0 b o e => ?_, fun x hx => (HON2.out x hx).mono (fun b hb => ?_)⟩ hgrow (by first | exact hat | (rw [World.size_alloc]; exact hat)) (by rw [HQT.out, show TL.vals ⟨xid, st, qs2, va, vc⟩ = [.int .u32 xid, .int .u64 st, .slice va es.length vc] from by unfold TL.vals; rw [HQN.out]]; exact hown')
            · have e2 : TL.t ⟨xid, st, qs2, va, vc⟩ = TL.t ⟨xid, st, es, ta, tc⟩ := by unfold TL.t; rw [HQE.out]
              rw [e2] at h1
              exact h1
            · have h2 := HOB.out b (by rw [show va = some ⟨b, o, none⟩ from e]; rfl)
              have h3 := HSZ.out
              exact ⟨by omega, fun e => by have := HVB.out b e; omega⟩
            · have h3 := HSZ.out
              have h4 : X + 1 ≤ b := hb.1
              exact ⟨by omega, fun e => by have := HVB.out b e; omega⟩)
          have HEF : Hid (Ext w w2) := Hid.mk' ((HEW.out.alloc (.cells #[.int .u32 xid, .int .u64 st, .slice va es.length vc] 40)).grown (owns_ext HON.out.own ((Ext.refl wr).alloc _)) hgrow)
          clear hown' hgrow hat
          go_wp2
          go_roundg (ts.length - (k + 1))
          case measure => have := HLK.out; omega
          case rel => exact ⟨k + 1, _, by have := HLK.out; omega, by go_num, HOF, HEF⟩
    · obtain rfl : k = ts.length := by omega
      rw [List.take_length] at hown
      have hql := hown.out.len
      rw [List.length_map] at hql
      obtain ⟨a', c', rfl⟩ := owns_shape hown.out.own
      rw [hql] at hown ⊢
      clear hql
      go_wp2
      go_ret
      exact ⟨a', c', qs, rfl, hown.out, hE.out⟩

end Go.Proofs.YthdjinicmnhgpaaGreat

/-
All refs that transactions use, in plain words.
-/
namespace Go.Proofs.YthdjinicmnhgpaaGreat
open Go.RowKit

/-- What events use, in their order. -/
def usesEs (es : List Ev) : List Rf := (es.map usesE).flatten
def usesTs (ts : List Tx) : List Rf := (ts.map fun t => usesEs t.es).flatten
/-- What transactions use, rising, each once. -/
noncomputable def usedL (ts : List Tx) : List Rf := putL [] (usesTs ts)
theorem usesEs_snoc (es : List Ev) (e : Ev) : usesEs (es ++ [e]) = usesEs es ++ usesE e := by unfold usesEs; simp
theorem usesTs_snoc (ts : List Tx) (t : Tx) : usesTs (ts ++ [t]) = usesTs ts ++ usesEs t.es := by unfold usesTs; simp
theorem usesTs_app (a b : List Tx) : usesTs (a ++ b) = usesTs a ++ usesTs b := by unfold usesTs; simp
theorem putL_app (acc a b : List Rf) : putL acc (a ++ b) = putL (putL acc a) b := by unfold putL; rw [List.foldl_append]
theorem putL_snoc (acc a : List Rf) (r : Rf) : putL acc (a ++ [r]) = putF r (putL acc a) := by unfold putL; rw [List.foldl_append]; rfl
theorem putF_len (r : Rf) : ∀ l : List Rf, (putF r l).length ≤ l.length + 1
  | [] => by unfold putF; simp
  | y :: l => by
    have ih := putF_len r l
    unfold putF
    split
    · simp only [List.length_cons]; omega
    · split <;> simp only [List.length_cons] <;> omega
theorem putL_len : ∀ (l acc : List Rf), (putL acc l).length ≤ acc.length + l.length
  | [], acc => by unfold putL; simp
  | r :: l, acc => by
    have h1 := putL_len l (putF r acc)
    have h2 := putF_len r acc
    show (putL (putF r acc) l).length ≤ _
    simp only [List.length_cons]; omega
theorem usesE_len {e : Ev} {M : Nat} (h : e.rs.length ≤ M) (hM : 1 ≤ M) : (usesE e).length ≤ M := by
  unfold usesE
  split
  · exact hM
  · split
    · exact h
    · simp
theorem usesEs_len {M : Nat} (hM : 1 ≤ M) : ∀ {es : List Ev}, (∀ e ∈ es, e.rs.length ≤ M) → (usesEs es).length ≤ es.length * M
  | [], _ => by simp [usesEs]
  | e :: es, h => by
    have ih := usesEs_len hM (es := es) (fun x hx => h x (List.mem_cons_of_mem _ hx))
    have h1 := usesE_len (h e (by simp)) hM
    have e1 : usesEs (e :: es) = usesE e ++ usesEs es := by unfold usesEs; simp
    rw [e1, List.length_append, List.length_cons, Nat.succ_mul]
    omega
theorem usesTs_len {M L : Nat} (hM : 1 ≤ M) : ∀ {ts : List Tx}, (∀ t ∈ ts, t.es.length ≤ L ∧ ∀ e ∈ t.es, e.rs.length ≤ M) → (usesTs ts).length ≤ ts.length * (L * M)
  | [], _ => by simp [usesTs]
  | t :: ts, h => by
    have ih := usesTs_len (L := L) hM (ts := ts) (fun x hx => h x (List.mem_cons_of_mem _ hx))
    have h1 := usesEs_len hM (h t (by simp)).2
    have h2 := Nat.mul_le_mul_right M (h t (by simp)).1
    have e1 : usesTs (t :: ts) = usesEs t.es ++ usesTs ts := by unfold usesTs; simp
    rw [e1, List.length_append, List.length_cons, Nat.succ_mul]
    omega
theorem usedL_rise (ts : List Tx) : Rise (usedL ts) := putL_rise Rise.nil
theorem usedL_mem {ts : List Tx} {x : Rf} : x ∈ usedL ts ↔ x ∈ usesTs ts := by
  unfold usedL; rw [putL_mem]; simp
theorem usedL_app {a b : List Tx} {x : Rf} (h : x ∈ usedL (a ++ b)) : x ∈ usedL a ∨ x ∈ usedL b := by
  rw [usedL_mem, usesTs_app, List.mem_append] at h
  rw [usedL_mem, usedL_mem]
  exact h
open Classical in
theorem len_sub : ∀ {l m : List Rf}, l.Nodup → (∀ x ∈ l, x ∈ m) → l.length ≤ m.length
  | [], _, _, _ => Nat.zero_le _
  | a :: l, m, hn, h => by
    have hn' := List.nodup_cons.1 hn
    have ha := h a (by simp)
    have ih := len_sub (l := l) (m := m.erase a) hn'.2 (fun x hx => by
      have hne : x ≠ a := fun e => hn'.1 (e ▸ hx)
      exact (List.mem_erase_of_ne hne).2 (h x (List.mem_cons_of_mem _ hx)))
    rw [List.length_erase_of_mem ha] at ih
    have : 0 < m.length := List.length_pos_of_mem ha
    simp only [List.length_cons]; omega
theorem Rise.nodup {l : List Rf} (h : Rise l) : l.Nodup := by
  unfold Rise at h
  exact h.imp (fun {a b} q e => by subst e; exact Rf.irr a q)
theorem usedL_two (a b : List Tx) : (usedL (a ++ b)).length ≤ (usedL a).length + (usedL b).length := by
  have h := len_sub (m := usedL a ++ usedL b) (usedL_rise (a ++ b)).nodup (fun x hx => List.mem_append.2 (usedL_app hx))
  rwa [List.length_append] at h
theorem Rise.at {l : List Rf} (h : Rise l) {i : Nat} (hi : i + 1 < l.length) : l[i].lt l[i + 1] := by
  unfold Rise at h
  rw [List.pairwise_iff_getElem] at h
  exact h i (i + 1) (by omega) hi (by omega)

end Go.Proofs.YthdjinicmnhgpaaGreat

/-
All refs that transactions use: the program's Used.
-/
namespace Go.Proofs.YthdjinicmnhgpaaGreat
open Go.RowKit Go.Sort

theorem Tryz.infoRfU : (Tryz.prog.info? 54).map (fun i => (i.zero, i.size, i.bytes)) = some (some (.agg #[.int .u32 0, .int .u32 0]), 2, 8) := by kernel_rfl
theorem fl2_app (l m : List Rf) : fl2 (l ++ m) = fl2 l ++ fl2 m := by unfold fl2; simp
theorem fl2_one (l : List Rf) : ∀ u ∈ fl2 l, u.oneCell' = true := by
  intro u hu
  unfold fl2 at hu
  rw [List.mem_flatten] at hu
  obtain ⟨xs, hxs, hu⟩ := hu
  rw [List.mem_map] at hxs
  obtain ⟨c, _, rfl⟩ := hxs
  exact rf_one c u hu

set_option maxRecDepth 20000 in
theorem app_rf {w : World} {ops : Array Oper} {rest : List Oper} {o : Oper} {a : Act} {Q : Exit → Act → World → Prop} (hgd : o.guard = none) (s x : Operand)
    (ho : o.op = .call { callee := .builtin .append, args := #[s, x], argTypes := #[49, 49] })
    (base : Nat) (v : Value) (l : List Rf) (hs : a.eval s = v) (hown : w.ownsRow base 54 2 v l.length (fl2 l)) (base2 : Nat) (u : Value) (m : List Rf) (hx : a.eval x = u) (hu : w.ownsRow base2 54 2 u m.length (fl2 m))
    (h63 : l.length + m.length ≤ 10000000000) (hbase : base ≤ w.heap.size)
    (h : ∀ v' w', w'.ownsRow base 54 2 v' (l ++ m).length (fl2 (l ++ m)) → w.grownBy w' v.ownBlock → wpList Tryz.prog ops Q rest (a.put o.dst v') w') : wpList Tryz.prog ops Q (o :: rest) a w := by
  obtain ⟨i0, hi, hz0, hz1, hz2⟩ := info_parts Tryz.infoRfU
  rcases hu.2 with ⟨rfl, h0⟩ | ⟨g, cap, cur, rfl, _⟩
  · have hm : m = [] := List.length_eq_zero_iff.1 h0
    subst hm
    refine Go.wpList_append_own_none hgd s x 49 ho base 54 i0 2 Tryz.underlying49 hi v _ _ hs hown hx ?_
    exact h v w (by rw [List.append_nil]; exact hown) ⟨rfl, rfl, rfl, Nat.le_refl _, fun _ _ _ => rfl⟩
  · exact wpList_append_own w hgd s x 49 ho base 54 i0 _ 2 8 Tryz.underlying49 hi hz0 hz1 hz2 rfl (by decide) v _ _ hs hown ⟨g, 0, none⟩ m.length cap (fl2 m) hx (fl2_len m) (World.ownsRow.cells hu rfl) (fl2_one m) (by unfold maxLen; omega) (by omega) hbase
      (fun v' w' h1 h2 _ => h v' w' (by rw [List.length_append, fl2_app]; exact h1) h2)

theorem compact_nil (c : Nat) (w : World) : Calls Tryz.prog 31 #[.slice none 0 c] w fun e w' => e = .returned (.slice none 0 c) ∧ w = w' := by
  go_enter Tryz.func31, Tryz.ntmps31
  go_wp2
  go_ret
  exact ⟨rfl, rfl⟩

set_option maxRecDepth 100000 in set_option maxHeartbeats 8000000 in
theorem used_any (ts : List TL) (a : Option Addr) (c : Nat) (w : World) (ht : TS 5 K.pc w (.slice a ts.length c) ts) (hn : ts.length ≤ 1000) (hm : ∀ t ∈ ts, t.es.length ≤ 1000) (hs : ∀ t ∈ ts, ∀ e ∈ t.es, e.e.small) :
    Calls Tryz.prog 13 #[.slice a ts.length c] w fun e w' => ∃ a' n c', e = .returned (.slice a' n c') ∧ n = (usedL (ts.map TL.t)).length ∧ Sl w' (.slice a' n c') 2 ((usedL (ts.map TL.t)).map Rf.cells) ∧ (∀ b o, a' = some ⟨b, o, none⟩ → w.heap.size ≤ b) ∧ Ext w w' := by
  have HT := Hid.mk' ht
  have HM := Hid.mk' hm
  have HS := Hid.mk' hs
  have HLN : Hid (∀ k, k ≤ ts.length → (usesTs ((ts.take k).map TL.t)).length ≤ 1000000000) := Hid.mk' (fun k hk => by
    have h := usesTs_len (M := 1000) (L := 1000) (by decide) (ts := (ts.take k).map TL.t) (fun t ht => by
      obtain ⟨x, hx, rfl⟩ := List.mem_map.1 ht
      have hx := List.mem_of_mem_take hx
      refine ⟨by show (x.es.map EL.e).length ≤ 1000; rw [List.length_map]; exact hm x hx, fun e he => ?_⟩
      obtain ⟨y, hy, rfl⟩ := List.mem_map.1 he
      exact (hs x hx y hy).r)
    rw [List.length_map, List.length_take] at h
    omega)
  clear ht hm hs
  go_enter Tryz.func13, Tryz.ntmps13
  go_wp2
  go_loopg [3, 10] ts.length (fun z v i wr => ∃ k : Nat, z + k = ts.length ∧ i = .int .i64 k ∧ Hid (wr.ownsRow w.heap.size 54 2 v (usesTs ((ts.take k).map TL.t)).length (fl2 (usesTs ((ts.take k).map TL.t)))) ∧ Hid (Ext w wr))
  case atStart => exact ⟨0, by omega, rfl, Hid.mk' (World.ownsRow_nil _ _ _ _), Hid.mk' (Ext.refl _)⟩
  case round =>
    obtain ⟨k, hzk, rfl, hown, hE⟩ := hrel
    by_cases hlt : k < ts.length
    · obtain ⟨b, o, rfl, hb, hx⟩ := HT.out.row.at_ (i := k) (by simpa using hlt)
      obtain ⟨f0, f1, f2⟩ := TL.at_ hlt hx hb hE.out
      have hbw : b < wr.heap.size := Nat.lt_of_lt_of_le hb hE.out.size
      have HES := Hid.mk' (HT.out.sl _ (List.getElem_mem hlt))
      have HMM := Hid.mk' (HM.out _ (List.getElem_mem hlt))
      have HSS := Hid.mk' (HS.out _ (List.getElem_mem hlt))
      have HTK : Hid (usesTs ((ts.take (k + 1)).map TL.t) = usesTs ((ts.take k).map TL.t) ++ usesEs (ts[k].es.map EL.e)) := Hid.mk' (by rw [List.take_succ_eq_append_getElem hlt, List.map_append]; exact usesTs_snoc _ _)
      have HLK := Hid.mk' (HLN.out (k + 1) hlt)
      obtain ⟨q, hq⟩ : ∃ q, q = usesTs ((ts.take k).map TL.t) := ⟨_, rfl⟩
      rw [← hq] at hown HTK
      obtain ⟨t, hte⟩ : ∃ t, t = ts[k] := ⟨_, rfl⟩
      rw [← hte] at f0 f1 f2 HES HMM HSS HTK
      have HLT := Hid.mk' hlt
      clear hte hx hb hq
      obtain ⟨xid, st, es, ta, tc⟩ := t
      simp only at f0 f1 f2 HMM HSS HTK
      have HES2 : Hid (ES 5 K.pc w (.slice ta es.length tc) es) := HES
      rw [HTK.out, List.length_append] at HLK
      clear HES
      obtain ⟨wo, hwo⟩ : ∃ x, x = wr := ⟨_, rfl⟩
      subst hwo
      go_wp2
      have HE1 : Hid (Ext w (wo.alloc (.cells #[.int .u32 xid, .int .u64 st, .slice ta es.length tc] 40))) := Hid.mk' (hE.out.alloc _)
      have HO1 := Hid.mk' (owns_ext hown.out ((Ext.refl wo).alloc (.cells #[.int .u32 xid, .int .u64 st, .slice ta es.length tc] 40)))
      obtain ⟨w1, hw1⟩ : ∃ w1, w1 = wo.alloc (.cells #[.int .u32 xid, .int .u64 st, .slice ta es.length tc] 40) := ⟨_, rfl⟩
      rw [← hw1] at HE1 HO1 ⊢
      clear hw1 f0 f1 f2 hE hown
      go_loopg [3, 17] es.length (fun z2 v i wr => ∃ n : Nat, z2 + n = es.length ∧ i = .int .i64 n ∧ Hid (wr.ownsRow w.heap.size 54 2 v (q ++ usesEs ((es.take n).map EL.e)).length (fl2 (q ++ usesEs ((es.take n).map EL.e)))) ∧ Hid (Ext w wr))
      case atStart => exact ⟨0, by omega, rfl, Hid.mk' (by simpa [usesEs] using HO1.out), HE1⟩
      case round =>
        obtain ⟨n, hzn, rfl, hO, hK⟩ := hrel
        by_cases hlt2 : n < es.length
        · obtain ⟨b2, o2, rfl, hb2, hx2⟩ := HES2.out.row.at_ (i := n) (by simpa using hlt2)
          obtain ⟨g0, g1, g2, g3, g4, g5, g6, g7⟩ := EL.at_ hlt2 hx2 hb2 hK.out
          have hbw2 : b2 < wr.heap.size := Nat.lt_of_lt_of_le hb2 hK.out.size
          have HTN : Hid (usesEs ((es.take (n + 1)).map EL.e) = usesEs ((es.take n).map EL.e) ++ usesE es[n].e) := Hid.mk' (by rw [List.take_succ_eq_append_getElem hlt2, List.map_append]; exact usesEs_snoc _ _)
          have HLN2 : Hid (q.length + (usesEs ((es.take n).map EL.e)).length + (usesE es[n].e).length ≤ 1000000000) := Hid.mk' (by
            have h1 : es.map EL.e = (es.take (n + 1)).map EL.e ++ (es.drop (n + 1)).map EL.e := by rw [← List.map_append, List.take_append_drop]
            have h2 : usesEs (es.map EL.e) = usesEs ((es.take (n + 1)).map EL.e) ++ usesEs ((es.drop (n + 1)).map EL.e) := by
              conv => lhs; rw [h1]
              unfold usesEs; rw [List.map_append, List.flatten_append]
            have h3 := HLK.out
            rw [h2, HTN.out, List.length_append, List.length_append] at h3
            omega)
          have HUS := Hid.mk' (fun W (h : Ext w W) => euses_any es[n] W ((HES2.out.sl _ (List.getElem_mem hlt2)).ext h) (HSS.out _ (List.getElem_mem hlt2)))
          obtain ⟨p, hp⟩ : ∃ p, p = usesEs ((es.take n).map EL.e) := ⟨_, rfl⟩
          rw [← hp] at HTN HLN2 hO
          obtain ⟨x, hxx⟩ : ∃ x, x = es[n] := ⟨_, rfl⟩
          rw [← hxx] at g0 g1 g2 g3 g4 g5 g6 g7 HTN HLN2 HUS
          have HLT2 := Hid.mk' hlt2
          clear hxx hp hx2
          obtain ⟨⟨k1, ao1, av1, old1, b1, a1, r1, fl1⟩, ba1, bc1, aa1, ac1, ra1, rc1⟩ := x
          unfold EL.agg at HUS
          simp only at g0 g1 g2 g3 g4 g5 g6 g7 HUS HTN HLN2
          obtain ⟨U, hU⟩ : ∃ U, U = usesE ⟨k1, ao1, av1, old1, b1, a1, r1, fl1⟩ := ⟨_, rfl⟩
          rw [← hU] at HUS HTN HLN2
          clear hU
          have HX : Hid (Ext w (wr.alloc (.cells #[.int .u8 k1, .int .u32 ao1, .int .u32 av1, .int .u8 old1, .slice ba1 b1.length bc1, .slice aa1 a1.length ac1, .slice ra1 r1.length rc1, .int .u8 fl1] 76))) := Hid.mk' (hK.out.alloc _)
          go_wp2_with (first
            | (go_at_call 28; refine (HUS.out _ HX.out).mono ?_; rintro e w3 ⟨a3, n3, c3, rfl, rfl, ho3, hb3⟩; have HO3 := Hid.mk' ho3; have HB3 := Hid.mk' (show Ext wr w3 from ((Ext.refl wr).alloc _).trans hb3); clear ho3 hb3)
            | (at_builtin; refine app_rf rfl _ _ rfl w.heap.size _ (q ++ p) rfl (owns_ext hO.out HB3.out) _ _ U rfl HO3.out ?c1 ?c2 ?_))
          case c1 => rw [List.length_append]; have := HLN2.out; omega
          case c2 => exact Nat.le_trans hK.out.size HB3.out.size
          intro v4 w4 hown4 hg4
          have HO4 := Hid.mk' hown4
          have HE4 : Hid (Ext w w4) := Hid.mk' ((hK.out.trans HB3.out).grown (owns_ext hO.out HB3.out) hg4)
          clear hown4 hg4
          have hml := HMM.out
          have hlt3 := HLT2.out
          go_wp2
          go_roundg (es.length - (n + 1))
          case measure => have := HLT2.out; omega
          case rel => exact ⟨n + 1, Nat.sub_add_cancel HLT2.out, by go_num, Hid.mk' (by rw [HTN.out]; have h := HO4.out; simpa only [List.length_append, List.append_assoc, Nat.add_assoc] using h), HE4⟩
        · obtain rfl : n = es.length := by omega
          rw [List.take_length] at hO
          rw [← HTK.out] at hO
          go_wp2
          go_roundg (ts.length - (k + 1))
          case measure => have := HLT.out; omega
          case rel => exact ⟨k + 1, by have := HLT.out; omega, by go_num, hO, hK⟩
    · obtain rfl : k = ts.length := by omega
      have hll := HLN.out ts.length (Nat.le_refl _)
      rw [List.take_length] at hown hll
      have HU : Hid (∀ d, Wax d → d.Perm (usesTs (ts.map TL.t)) → compF d = usedL (ts.map TL.t)) := Hid.mk' (fun d h1 h2 => comp_put h1 (fun x => h2.mem_iff))
      obtain ⟨q, hq⟩ : ∃ q, q = usesTs (ts.map TL.t) := ⟨_, rfl⟩
      rw [← hq] at hown hll HU
      have hown2 := hown.out
      rcases hown2.2 with ⟨rfl, h0⟩ | ⟨g, cap, cur, rfl, hg, hBl, hnc, hcm, hsz, htk⟩
      · have hqe : q = [] := List.length_eq_zero_iff.1 h0
        have HR : Hid (usedL (ts.map TL.t) = []) := Hid.mk' (by
          have h := HU.out [] List.Pairwise.nil (by rw [hqe])
          rw [← h]; unfold compF; rfl)
        clear hown2 hq h0 hqe hll
        go_wp2_with (first
          | (go_at_call 29; refine (sort_none _ _ _ _).mono ?_; rintro e w3 ⟨rfl, rfl⟩)
          | (go_at_call 31; refine (compact_nil _ _).mono ?_; rintro e w3 ⟨rfl, rfl⟩))
        go_ret
        exact ⟨none, 0, 0, rfl, by rw [HR.out]; rfl, by rw [HR.out]; exact ⟨none, 0, rfl, .inl rfl⟩, (fun b o e => by cases e), hE.out⟩
      · have hcur : cur = (fl2 q ++ cur.toList.drop (q.length * 2)).toArray := by
          rw [← htk, List.take_append_drop]
        have hBq : Blk wr g (fl2 q ++ cur.toList.drop (q.length * 2)).toArray 54 := by rw [← hcur]; exact hBl
        obtain ⟨rest, hrest⟩ : ∃ r, r = cur.toList.drop (q.length * 2) := ⟨_, rfl⟩
        rw [← hrest] at hBq
        have HSO := Hid.mk' (sort_any q g cap rest wr hBq (by omega))
        have HG := Hid.mk' (And.intro hg hnc)
        have HLL := Hid.mk' hll
        clear hown2 hq hll hcur hBq hrest hBl hnc hcm hsz htk hg hown
        go_wp2_with (first
          | (go_at_call 29; refine HSO.out.mono ?_; rintro e w3 ⟨rfl, d, hdl, hpm, hwx, hBd, hKd⟩; have HP := Hid.mk' (And.intro (HU.out d hwx hpm) (And.intro hBd hKd)); have HCM := Hid.mk' (compact_o d g 0 cap rest w3 rfl hBd (by have := HLL.out; omega) (by have := HG.out; omega)); rw [hdl] at HCM; clear hdl hpm hwx hBd hKd)
          | (go_at_call 31; refine HCM.out.mono ?_; rintro e w4 ⟨rfl, ⟨rest', hB4⟩, hK4⟩; have HB4 := Hid.mk' (And.intro hB4 hK4); clear hB4 hK4))
        go_ret
        have h1 := HP.out.1
        have hB4 := HB4.out.1
        rw [h1] at hB4
        refine ⟨_, _, _, rfl, by rw [h1], ?_, fun b o e => ?_, ?_⟩
        · rw [h1]
          refine ⟨_, _, by rw [List.length_map], .inr ⟨g, 0, rfl, hB4.lt, fun i hi j hj => ?_⟩⟩
          rw [List.length_map] at hi
          rw [getD_map Rf.cells _ hi, hB4.cell, List.getElem?_toArray, List.getElem?_append_left (by rw [fl2_len]; omega), Nat.zero_add]
          exact fl2_get _ hi hj
        · simp only [Option.some.injEq, Addr.mk.injEq] at e
          have := HG.out.1
          omega
        · refine Kp.ext (S := fun x => x = g) hE.out (fun x hx _ => by have := HG.out.1; omega) (HP.out.2.2.trans HB4.out.2 (fun x hx _ => hx))

end Go.Proofs.YthdjinicmnhgpaaGreat

/-
Refs with one more at its place: the reference's put.
-/
namespace Go.Proofs.YthdjinicmnhgpaaGreat
open Go.RowKit

theorem Tryz.infoRRfP : (Tryz.prog.info? 56).map (fun i => (i.zero, i.size, i.bytes)) = some (some (.agg #[.int .u32 0, .int .u32 0]), 2, 8) := by kernel_rfl

noncomputable def outsF (r : Rf) (b : Bool) (l : List Rf) : List Rf := if b = true then putF r l else l
theorem outsF_in {r x : Rf} {l : List Rf} (h : ∃ x ∈ l, ¬ x.lt r) : outsF r true (l ++ [x]) = outsF r true l ++ [x] := by
  unfold outsF; rw [if_pos rfl, if_pos rfl, putF_in h]
theorem outsF_eq {r : Rf} {l : List Rf} (h : ∀ x ∈ l, x.lt r) : outsF r true (l ++ [r]) = outsF r false l ++ [r] := by
  unfold outsF
  rw [if_pos rfl, if_neg (by simp), putF_all h]
  unfold putF
  rw [if_neg (Rf.irr r), if_pos rfl]
theorem outsF_new {r x : Rf} {l : List Rf} (h : ∀ x ∈ l, x.lt r) (hx : ¬ x.lt r) (hn : x ≠ r) : outsF r true (l ++ [x]) = outsF r false l ++ [r] ++ [x] := by
  unfold outsF
  rw [if_pos rfl, if_neg (by simp), putF_all h]
  unfold putF
  rw [if_neg hx, if_neg hn, List.append_assoc]; rfl
theorem outsF_end {r : Rf} {l : List Rf} (h : ∀ x ∈ l, x.lt r) : putF r l = outsF r false l ++ [r] := by
  have := putF_all (r := r) (xs := l) (ys := []) h
  rw [List.append_nil] at this
  rw [this]; rfl
theorem rf_snoc (q : List Rf) (x : Rf) : ((q ++ [x]).map Rf.cells).flatten = (q.map Rf.cells).flatten ++ x.cells := by simp

set_option maxRecDepth 100000 in set_option maxHeartbeats 4000000 in
theorem rputf_any (l : List Rf) (r : Rf) (a : Option Addr) (c : Nat) (w : World) (hl : Sl w (.slice a l.length c) 2 (l.map Rf.cells)) (hn : l.length ≤ 1000000000) :
    Calls Tryz.prog 33 #[.slice a l.length c, .agg #[.int .u32 r.o, .int .u32 r.v]] w fun e w' => ∃ a' n c', e = .returned (.slice a' n c') ∧ n = (putF r l).length ∧ w'.ownsRow w.heap.size 56 2 (.slice a' n c') n ((putF r l).map Rf.cells).flatten ∧ Ext w w' := by
  obtain ⟨i0, hi, hz0, hz1, hz2⟩ := info_parts Tryz.infoRRfP
  have HL := Hid.mk' hl
  clear hl
  go_enter Tryz.func33, Tryz.ntmps33
  go_wp2
  go_loopw [5, 6, 7] (fun v pb i wr => ∃ (k : Nat) (b : Bool) (q : List Rf), k ≤ l.length ∧ i = .int .i64 k ∧ pb = .bool b ∧ Hid (q = outsF r b (l.take k)) ∧ Hid (b = true → ∃ x ∈ l.take k, ¬ x.lt r) ∧ Hid (b = false → ∀ x ∈ l.take k, x.lt r) ∧ q.length ≤ k + b.toNat ∧ Hid (wr.ownsRow (w.heap.size + 1) 56 2 v q.length (q.map Rf.cells).flatten) ∧ Hid (Ext (w.alloc (.cells #[.int .u32 r.o, .int .u32 r.v] 56)) wr)) (fun _ _ i _ => l.length - (intOf i).toNat)
  case atStart => exact ⟨0, false, [], Nat.zero_le _, rfl, rfl, Hid.mk' rfl, Hid.mk' (fun h => by cases h), Hid.mk' (fun _ x hx => by simp at hx), Nat.le_refl _, Hid.mk' (World.ownsRow_nil _ _ _ _), Hid.mk' (Ext.refl _)⟩
  case round =>
    obtain ⟨k, b, q, hk, rfl, rfl, hq, hB1, hB0, hql, hown, hE⟩ := hrel
    have HEW := Hid.mk' (((Ext.refl w).alloc (.cells #[.int .u32 r.o, .int .u32 r.v] 56)).trans hE.out)
    have HBB := Hid.mk' ((Blk.new w #[.int .u32 r.o, .int .u32 r.v] 56).ext hE.out)
    have g0 := HBB.out.cell
    have z0 := HBB.out.lt
    have HE3 : Hid (Ext wr wr) := Hid.mk' (Ext.refl _)
    by_cases hlt : k < l.length
    · obtain ⟨b0, o, rfl, hb, hx⟩ := HL.out.at_ (i := k) (by simpa using hlt)
      have HF := Hid.mk' (fun W (h : Ext w W) => Rf.at_ hlt hx hb h)
      obtain ⟨f0, f1⟩ := HF.out _ HEW.out
      have hbw : b0 < wr.heap.size := Nat.lt_of_lt_of_le hb HEW.out.size
      have HTK : Hid (l.take (k + 1) = l.take k ++ [l[k]]) := Hid.mk' (List.take_succ_eq_append_getElem hlt)
      have HB := Hid.mk' hb
      obtain ⟨p, hp⟩ : ∃ p, p = l[k] := ⟨_, rfl⟩
      rw [← hp] at f0 f1 HF HTK
      clear hx hp hb
      have hpl : (Rf.cells p).length = 2 := rfl
      have hrl : (Rf.cells r).length = 2 := rfl
      have hq1 : b.toNat ≤ 1 := by cases b <;> decide
      cases b with
      | true =>
        have HO := Hid.mk' (show q ++ [p] = outsF r true (l.take (k + 1)) from by rw [HTK.out, outsF_in (hB1.out rfl), hq.out])
        have HBX := Hid.mk' (show ∃ x ∈ l.take (k + 1), ¬ x.lt r from by
          obtain ⟨x, h1, h2⟩ := hB1.out rfl
          exact ⟨x, by rw [HTK.out]; exact List.mem_append_left _ h1, h2⟩)
        have hO3 := hown
        have hX3 := hE
        clear hq hB1 hB0
        go_wp2
        refine wp_region_head 10 (fun w' => Ext (wr) w' ∧ (∀ b o, b < (wr).heap.size → w'.cell? ⟨b, o, none⟩ = (wr).cell? ⟨b, o, none⟩) ∧ (∀ b o, b < (wr).heap.size → w'.frozen? ⟨b, o, none⟩ = (wr).frozen? ⟨b, o, none⟩)) (by kernel_rfl) (by decide) ?_
        have hA0 : Hid ((fun w' => Ext (wr) w' ∧ (∀ b o, b < (wr).heap.size → w'.cell? ⟨b, o, none⟩ = (wr).cell? ⟨b, o, none⟩) ∧ (∀ b o, b < (wr).heap.size → w'.frozen? ⟨b, o, none⟩ = (wr).frozen? ⟨b, o, none⟩)) wr.drew) := held_of (by (repeat (with_reducible (first | exact Ext.refl _ | assumption | exact held_left (by assumption) | apply Ext.drewN | apply Ext.drew | apply Ext.alloc | (refine Ext.setCell ?_ (by first | (simp; done) | (simp; omega) | omega) _) | (refine Ext.trans ?_ (by assumption)) | (refine Ext.trans ?_ (held_left (by assumption)))))))
        (refine wpHd_takeD (i := 0) (d := some 14) (v := ?_) rfl rfl (by kernel_rfl) (by kernel_rfl) (by kernel_rfl) (fun _ _ _ h => h) (Or.inl ⟨by rfl, ?_⟩) hA0.out ?_; rotate_left 1; (· (intro w' hS'; (obtain ⟨hEs', hcs', hfs'⟩ := hS'); go_simp; try with_reducible rfl)))
        try simp only [Act.put, List.setIfInBounds_toArray, List.set_cons_zero, List.set_cons_succ]
        (refine wpHd_takeD (i := 1) (d := some 15) (v := ?_) rfl rfl (by kernel_rfl) (by kernel_rfl) (by kernel_rfl) (fun _ _ _ h => h) (Or.inl ⟨by rfl, ?_⟩) hA0.out ?_; rotate_left 1; (· (intro w' hS'; (obtain ⟨hEs', hcs', hfs'⟩ := hS'); go_simp; try with_reducible rfl)))
        try simp only [Act.put, List.setIfInBounds_toArray, List.set_cons_zero, List.set_cons_succ]
        (refine wpHd_takeD (i := 2) (d := some 16) (v := ?_) rfl rfl (by kernel_rfl) (by kernel_rfl) (by kernel_rfl) (fun _ _ _ h => h) (Or.inl ⟨by rfl, ?_⟩) hA0.out ?_; rotate_left 1; (· (intro w' hS'; (obtain ⟨hEs', hcs', hfs'⟩ := hS'); go_simp; try with_reducible rfl)))
        try simp only [Act.put, List.setIfInBounds_toArray, List.set_cons_zero, List.set_cons_succ]
        refine wpHd_takeD (i := 3) (d := some 17) (v := undef) rfl rfl (by kernel_rfl) (by kernel_rfl) (by kernel_rfl) (fun _ _ _ h => h) (Or.inr ⟨by rfl, rfl⟩) hA0.out ?_
        try simp only [Act.put, List.setIfInBounds_toArray, List.set_cons_zero, List.set_cons_succ]
        refine wpHd_takeD (i := 4) (d := some 18) (v := undef) rfl rfl (by kernel_rfl) (by kernel_rfl) (by kernel_rfl) (fun _ _ _ h => h) (Or.inr ⟨by rfl, rfl⟩) hA0.out ?_
        try simp only [Act.put, List.setIfInBounds_toArray, List.set_cons_zero, List.set_cons_succ]
        refine wpHd_takeD (i := 5) (d := some 19) (v := undef) rfl rfl (by kernel_rfl) (by kernel_rfl) (by kernel_rfl) (fun _ _ _ h => h) (Or.inr ⟨by rfl, rfl⟩) hA0.out ?_
        try simp only [Act.put, List.setIfInBounds_toArray, List.set_cons_zero, List.set_cons_succ]
        refine wpHd_takeD (i := 6) (d := some 20) (v := undef) rfl rfl (by kernel_rfl) (by kernel_rfl) (by kernel_rfl) (fun _ _ _ h => h) (Or.inr ⟨by rfl, rfl⟩) hA0.out ?_
        try simp only [Act.put, List.setIfInBounds_toArray, List.set_cons_zero, List.set_cons_succ]
        refine wpHd_takeD (i := 7) (d := some 21) (v := undef) rfl rfl (by kernel_rfl) (by kernel_rfl) (by kernel_rfl) (fun _ _ _ h => h) (Or.inr ⟨by rfl, rfl⟩) hA0.out ?_
        try simp only [Act.put, List.setIfInBounds_toArray, List.set_cons_zero, List.set_cons_succ]
        refine wpHd_takeD (i := 8) (d := some 22) (v := undef) rfl rfl (by kernel_rfl) (by kernel_rfl) (by kernel_rfl) (fun _ _ _ h => h) (Or.inr ⟨by rfl, rfl⟩) hA0.out ?_
        try simp only [Act.put, List.setIfInBounds_toArray, List.set_cons_zero, List.set_cons_succ]
        refine wpHd_takeD (i := 9) (d := some 23) (v := undef) rfl rfl (by kernel_rfl) (by kernel_rfl) (by kernel_rfl) (fun _ _ _ h => h) (Or.inr ⟨by rfl, rfl⟩) hA0.out ?_
        try simp only [Act.put, List.setIfInBounds_toArray, List.set_cons_zero, List.set_cons_succ]
        refine wpHd_tail (by kernel_rfl) ?_
        simp only [List.drop_succ_cons, List.drop_zero]
        clear hA0 g0
        go_wp2_with (at_builtin; refine wpList_append_own _ rfl _ _ 51 rfl (w.heap.size + 1) 56 i0 _ 2 8 Tryz.underlying51 hi hz0 hz1 hz2 rfl (by decide) _ _ _ rfl ((owns_ext hO3.out (by (repeat (with_reducible (first | exact Ext.refl _ | assumption | exact held_left (by assumption) | apply Ext.drewN | apply Ext.drew | apply Ext.alloc | (refine Ext.setCell ?_ (by first | (simp; done) | (simp; omega) | omega) _) | (refine Ext.trans ?_ (by assumption)) | (refine Ext.trans ?_ (held_left (by assumption))))))))) ⟨_, 0, none⟩ 1 1 p.cells rfl rfl (cells_new _ #[.int .u32 p.o, .int .u32 p.v] _) (by intro u hu; simp [Rf.cells] at hu; rcases hu with rfl | rfl <;> rfl) (by unfold maxLen; omega) (by omega) (by have := HEW.out.size; have := HE3.out.size; simp; omega) ?_)
        intro v' w4 hown' hgrow _
        have HX4 : Hid (Ext (w.alloc (.cells #[.int .u32 r.o, .int .u32 r.v] 56)) w4) := Hid.mk' (Below.grown ((hX3.out.drew).alloc (.cells #[.int .u32 p.o, .int .u32 p.v] 56)) hgrow (by have := hX3.out.size; simp at this ⊢; omega) (fun g hg => by have := (hO3.out.lt g hg).1; simp; omega))
        have HO4 := Hid.mk' hown'
        clear hown' hgrow
        go_wp2
        go_roundw
        case rel => exact ⟨k + 1, true, q ++ [p], by omega, by go_num, rfl, HO, Hid.mk' (fun _ => HBX.out), Hid.mk' (fun h => by cases h), by simp at hql ⊢; omega, Hid.mk' (by rw [rf_snoc, List.length_append]; exact HO4.out), HX4⟩
        case measure => simp [intOf]; omega
      | false =>
        have HAH := Hid.mk' (fun W => rahead_any p.o p.v r.o r.v W)
        have hNq := fun w => neq_rref p.o p.v r.o r.v w
        by_cases hlr : p.lt r
        · have hab : aheadB p.o p.v r.o r.v = true := decide_eq_true hlr
          rw [hab] at HAH
          have HO := Hid.mk' (show q ++ [p] = outsF r false (l.take (k + 1)) from by rw [HTK.out, hq.out]; rfl)
          have HBX := Hid.mk' (show ∀ x ∈ l.take (k + 1), x.lt r from by
            intro x hx
            rw [HTK.out] at hx
            rcases List.mem_append.1 hx with h | h
            · exact hB0.out rfl x h
            · obtain rfl := List.mem_singleton.1 h; exact hlr)
          clear hq hB1 hB0 hab hlr hNq
          go_wp2
          go_region_held3 (fun w' => Ext (wr) w' ∧ (∀ b o, b < (wr).heap.size → w'.cell? ⟨b, o, none⟩ = (wr).cell? ⟨b, o, none⟩) ∧ (∀ b o, b < (wr).heap.size → w'.frozen? ⟨b, o, none⟩ = (wr).frozen? ⟨b, o, none⟩)) ((exact held_of (by (repeat (with_reducible (first | exact Ext.refl _ | assumption | exact held_left (by assumption) | apply Ext.drewN | apply Ext.drew | apply Ext.alloc | (refine Ext.setCell ?_ (by first | (simp; done) | (simp; omega) | omega) _) | (refine Ext.trans ?_ (by assumption)) | (refine Ext.trans ?_ (held_left (by assumption))))))))) (first | (go_at_call 36; refine (HAH.out _).mono ?_; rintro e w3 ⟨rfl, hb3⟩; have HE3 := Hid.mk' (show Ext wr w3 by (repeat (with_reducible (first | exact Ext.refl _ | assumption | exact held_left (by assumption) | apply Ext.drewN | apply Ext.drew | apply Ext.alloc | (refine Ext.setCell ?_ (by first | (simp; done) | (simp; omega) | omega) _) | (refine Ext.trans ?_ (by assumption)) | (refine Ext.trans ?_ (held_left (by assumption)))))))))
          clear hb3 g0
          have hO3 := Hid.mk' (owns_ext hown.out HE3.out)
          have hX3 : Hid (Ext (w.alloc (.cells #[.int .u32 r.o, .int .u32 r.v] 56)) w3) := Hid.mk' (hE.out.trans HE3.out)
          go_wp2_with (at_builtin; refine wpList_append_own _ rfl _ _ 51 rfl (w.heap.size + 1) 56 i0 _ 2 8 Tryz.underlying51 hi hz0 hz1 hz2 rfl (by decide) _ _ _ rfl ((owns_ext hO3.out (by (repeat (with_reducible (first | exact Ext.refl _ | assumption | exact held_left (by assumption) | apply Ext.drewN | apply Ext.drew | apply Ext.alloc | (refine Ext.setCell ?_ (by first | (simp; done) | (simp; omega) | omega) _) | (refine Ext.trans ?_ (by assumption)) | (refine Ext.trans ?_ (held_left (by assumption))))))))) ⟨_, 0, none⟩ 1 1 p.cells rfl rfl (cells_new _ #[.int .u32 p.o, .int .u32 p.v] _) (by intro u hu; simp [Rf.cells] at hu; rcases hu with rfl | rfl <;> rfl) (by unfold maxLen; omega) (by omega) (by have := HEW.out.size; have := HE3.out.size; simp; omega) ?_)
          intro v' w4 hown' hgrow _
          have HX4 : Hid (Ext (w.alloc (.cells #[.int .u32 r.o, .int .u32 r.v] 56)) w4) := Hid.mk' (Below.grown ((hX3.out).alloc _) hgrow (by have := hX3.out.size; simp at this ⊢; omega) (fun g hg => by have := (hO3.out.lt g hg).1; simp; omega))
          have HO4 := Hid.mk' hown'
          clear hown' hgrow
          go_wp2
          go_roundw
          case rel => exact ⟨k + 1, false, q ++ [p], by omega, by go_num, rfl, HO, Hid.mk' (fun h => by cases h), Hid.mk' (fun _ => HBX.out), by simp at hql ⊢; omega, Hid.mk' (by rw [rf_snoc, List.length_append]; exact HO4.out), HX4⟩
          case measure => simp [intOf]; omega
        · have hab : aheadB p.o p.v r.o r.v = false := decide_eq_false hlr
          rw [hab] at HAH
          have HNL := Hid.mk' hlr
          have HBX := Hid.mk' (show ∃ x ∈ l.take (k + 1), ¬ x.lt r from ⟨p, by rw [HTK.out]; simp, hlr⟩)
          by_cases hpr : p = r
          · have HO := Hid.mk' (show q ++ [p] = outsF r true (l.take (k + 1)) from by rw [HTK.out, hpr, outsF_eq (hB0.out rfl), hq.out])
            have hrB : rfB ⟨p.o, p.v⟩ ⟨r.o, r.v⟩ = true := rfB_true.2 (by rw [hpr])
            rw [hrB] at hNq
            clear hq hB1 hB0 hab hlr hpr hrB
            go_wp2
            go_region_held3 (fun w' => Ext (wr) w' ∧ (∀ b o, b < (wr).heap.size → w'.cell? ⟨b, o, none⟩ = (wr).cell? ⟨b, o, none⟩) ∧ (∀ b o, b < (wr).heap.size → w'.frozen? ⟨b, o, none⟩ = (wr).frozen? ⟨b, o, none⟩)) ((exact held_of (by (repeat (with_reducible (first | exact Ext.refl _ | assumption | exact held_left (by assumption) | apply Ext.drewN | apply Ext.drew | apply Ext.alloc | (refine Ext.setCell ?_ (by first | (simp; done) | (simp; omega) | omega) _) | (refine Ext.trans ?_ (by assumption)) | (refine Ext.trans ?_ (held_left (by assumption))))))))) (first | (go_at_call 36; refine (HAH.out _).mono ?_; rintro e w3 ⟨rfl, hb3⟩; have HE3 := Hid.mk' (show Ext wr w3 by (repeat (with_reducible (first | exact Ext.refl _ | assumption | exact held_left (by assumption) | apply Ext.drewN | apply Ext.drew | apply Ext.alloc | (refine Ext.setCell ?_ (by first | (simp; done) | (simp; omega) | omega) _) | (refine Ext.trans ?_ (by assumption)) | (refine Ext.trans ?_ (held_left (by assumption)))))))))
            clear hb3
            have hO3 := Hid.mk' (owns_ext hown.out HE3.out)
            have hX3 : Hid (Ext (w.alloc (.cells #[.int .u32 r.o, .int .u32 r.v] 56)) w3) := Hid.mk' (hE.out.trans HE3.out)
            have hbw3 : b0 < w3.heap.size := Nat.lt_of_lt_of_le hbw HE3.out.size
            have z1 := (HBB.out.ext HE3.out).lt
            go_wp2
            go_region_held3 (fun w' => Ext (w3) w' ∧ (∀ b o, b < (w3).heap.size → w'.cell? ⟨b, o, none⟩ = (w3).cell? ⟨b, o, none⟩) ∧ (∀ b o, b < (w3).heap.size → w'.frozen? ⟨b, o, none⟩ = (w3).frozen? ⟨b, o, none⟩)) ((exact held_of (by (repeat (with_reducible (first | exact Ext.refl _ | assumption | exact held_left (by assumption) | apply Ext.drewN | apply Ext.drew | apply Ext.alloc | (refine Ext.setCell ?_ (by first | (simp; done) | (simp; omega) | omega) _) | (refine Ext.trans ?_ (by assumption)) | (refine Ext.trans ?_ (held_left (by assumption))))))))) (fail)
            go_wp2_with (at_builtin; refine wpList_append_own _ rfl _ _ 51 rfl (w.heap.size + 1) 56 i0 _ 2 8 Tryz.underlying51 hi hz0 hz1 hz2 rfl (by decide) _ _ _ rfl ((owns_ext hO3.out (by (repeat (with_reducible (first | exact Ext.refl _ | assumption | exact held_left (by assumption) | apply Ext.drewN | apply Ext.drew | apply Ext.alloc | (refine Ext.setCell ?_ (by first | (simp; done) | (simp; omega) | omega) _) | (refine Ext.trans ?_ (by assumption)) | (refine Ext.trans ?_ (held_left (by assumption))))))))) ⟨_, 0, none⟩ 1 1 p.cells rfl rfl (cells_new _ #[.int .u32 p.o, .int .u32 p.v] _) (by intro u hu; simp [Rf.cells] at hu; rcases hu with rfl | rfl <;> rfl) (by unfold maxLen; omega) (by omega) (by have := HEW.out.size; have := HE3.out.size; simp; omega) ?_)
            intro v' w4 hown' hgrow _
            have HX4 : Hid (Ext (w.alloc (.cells #[.int .u32 r.o, .int .u32 r.v] 56)) w4) := Hid.mk' (Below.grown ((hX3.out.drew).alloc (.cells #[.int .u32 p.o, .int .u32 p.v] 56)) hgrow (by have := hX3.out.size; simp at this ⊢; omega) (fun g hg => by have := (hO3.out.lt g hg).1; simp; omega))
            have HO4 := Hid.mk' hown'
            clear hown' hgrow
            go_wp2
            go_roundw
            case rel => exact ⟨k + 1, true, q ++ [p], by omega, by go_num, rfl, HO, Hid.mk' (fun _ => HBX.out), Hid.mk' (fun h => by cases h), by simp at hql ⊢; omega, Hid.mk' (by rw [rf_snoc, List.length_append]; exact HO4.out), HX4⟩
            case measure => simp [intOf]; omega
          · have HO := Hid.mk' (show q ++ [r] ++ [p] = outsF r true (l.take (k + 1)) from by rw [HTK.out, outsF_new (hB0.out rfl) hlr hpr, hq.out])
            have hrB : rfB ⟨p.o, p.v⟩ ⟨r.o, r.v⟩ = false := rfB_false.2 hpr
            rw [hrB] at hNq
            clear hq hB1 hB0 hab hlr hpr hrB
            go_wp2
            go_region_held3 (fun w' => Ext (wr) w' ∧ (∀ b o, b < (wr).heap.size → w'.cell? ⟨b, o, none⟩ = (wr).cell? ⟨b, o, none⟩) ∧ (∀ b o, b < (wr).heap.size → w'.frozen? ⟨b, o, none⟩ = (wr).frozen? ⟨b, o, none⟩)) ((exact held_of (by (repeat (with_reducible (first | exact Ext.refl _ | assumption | exact held_left (by assumption) | apply Ext.drewN | apply Ext.drew | apply Ext.alloc | (refine Ext.setCell ?_ (by first | (simp; done) | (simp; omega) | omega) _) | (refine Ext.trans ?_ (by assumption)) | (refine Ext.trans ?_ (held_left (by assumption))))))))) (first | (go_at_call 36; refine (HAH.out _).mono ?_; rintro e w3 ⟨rfl, hb3⟩; have HE3 := Hid.mk' (show Ext wr w3 by (repeat (with_reducible (first | exact Ext.refl _ | assumption | exact held_left (by assumption) | apply Ext.drewN | apply Ext.drew | apply Ext.alloc | (refine Ext.setCell ?_ (by first | (simp; done) | (simp; omega) | omega) _) | (refine Ext.trans ?_ (by assumption)) | (refine Ext.trans ?_ (held_left (by assumption)))))))))
            clear hb3
            have hO3 := Hid.mk' (owns_ext hown.out HE3.out)
            have hX3 : Hid (Ext (w.alloc (.cells #[.int .u32 r.o, .int .u32 r.v] 56)) w3) := Hid.mk' (hE.out.trans HE3.out)
            have hbw3 : b0 < w3.heap.size := Nat.lt_of_lt_of_le hbw HE3.out.size
            have z1 := (HBB.out.ext HE3.out).lt
            go_wp2
            go_region_held3 (fun w' => Ext (w3) w' ∧ (∀ b o, b < (w3).heap.size → w'.cell? ⟨b, o, none⟩ = (w3).cell? ⟨b, o, none⟩) ∧ (∀ b o, b < (w3).heap.size → w'.frozen? ⟨b, o, none⟩ = (w3).frozen? ⟨b, o, none⟩)) ((exact held_of (by (repeat (with_reducible (first | exact Ext.refl _ | assumption | exact held_left (by assumption) | apply Ext.drewN | apply Ext.drew | apply Ext.alloc | (refine Ext.setCell ?_ (by first | (simp; done) | (simp; omega) | omega) _) | (refine Ext.trans ?_ (by assumption)) | (refine Ext.trans ?_ (held_left (by assumption))))))))) (fail)
            go_wp2_with (at_builtin; refine wpList_append_own _ rfl _ _ 51 rfl (w.heap.size + 1) 56 i0 _ 2 8 Tryz.underlying51 hi hz0 hz1 hz2 rfl (by decide) _ _ _ rfl ((owns_ext hO3.out (by (repeat (with_reducible (first | exact Ext.refl _ | assumption | exact held_left (by assumption) | apply Ext.drewN | apply Ext.drew | apply Ext.alloc | (refine Ext.setCell ?_ (by first | (simp; done) | (simp; omega) | omega) _) | (refine Ext.trans ?_ (by assumption)) | (refine Ext.trans ?_ (held_left (by assumption))))))))) ⟨_, 0, none⟩ 1 1 r.cells rfl rfl (cells_new _ #[.int .u32 r.o, .int .u32 r.v] _) (by intro u hu; simp [Rf.cells] at hu; rcases hu with rfl | rfl <;> rfl) (by unfold maxLen; omega) (by omega) (by have := HEW.out.size; have := HE3.out.size; simp; omega) ?_)
            intro v' w4 hown' hgrow _
            have HX4 : Hid (Ext (w.alloc (.cells #[.int .u32 r.o, .int .u32 r.v] 56)) w4) := Hid.mk' (Below.grown ((hX3.out.drew).alloc (.cells #[.int .u32 r.o, .int .u32 r.v] 56)) hgrow (by have := hX3.out.size; simp at this ⊢; omega) (fun g hg => by have := (hO3.out.lt g hg).1; simp; omega))
            have HO4 := Hid.mk' hown'
            clear g0 z1 f0 f1
            obtain ⟨f0, f1⟩ := HF.out w4 (((Ext.refl w).alloc (.cells #[.int .u32 r.o, .int .u32 r.v] 56)).trans HX4.out)
            have hbw4 : b0 < w4.heap.size := Nat.lt_of_lt_of_le HB.out (((Ext.refl w).alloc (.cells #[.int .u32 r.o, .int .u32 r.v] 56)).trans HX4.out).size
            have hz4 : w.heap.size + 1 ≤ w4.heap.size := by have := HX4.out.size; simpa using this
            clear hown' hgrow
            go_wp2_with ((at_builtin; refine wpList_append_own _ rfl _ _ 51 rfl (w.heap.size + 1) 56 i0 _ 2 8 Tryz.underlying51 hi hz0 hz1 hz2 rfl (by decide) _ _ _ rfl ((owns_ext HO4.out (by (repeat (with_reducible (first | exact Ext.refl _ | assumption | exact held_left (by assumption) | apply Ext.drewN | apply Ext.drew | apply Ext.alloc | (refine Ext.setCell ?_ (by first | (simp; done) | (simp; omega) | omega) _) | (refine Ext.trans ?_ (by assumption)) | (refine Ext.trans ?_ (held_left (by assumption))))))))) ⟨_, 0, none⟩ 1 1 p.cells rfl rfl (cells_new _ #[.int .u32 p.o, .int .u32 p.v] _) (by intro u hu; simp [Rf.cells] at hu; rcases hu with rfl | rfl <;> rfl) (by unfold maxLen; omega) (by omega) (by simp; omega) ?_))
            intro v' w5 hown' hgrow _
            have HX5 : Hid (Ext (w.alloc (.cells #[.int .u32 r.o, .int .u32 r.v] 56)) w5) := Hid.mk' (Below.grown ((HX4.out).alloc (.cells #[.int .u32 p.o, .int .u32 p.v] 56)) hgrow (by have := HX4.out.size; simp at this ⊢; omega) (fun g hg => by have := (HO4.out.lt g hg).1; simp; omega))
            have HO5 := Hid.mk' hown'
            clear hown' hgrow
            go_wp2
            go_roundw
            case rel => exact ⟨k + 1, true, q ++ [r] ++ [p], by omega, by go_num, rfl, HO, Hid.mk' (fun _ => HBX.out), Hid.mk' (fun h => by cases h), by simp at hql ⊢; omega, Hid.mk' (by rw [List.length_append, List.length_append, rf_snoc, rf_snoc, List.append_assoc]; exact HO5.out), HX5⟩
            case measure => simp [intOf]; omega
    · have hkk : k = l.length := by omega
      subst hkk
      have hrl : (Rf.cells r).length = 2 := rfl
      rw [List.take_length] at hq hB1 hB0
      have hq1 : b.toNat ≤ 1 := by cases b <;> decide
      cases b with
      | true =>
        have HO : Hid (q = putF r l) := Hid.mk' (by rw [hq.out]; exact if_pos rfl)
        obtain ⟨a', c', rfl⟩ := owns_shape hown.out
        clear hq hB1 hB0
        go_wp2
        go_ret
        exact ⟨a', q.length, c', rfl, by rw [HO.out], by rw [← HO.out]; exact owns_base hown.out (by omega), HEW.out⟩
      | false =>
        have HO : Hid (q ++ [r] = putF r l) := Hid.mk' (by rw [outsF_end (hB0.out rfl), hq.out])
        have hX3 := hE
        clear hq hB1 hB0
        go_wp2_with (at_builtin; refine wpList_append_own _ rfl _ _ 51 rfl (w.heap.size + 1) 56 i0 _ 2 8 Tryz.underlying51 hi hz0 hz1 hz2 rfl (by decide) _ _ _ rfl ((owns_ext hown.out (by (repeat (with_reducible (first | exact Ext.refl _ | assumption | exact held_left (by assumption) | apply Ext.drewN | apply Ext.drew | apply Ext.alloc | (refine Ext.setCell ?_ (by first | (simp; done) | (simp; omega) | omega) _) | (refine Ext.trans ?_ (by assumption)) | (refine Ext.trans ?_ (held_left (by assumption))))))))) ⟨_, 0, none⟩ 1 1 r.cells rfl rfl (cells_new _ #[.int .u32 r.o, .int .u32 r.v] _) (by intro u hu; simp [Rf.cells] at hu; rcases hu with rfl | rfl <;> rfl) (by unfold maxLen; omega) (by omega) (by have := HEW.out.size; have := HE3.out.size; simp; omega) ?_)
        intro v' w4 hown' hgrow _
        have HX4 : Hid (Ext (w.alloc (.cells #[.int .u32 r.o, .int .u32 r.v] 56)) w4) := Hid.mk' (Below.grown ((hX3.out).alloc (.cells #[.int .u32 r.o, .int .u32 r.v] 56)) hgrow (by have := hX3.out.size; simp at this ⊢; omega) (fun g hg => by have := (hown.out.lt g hg).1; simp; omega))
        obtain ⟨a', c', rfl⟩ := owns_shape hown'
        have HO4 := Hid.mk' hown'
        have HEW4 := Hid.mk' (((Ext.refl w).alloc (.cells #[.int .u32 r.o, .int .u32 r.v] 56)).trans HX4.out)
        clear hown' hgrow
        go_wp2
        go_ret
        exact ⟨a', q.length + 1, c', rfl, by rw [← HO.out]; simp, by rw [← HO.out, rf_snoc]; exact owns_base HO4.out (by omega), HEW4.out⟩

end Go.Proofs.YthdjinicmnhgpaaGreat

/-
All refs that transactions use: the reference's Used.
-/
namespace Go.Proofs.YthdjinicmnhgpaaGreat
open Go.RowKit

theorem rf_len (l : List Rf) : ∀ xs ∈ l.map Rf.cells, xs.length = 2 := by
  intro xs hxs
  rw [List.mem_map] at hxs
  obtain ⟨p, _, rfl⟩ := hxs
  rfl

set_option maxRecDepth 100000 in set_option maxHeartbeats 8000000 in
theorem rused_any (ts : List TL) (a : Option Addr) (c : Nat) (w : World) (ht : TS 6 K.rc w (.slice a ts.length c) ts) (hn : ts.length ≤ 1000) (hm : ∀ t ∈ ts, t.es.length ≤ 1000) (hs : ∀ t ∈ ts, ∀ e ∈ t.es, e.e.rs.length ≤ 1000) :
    Calls Tryz.prog 14 #[.slice a ts.length c] w fun e w' => ∃ a' n c', e = .returned (.slice a' n c') ∧ n = (usedL (ts.map TL.t)).length ∧ Sl w' (.slice a' n c') 2 ((usedL (ts.map TL.t)).map Rf.cells) ∧ Ext w w' := by
  have HT := Hid.mk' ht
  have HM := Hid.mk' hm
  have HLN : Hid (∀ k, k ≤ ts.length → (usesTs ((ts.take k).map TL.t)).length ≤ 1000000000) := Hid.mk' (fun k hk => by
    have h := usesTs_len (M := 1000) (L := 1000) (by decide) (ts := (ts.take k).map TL.t) (fun t ht => by
      obtain ⟨x, hx, rfl⟩ := List.mem_map.1 ht
      have hx := List.mem_of_mem_take hx
      refine ⟨by show (x.es.map EL.e).length ≤ 1000; rw [List.length_map]; exact hm x hx, fun e he => ?_⟩
      obtain ⟨y, hy, rfl⟩ := List.mem_map.1 he
      exact hs x hx y hy)
    rw [List.length_map, List.length_take] at h
    omega)
  clear ht hm hs
  go_enter Tryz.func14, Tryz.ntmps14
  go_wp2
  go_loopg [3, 4] ts.length (fun z v i wr => ∃ (k : Nat) (a' : Option Addr) (m c' : Nat), z + k = ts.length ∧ i = .int .i64 k ∧ v = .slice a' m c' ∧ Hid (m = (putL [] (usesTs ((ts.take k).map TL.t))).length) ∧ Hid (Sl wr (.slice a' m c') 2 ((putL [] (usesTs ((ts.take k).map TL.t))).map Rf.cells)) ∧ Hid (Ext w wr))
  case atStart => exact ⟨0, none, 0, 0, by omega, rfl, rfl, Hid.mk' rfl, Hid.mk' ⟨none, 0, rfl, .inl rfl⟩, Hid.mk' (Ext.refl _)⟩
  case round =>
    obtain ⟨k, a', m', c', hzk, rfl, rfl, hml, hown, hE⟩ := hrel
    by_cases hlt : k < ts.length
    · obtain ⟨b, o, rfl, hb, hx⟩ := HT.out.row.at_ (i := k) (by simpa using hlt)
      have HF := Hid.mk' (fun W (h : Ext w W) => TL.at_ hlt hx hb h)
      have HES := Hid.mk' (HT.out.sl _ (List.getElem_mem hlt))
      have HMM := Hid.mk' (HM.out _ (List.getElem_mem hlt))
      have HTK : Hid (usesTs ((ts.take (k + 1)).map TL.t) = usesTs ((ts.take k).map TL.t) ++ usesEs (ts[k].es.map EL.e)) := Hid.mk' (by rw [List.take_succ_eq_append_getElem hlt, List.map_append]; exact usesTs_snoc _ _)
      have HLK := Hid.mk' (HLN.out (k + 1) hlt)
      obtain ⟨q, hq⟩ : ∃ q, q = usesTs ((ts.take k).map TL.t) := ⟨_, rfl⟩
      rw [← hq] at hown hml HTK
      obtain ⟨t, hte⟩ : ∃ t, t = ts[k] := ⟨_, rfl⟩
      rw [← hte] at HF HES HMM HTK
      have HLT := Hid.mk' hlt
      have HBB := Hid.mk' hb
      clear hte hx hb hq
      obtain ⟨xid, st, es, ta, tc⟩ := t
      simp only at HF HMM HTK
      have HES2 : Hid (ES 6 K.rc w (.slice ta es.length tc) es) := HES
      rw [HTK.out, List.length_append] at HLK
      clear HES
      obtain ⟨wo, hwo⟩ : ∃ x, x = wr := ⟨_, rfl⟩
      subst hwo
      go_wp2
      go_loopg [3, 5] es.length (fun z2 v i wr => ∃ (n : Nat) (a2 : Option Addr) (m2 c2 : Nat), z2 + n = es.length ∧ i = .int .i64 n ∧ v = .slice a2 m2 c2 ∧ Hid (m2 = (putL [] (q ++ usesEs ((es.take n).map EL.e))).length) ∧ Hid (Sl wr (.slice a2 m2 c2) 2 ((putL [] (q ++ usesEs ((es.take n).map EL.e))).map Rf.cells)) ∧ Hid (Ext w wr))
      case atStart => exact ⟨0, a', m', c', by omega, rfl, rfl, by rw [show usesEs ((es.take 0).map EL.e) = [] from rfl, List.append_nil]; exact hml, by rw [show usesEs ((es.take 0).map EL.e) = [] from rfl, List.append_nil]; exact hown, hE⟩
      case round =>
        obtain ⟨n, a2, m2, c2, hzn, rfl, rfl, hm2, hO, hK⟩ := hrel
        obtain ⟨f0, f1, f2⟩ := HF.out wr hK.out
        have hbw : b < wr.heap.size := Nat.lt_of_lt_of_le HBB.out hK.out.size
        by_cases hlt2 : n < es.length
        · obtain ⟨b2, o2, rfl, hb2, hx2⟩ := HES2.out.row.at_ (i := n) (by simpa using hlt2)
          obtain ⟨g0, g1, g2, g3, g4, g5, g6, g7⟩ := EL.at_ hlt2 hx2 hb2 hK.out
          have hbw2 : b2 < wr.heap.size := Nat.lt_of_lt_of_le hb2 hK.out.size
          have HTN : Hid (usesEs ((es.take (n + 1)).map EL.e) = usesEs ((es.take n).map EL.e) ++ usesE es[n].e) := Hid.mk' (by rw [List.take_succ_eq_append_getElem hlt2, List.map_append]; exact usesEs_snoc _ _)
          have HLN2 : Hid (q.length + (usesEs ((es.take n).map EL.e)).length + (usesE es[n].e).length ≤ 1000000000) := Hid.mk' (by
            have h1 : es.map EL.e = (es.take (n + 1)).map EL.e ++ (es.drop (n + 1)).map EL.e := by rw [← List.map_append, List.take_append_drop]
            have h2 : usesEs (es.map EL.e) = usesEs ((es.take (n + 1)).map EL.e) ++ usesEs ((es.drop (n + 1)).map EL.e) := by
              conv => lhs; rw [h1]
              unfold usesEs; rw [List.map_append, List.flatten_append]
            have h3 := HLK.out
            rw [h2, HTN.out, List.length_append, List.length_append] at h3
            omega)
          have HUS := Hid.mk' (fun W (h : Ext w W) => reuses_any es[n] W ((HES2.out.sl _ (List.getElem_mem hlt2)).ext h))
          obtain ⟨p, hp⟩ : ∃ p, p = usesEs ((es.take n).map EL.e) := ⟨_, rfl⟩
          rw [← hp] at HTN HLN2 hO hm2
          obtain ⟨x, hxx⟩ : ∃ x, x = es[n] := ⟨_, rfl⟩
          rw [← hxx] at g0 g1 g2 g3 g4 g5 g6 g7 HTN HLN2 HUS
          have HLT2 := Hid.mk' hlt2
          clear hxx hp hx2
          obtain ⟨⟨k1, ao1, av1, old1, b1, a1, r1, fl1⟩, ba1, bc1, aa1, ac1, ra1, rc1⟩ := x
          unfold EL.agg at HUS
          simp only at g0 g1 g2 g3 g4 g5 g6 g7 HUS HTN HLN2
          obtain ⟨U, hU⟩ : ∃ U, U = usesE ⟨k1, ao1, av1, old1, b1, a1, r1, fl1⟩ := ⟨_, rfl⟩
          rw [← hU] at HUS HTN HLN2
          clear hU
          have hml2 := HMM.out
          have hlk := HLT.out
          obtain ⟨wv, hwv⟩ : ∃ x, x = wr := ⟨_, rfl⟩
          subst hwv
          go_wp2_with (go_at_call 32; refine (HUS.out _ hK.out).mono ?_; rintro e w3 ⟨a3, n3, c3, rfl, rfl, ho3, hb3⟩; have HO3 := Hid.mk' ho3; have HB3 := Hid.mk' (hK.out.trans hb3); have HX3 := Hid.mk' hb3; clear ho3 hb3)
          clear f0 f1 f2 g0 g1 g2 g3 g4 g5 g6 g7
          go_loopg [3, 7] U.length (fun z3 v i wr => ∃ (j : Nat) (a4 : Option Addr) (m4 c4 : Nat), z3 + j = U.length ∧ i = .int .i64 j ∧ v = .slice a4 m4 c4 ∧ Hid (m4 = (putL [] (q ++ p ++ U.take j)).length) ∧ Hid (Sl wr (.slice a4 m4 c4) 2 ((putL [] (q ++ p ++ U.take j)).map Rf.cells)) ∧ Hid (Ext w3 wr))
          case atStart => exact ⟨0, a2, m2, c2, by omega, rfl, rfl, by rw [List.take_zero, List.append_nil]; exact hm2, by rw [List.take_zero, List.append_nil]; exact Hid.mk' (hO.out.ext HX3.out), Hid.mk' (Ext.refl _)⟩
          case round =>
            obtain ⟨j, a4, m4, c4, hzj, rfl, rfl, hm4, hO4, hK4⟩ := hrel
            by_cases hlt3 : j < U.length
            · obtain ⟨b5, o5, rfl, hb5, hx5⟩ := HO3.out.at_ (i := j) (by simpa using hlt3)
              obtain ⟨r0, r1'⟩ := Rf.at_ hlt3 hx5 hb5 hK4.out
              have hbw5 : b5 < wr.heap.size := Nat.lt_of_lt_of_le hb5 hK4.out.size
              have HPL := Hid.mk' (show putL [] (q ++ p ++ U.take (j + 1)) = putF U[j] (putL [] (q ++ p ++ U.take j)) by rw [List.take_succ_eq_append_getElem hlt3, ← List.append_assoc, putL_snoc])
              have hb10 : (putL [] (q ++ p ++ U.take j)).length ≤ 1000000000 := by
                have h1 := putL_len (q ++ p ++ U.take j) []
                have h2 := HLN2.out
                rw [List.length_append, List.length_append, List.length_take] at h1
                simp only [List.length_nil] at h1
                omega
              have hsl := hO4.out
              rw [hm4.out] at hsl
              have HPF := Hid.mk' (rputf_any (putL [] (q ++ p ++ U.take j)) U[j] a4 c4 wr hsl hb10)
              rw [← hm4.out, ← HPL.out] at HPF
              obtain ⟨x, hxx⟩ : ∃ x, x = U[j] := ⟨_, rfl⟩
              rw [← hxx] at r0 r1' HPF
              have HL3 := Hid.mk' hlt3
              have hjU : U.length ≤ 1000000000 := by have := HLN2.out; omega
              clear hxx hx5 HPL hb10 hsl
              go_wp2_with (go_at_call 33; refine HPF.out.mono ?_; rintro e w5 ⟨a6, n6, c6, rfl, hn6, ho6, hb6⟩; have HN6 := Hid.mk' hn6; have HO6 := Hid.mk' ho6; have HB6 := Hid.mk' (hK4.out.trans hb6); clear hn6 ho6 hb6)
              go_roundg (U.length - (j + 1))
              case measure => have := HL3.out; omega
              case rel =>
                refine ⟨j + 1, a6, n6, c6, Nat.sub_add_cancel HL3.out, by go_num, rfl, HN6, Hid.mk' (Sl.of_owns (base := wr.heap.size) (e := 56) ?_ (rf_len _)), HB6⟩
                rw [List.length_map, ← HN6.out]; exact HO6.out
            · obtain rfl : j = U.length := by omega
              rw [List.take_length, List.append_assoc, ← HTN.out] at hm4 hO4
              go_wp2
              go_roundg (es.length - (n + 1))
              case measure => have := HLT2.out; omega
              case rel => exact ⟨n + 1, a4, m4, c4, Nat.sub_add_cancel HLT2.out, by go_num, rfl, hm4, hO4, Hid.mk' (HB3.out.trans hK4.out)⟩
        · obtain rfl : n = es.length := by omega
          rw [List.take_length, ← HTK.out] at hm2 hO
          have hlk := HLT.out
          go_wp2
          go_roundg (ts.length - (k + 1))
          case measure => have := HLT.out; omega
          case rel => exact ⟨k + 1, a2, m2, c2, Nat.sub_add_cancel HLT.out, by go_num, rfl, hm2, hO, hK⟩
    · obtain rfl : k = ts.length := by omega
      rw [List.take_length] at hown hml
      go_wp2
      go_ret
      exact ⟨a', m', c', rfl, hml.out, hown.out, hE.out⟩

end Go.Proofs.YthdjinicmnhgpaaGreat

/-
Append of any row, nil or not, to what a call owns.
-/
namespace Go.Proofs.YthdjinicmnhgpaaGreat
open Go.RowKit

theorem run_app_nil {P : Program} {w : World} (base : Nat) (t ty e : TypeId) (i : TypeInfo) (size : Nat) (ht : P.underlying t = some (.slice e)) (hi : P.info? e = some i)
    (v : Value) (n : Nat) (xs : List Value) (hown : w.ownsRow base e size v n xs) (c : Nat) : (Builtin.append_ #[t, t] ty #[v, .slice none 0 c]).run P w = .ok v w := by
  rcases hown.2 with ⟨rfl, rfl⟩ | ⟨g, cap, cur, rfl, _, _, hnc, _⟩
  · simp [Builtin.append_, run_underlying ht, sizeOf, typeInfo, hi, Builtin.lenOf, Builtin.firstCells]
  · simp [Builtin.append_, run_underlying ht, sizeOf, typeInfo, hi, Builtin.lenOf, Builtin.firstCells, hnc, storeCells]
theorem news_sl {w : World} {b o k : Nat} {xss : List (List Value)} (hk0 : 0 < k) (hk : ∀ ys ∈ xss, ys.length = k) (h : ∀ i, i < xss.length → ∀ j, j < k → w.cell? ⟨b, o + i * k + j, none⟩ = (xss.getD i [])[j]?) :
    ∀ j u, xss.flatten[j]? = some u → w.cell? ((⟨b, o, none⟩ : Addr).add j) = some u := by
  intro j u hj
  have hjl : j < xss.length * k := by
    rcases Nat.lt_or_ge j (xss.length * k) with h | h
    · exact h
    · rw [List.getElem?_eq_none (by rw [flat_length k xss hk]; exact h)] at hj; cases hj
  have hplain : (⟨b, o, none⟩ : Addr).add j = ⟨b, o + j, none⟩ := by unfold Addr.add; split <;> simp_all
  have hi : j / k < xss.length := (Nat.div_lt_iff_lt_mul hk0).2 hjl
  have hq := flat_get k xss hk (j / k) hi (j % k) (Nat.mod_lt _ hk0)
  have hm : j / k * k + j % k = j := by rw [Nat.mul_comm]; exact Nat.div_add_mod j k
  rw [hm] at hq
  rw [hplain, ← hj, hq, ← h (j / k) hi (j % k) (Nat.mod_lt _ hk0), Nat.add_assoc, hm]

set_option maxRecDepth 20000 in
theorem wpList_append_sl {P : Program} {w : World} {ops : Array Oper} {rest : List Oper} {o : Oper} {a : Act} {Q : Exit → Act → World → Prop} (hgd : o.guard = none) (s x : Operand) (t : TypeId)
    (ho : o.op = .call { callee := .builtin .append, args := #[s, x], argTypes := #[t, t] })
    (base : Nat) (e : TypeId) (i : TypeInfo) (z : Value) (size bytes : Nat) (ht : P.underlying t = some (.slice e)) (hi : P.info? e = some i) (hz : i.zero = some z)
    (hsize : i.size = size) (hby : i.bytes = bytes) (hzs : z.cells.size = size) (hsz : 0 < size)
    (v : Value) (n : Nat) (xs : List Value) (hs : a.eval s = v) (hown : w.ownsRow base e size v n xs) (u : Value) (xss : List (List Value)) (hx : a.eval x = u) (hu : Sl w u size xss)
    (hk : ∀ ys ∈ xss, ys.length = size) (h1 : ∀ y ∈ xss.flatten, y.oneCell' = true) (h63 : n + xss.length ≤ maxLen) (hbytes : (n + xss.length) * bytes ≤ 140737488355328) (hbase : base ≤ w.heap.size)
    (h : ∀ v' w', w'.ownsRow base e size v' (n + xss.length) (xs ++ xss.flatten) → w.grownBy w' v.ownBlock → (v'.ownBlock = v.ownBlock ∨ v'.ownBlock = some w.heap.size) → wpList P ops Q rest (a.put o.dst v') w') : wpList P ops Q (o :: rest) a w := by
  obtain ⟨A, cap, rfl, hcs⟩ := hu
  have key : ∃ v' w', (Builtin.append_ #[t, t] o.type #[v, .slice A xss.length cap]).run P w = .ok v' w' ∧ w'.ownsRow base e size v' (n + xss.length) (xs ++ xss.flatten) ∧ w.grownBy w' v.ownBlock ∧ (v'.ownBlock = v.ownBlock ∨ v'.ownBlock = some w.heap.size) := by
    rcases A with _ | ad
    · have h0 : xss = [] := by
        rcases hcs with h | ⟨b, o, e, _⟩
        · exact h
        · cases e
      subst h0
      exact ⟨v, w, run_app_nil base t o.type e i size ht hi v n xs hown cap, by simpa using hown, ⟨rfl, rfl, rfl, Nat.le_refl _, fun _ _ _ => rfl⟩, .inl rfl⟩
    · have hn : ∀ j u, xss.flatten[j]? = some u → w.cell? (ad.add j) = some u := by
        rcases hcs with h | ⟨b, o', e', _, hc⟩
        · subst h; intro j u hj; simp at hj
        · cases e'
          exact news_sl hsz hk hc
      obtain ⟨v', w', hr, h2, h3, _, h5⟩ := run_append_own_at (P := P) w base t o.type e i z size bytes ht hi hz hsize hby hzs hsz v n xs hown ad xss.length cap xss.flatten (flat_length size xss hk) hn h1 h63 hbytes hbase
      exact ⟨v', w', hr, h2, h3, h5⟩
  obtain ⟨v', w', hrun, h2, h3, h4⟩ := key
  refine wpList_plain hgd fun K hK => ?_
  unfold Oper.wp execOp
  simp only [ho, resolve, invoke, builtin, Sem.run_bind, Sem.run_pure, Result.andThen_ok, List.map_toArray, List.map_cons, List.map_nil, hs, hx, hrun]
  exact hK _ _ (h v' w' h2 h3 h4)

end Go.Proofs.YthdjinicmnhgpaaGreat
