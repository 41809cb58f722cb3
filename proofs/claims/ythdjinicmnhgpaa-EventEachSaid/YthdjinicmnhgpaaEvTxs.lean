/-
Transactions of the call's own; the laws' Txs.
-/
import Derived.Test.YthdjinicmnhgpaaP16
import Derived.Maps.AppendAt
namespace Go.Proofs.Ythdjinicmnhgpaa
open Go.RowKit

theorem Try.infoEvP : (Try.prog.info? 83).map (fun i => (i.zero, i.size, i.bytes)) = some (some (.agg #[.int .u8 0, .int .u32 0, .int .u32 0, .int .u8 0, .slice none 0 0, .slice none 0 0, .slice none 0 0, .int .u8 0]), 8, 96) := by kernel_rfl
theorem Try.infoTxP : (Try.prog.info? 102).map (fun i => (i.zero, i.size, i.bytes)) = some (some (.agg #[.int .u32 0, .int .u64 0, .slice none 0 0]), 3, 40) := by kernel_rfl

structure TL.on (S : Nat → Prop) (x : TL) : Prop where
  a : x.es ≠ [] → ∀ b o, x.a = some ⟨b, o, none⟩ → S b
  e : ∀ e ∈ x.es, e.on S
theorem TL.on.mono {S T : Nat → Prop} {x : TL} (h : x.on S) (hs : ∀ b, S b → T b) : x.on T := ⟨fun h0 b o e => hs b (h.a h0 b o e), fun e he => (h.e e he).mono hs⟩
theorem TL.on.and {S T : Nat → Prop} {x : TL} (h : x.on S) (k : x.on T) : x.on (fun b => S b ∧ T b) := ⟨fun h0 b o e => ⟨h.a h0 b o e, k.a h0 b o e⟩, fun e he => (h.e e he).and (k.e e he)⟩
theorem TL.at.lt {n : Nat} {f : K → List Value} {W : World} {x : TL} (h : x.at n f W) : x.on (fun b => b < W.heap.size) :=
  ⟨fun h0 b o e => Sl.lt (by have := h.row; rw [e] at this; exact this) (fun q => h0 (by simpa using q)), fun e he => (h.sl e he).lt⟩
theorem TL.at.kp {S : Nat → Prop} {n : Nat} {f : K → List Value} {W W' : World} {x : TL} (h : x.at n f W) (hk : Kp S W W') (hs : x.on (fun b => ¬ S b)) : x.at n f W' := ES.kp h hk hs.a hs.e
theorem TL.len (l : List TL) : ∀ xs ∈ l.map TL.vals, xs.length = 3 := by
  intro xs hxs
  rw [List.mem_map] at hxs
  obtain ⟨p, _, rfl⟩ := hxs
  rfl

/-- Transactions of the call's own, in a row of its own, all from N on. -/
structure OwnT (W : World) (N : Nat) (xs : List Tx) (v : Value) (qs : List TL) : Prop where
  own : W.ownsRow N 102 3 v qs.length (qs.map TL.vals).flatten
  t : qs.map TL.t = xs
  sl : ∀ q ∈ qs, q.at 5 K.pc W
  ne : ∀ q ∈ qs, q.on (fun b => N ≤ b ∧ v.ownBlock ≠ some b)
  cap : ∀ q ∈ qs, q.es.length ≤ q.c
section
variable {S : Nat → Prop} {W W' : World} {N : Nat} {xs : List Tx} {v v' : Value} {qs : List TL} {q : TL}
theorem OwnT.nil (W : World) (N : Nat) : OwnT W N [] (.slice none 0 0) [] := ⟨World.ownsRow_nil _ _ _ _, rfl, (fun q h => by cases h), (fun q h => by cases h), (fun q h => by cases h)⟩
theorem OwnT.len (h : OwnT W N xs v qs) : qs.length = xs.length := by rw [← h.t, List.length_map]
theorem OwnT.kp (h : OwnT W N xs v qs) (hk : Kp S W W') (h1 : ∀ b, v.ownBlock = some b → ¬ S b) (h2 : ∀ q ∈ qs, q.on (fun b => ¬ S b)) : OwnT W' N xs v qs :=
  ⟨owns_kp h.own hk h1, h.t, fun q hq => (h.sl q hq).kp hk (h2 q hq), h.ne, h.cap⟩
theorem OwnT.low (h : OwnT W N xs v qs) (hk : Kp S W W') (h1 : ∀ b, S b → b < N ∨ W.heap.size ≤ b) : OwnT W' N xs v qs :=
  h.kp hk (fun b hb hs => by have := owns_lt3 h.own hb; have := h1 b hs; omega) (fun q hq => ((h.ne q hq).and (h.sl q hq).lt).mono (fun b hb hs => by have := h1 b hs; omega))
theorem OwnT.ext (h : OwnT W N xs v qs) (he : Ext W W') : OwnT W' N xs v qs := ⟨owns_ext h.own he, h.t, fun q hq => (h.sl q hq).ext he, h.ne, h.cap⟩
theorem OwnT.push (h : OwnT W N xs v qs) (hs : q.at 5 K.pc W) (hc : q.es.length ≤ q.c) (hn : q.on (fun b => N ≤ b ∧ v.ownBlock ≠ some b))
    (hg : W.grownBy W' v.ownBlock) (hat : v'.ownBlock = v.ownBlock ∨ v'.ownBlock = some W.heap.size) (ho : W'.ownsRow N 102 3 v' (qs.length + 1) ((qs.map TL.vals).flatten ++ q.vals)) : OwnT W' N (xs ++ [q.t]) v' (qs ++ [q]) := by
  have hall : ∀ x ∈ qs ++ [q], x.at 5 K.pc W ∧ x.on (fun b => N ≤ b ∧ v.ownBlock ≠ some b) := fun x hx => by
    rcases List.mem_append.1 hx with hx | hx
    · exact ⟨h.sl x hx, h.ne x hx⟩
    · obtain rfl : x = q := by simpa using hx
      exact ⟨hs, hn⟩
  refine ⟨by simpa using ho, by rw [List.map_append, h.t]; rfl, fun x hx => (hall x hx).1.kp (Kp.of_grown hg) ((hall x hx).2.mono (fun b hb => hb.2)), fun x hx => ((hall x hx).2.and (hall x hx).1.lt).mono (fun b hb => ⟨hb.1.1, ?_⟩), fun x hx => ?_⟩
  rotate_left 1
  · rcases List.mem_append.1 hx with hx | hx
    · exact h.cap x hx
    · obtain rfl : x = q := by simpa using hx
      exact hc
  rcases hat with h4 | h4
  · rw [h4]; exact hb.1.2
  · rw [h4]; intro h5; injection h5 with h5
    have := hb.2; omega
theorem OwnT.ts (h : OwnT W N xs v qs) : TS 5 K.pc W v qs := ⟨Sl.of_owns (base := N) (e := 102) (by rw [List.length_map]; exact h.own) (TL.len qs), h.sl⟩
end

set_option maxRecDepth 100000 in set_option maxHeartbeats 4000000 in
theorem txs_any (ts : List TL) (a : Option Addr) (c : Nat) (w : World) (ht : TS 6 K.rc w (.slice a ts.length c) ts) (hn : ts.length ≤ 1000) (hm : ∀ t ∈ ts, t.es.length ≤ 1000) (hs : ∀ t ∈ ts, ∀ e ∈ t.es, e.e.small) :
    Calls Try.prog 45 #[.slice a ts.length c] w fun e w' => ∃ a' c' qs, e = .returned (.slice a' ts.length c') ∧ OwnT w' w.heap.size (ts.map TL.t) (.slice a' ts.length c') qs ∧ Ext w w' := by
  obtain ⟨i0, hi, hz0, hz1, hz2⟩ := info_parts Try.infoEvP
  obtain ⟨j0, hj, hy0, hy1, hy2⟩ := info_parts Try.infoTxP
  have HT := Hid.mk' ht
  have HM := Hid.mk' hm
  have HS := Hid.mk' hs
  clear ht hm hs
  go_enter Try.func45, Try.ntmps45
  go_wp2
  go_loopg [3, 4] ts.length (fun z v i wr => ∃ (k : Nat) (qs : List TL), z + k = ts.length ∧ i = .int .i64 k ∧ Hid (OwnT wr w.heap.size ((ts.take k).map TL.t) v qs) ∧ Hid (Ext w wr))
  case atStart => exact ⟨0, [], by omega, rfl, Hid.mk' (OwnT.nil _ _), Hid.mk' (Ext.refl _)⟩
  case round =>
    obtain ⟨k, qs, hzk, rfl, hown, hE⟩ := hrel
    by_cases hlt : k < ts.length
    · obtain ⟨b, o, rfl, hb, hx⟩ := HT.out.row.at_ (i := k) (by simpa using hlt)
      have HF := Hid.mk' (fun W (h : Ext w W) => TL.at_ hlt hx hb h)
      obtain ⟨f0, f1, f2⟩ := HF.out wr hE.out
      have hbw : b < wr.heap.size := Nat.lt_of_lt_of_le hb hE.out.size
      have HES := Hid.mk' (HT.out.sl _ (List.getElem_mem hlt))
      have HMM := Hid.mk' (HM.out _ (List.getElem_mem hlt))
      have HSS := Hid.mk' (HS.out _ (List.getElem_mem hlt))
      have HTK : Hid (ts.take (k + 1) = ts.take k ++ [ts[k]]) := Hid.mk' (List.take_succ_eq_append_getElem hlt)
      obtain ⟨t, hte⟩ : ∃ t, t = ts[k] := ⟨_, rfl⟩
      rw [← hte] at HF f0 f1 f2 HES HMM HSS HTK
      have HBW := Hid.mk' hb
      have HLK := Hid.mk' hlt
      clear hte hx hb
      obtain ⟨xid, st, es, ta, tc⟩ := t
      simp only at HF f0 f1 f2 HMM HSS
      have HES2 : Hid (ES 6 K.rc w (.slice ta es.length tc) es) := HES
      clear HES
      go_wp2
      go_region_held3 (fun w' => Ext (wr) w' ∧ (∀ b o, b < (wr).heap.size → w'.cell? ⟨b, o, none⟩ = (wr).cell? ⟨b, o, none⟩) ∧ (∀ b o, b < (wr).heap.size → w'.frozen? ⟨b, o, none⟩ = (wr).frozen? ⟨b, o, none⟩)) ((exact held_of (by (repeat (with_reducible (first | exact Ext.refl _ | assumption | exact held_left (by assumption) | apply Ext.drewN | apply Ext.drew | apply Ext.alloc | (refine Ext.setCell ?_ (by first | (simp; done) | (simp; omega) | omega) _) | (refine Ext.trans ?_ (by assumption)) | (refine Ext.trans ?_ (held_left (by assumption))))))))) (fail)
      have HX1 : Hid (Blk (wr.alloc (.cells #[.int .u32 xid, .int .u64 st, .slice none 0 0] 102)).drew wr.heap.size #[.int .u32 xid, .int .u64 st, .slice none 0 0] 102) := Hid.mk' (Blk.new wr _ _).drew
      have HE1 : Hid (Ext wr (wr.alloc (.cells #[.int .u32 xid, .int .u64 st, .slice none 0 0] 102)).drew) := Hid.mk' (by (repeat (with_reducible (first | exact Ext.refl _ | assumption | exact held_left (by assumption) | apply Ext.drewN | apply Ext.drew | apply Ext.alloc | (refine Ext.setCell ?_ (by first | (simp; done) | (simp; omega) | omega) _) | (refine Ext.trans ?_ (by assumption)) | (refine Ext.trans ?_ (held_left (by assumption)))))))
      have hsz1 : (wr.alloc (.cells #[.int .u32 xid, .int .u64 st, .slice none 0 0] 102)).drew.heap.size = wr.heap.size + 1 := World.size_alloc _ _
      obtain ⟨w1, hw1⟩ : ∃ w1, w1 = (wr.alloc (.cells #[.int .u32 xid, .int .u64 st, .slice none 0 0] 102)).drew := ⟨_, rfl⟩
      rw [← hw1] at HX1 HE1 hsz1 ⊢
      obtain ⟨wo, hwo⟩ : ∃ x, x = wr := ⟨_, rfl⟩
      subst hwo
      obtain ⟨X, hX⟩ : ∃ X, X = wo.heap.size := ⟨_, rfl⟩
      rw [← hX] at HX1 hsz1 ⊢
      have HSZ := Hid.mk' (And.intro hX (And.intro hsz1 hE.out.size))
      have HEo := Hid.mk' hE.out
      clear hw1 hX hsz1 f0 f1 f2 hE
      go_wp2
      go_loopg [6] es.length (fun z2 i wr => ∃ (n : Nat) (va : Option Addr) (vc : Nat) (qs2 : List EL), z2 + n = es.length ∧ i = .int .i64 n ∧ Hid (Blk wr X #[.int .u32 xid, .int .u64 st, .slice va n vc] 102) ∧ Hid (OwnE 5 K.pc 83 wr (X + 1) ((es.take n).map EL.e) (.slice va n vc) qs2) ∧ Hid (Kp (fun x => x = X) w1 wr))
      case atStart => exact ⟨0, none, 0, [], by omega, rfl, HX1, Hid.mk' (OwnE.nil _ _), Hid.mk' Kp.refl⟩
      case round =>
        obtain ⟨n, va, vc, qs2, hzn, rfl, hB, hO, hK⟩ := hrel
        have HEW : Hid (Ext w wr) := Hid.mk' (Kp.ext (HEo.out.trans HE1.out) (fun x hx _ => by have := HSZ.out; omega) hK.out)
        have gX := hB.out.cell
        have gXf := hB.out.frozen
        have zX := hB.out.lt
        obtain ⟨f0, f1, f2⟩ := HF.out wr HEW.out
        have hbw2 : b < wr.heap.size := Nat.lt_of_lt_of_le HBW.out HEW.out.size
        have HKS := Hid.mk' hK.out.size
        have HQL := Hid.mk' hO.out.len
        by_cases hlt2 : n < es.length
        · obtain ⟨b2, o2, rfl, hb2, hx2⟩ := HES2.out.row.at_ (i := n) (by simpa using hlt2)
          have HG := Hid.mk' (fun W (h : Ext w W) => EL.at_ hlt2 hx2 hb2 h)
          have HB2 := Hid.mk' hb2
          have HTN : Hid (es.take (n + 1) = es.take n ++ [es[n]]) := Hid.mk' (List.take_succ_eq_append_getElem hlt2)
          have hsm := HSS.out _ (List.getElem_mem hlt2)
          have HOW := Hid.mk' (fun W (h : Ext w W) => eown_el es[n] W ((HES2.out.sl _ (List.getElem_mem hlt2)).ext h) hsm.b hsm.a hsm.r)
          obtain ⟨x, hxx⟩ : ∃ x, x = es[n] := ⟨_, rfl⟩
          have HLT := Hid.mk' hlt2
          rw [← hxx] at HG HTN HOW
          clear hxx hx2 hb2 hsm
          obtain ⟨⟨k1, ao1, av1, old1, b1, a1, r1, fl1⟩, ba1, bc1, aa1, ac1, ra1, rc1⟩ := x
          unfold EL.agg at HOW
          simp only at HG HOW
          have HSET : Hid (∀ w', Kp (fun x => w1.heap.size ≤ x) wr w' → (∀ j, w'.cell? ⟨X, j, none⟩ = (#[.int .u32 xid, .int .u64 st, .slice va n vc])[j]?) ∧ (∀ j, w'.frozen? ⟨X, j, none⟩ = false) ∧ w'.cell? ⟨b, o + k * 3 + 2, none⟩ = some (.slice (some ⟨b2, o2, none⟩) es.length tc) ∧ w'.cell? ⟨b2, o2 + n * 8, none⟩ = some (.int .u8 k1) ∧ w'.cell? ⟨b2, o2 + n * 8 + 1, none⟩ = some (.int .u32 ao1) ∧ w'.cell? ⟨b2, o2 + n * 8 + 2, none⟩ = some (.int .u32 av1) ∧ w'.cell? ⟨b2, o2 + n * 8 + 3, none⟩ = some (.int .u8 old1) ∧ w'.cell? ⟨b2, o2 + n * 8 + 4, none⟩ = some (.slice ba1 b1.length bc1) ∧ w'.cell? ⟨b2, o2 + n * 8 + 5, none⟩ = some (.slice aa1 a1.length ac1) ∧ w'.cell? ⟨b2, o2 + n * 8 + 6, none⟩ = some (.slice ra1 r1.length rc1) ∧ w'.cell? ⟨b2, o2 + n * 8 + 7, none⟩ = some (.int .u8 fl1) ∧ b < w'.heap.size ∧ b2 < w'.heap.size ∧ X < w'.heap.size) := Hid.mk' (fun w' h => by
            have hq := HSZ.out
            have hE' : Ext w w' := Kp.ext (HEo.out.trans HE1.out) (S := fun x => x = X ∨ w1.heap.size ≤ x) (fun x hx _ => by omega) ((hK.out.mono (T := fun x => x = X ∨ w1.heap.size ≤ x) (fun x hx _ => .inl hx)).trans h (fun x hx _ => .inr hx))
            have h2 := hB.out.kp h (by omega)
            obtain ⟨p0, p1, p2, p3, p4, p5, p6, p7⟩ := HG.out w' hE'
            exact ⟨h2.cell, h2.frozen, (HF.out w' hE').2.2, p0, p1, p2, p3, p4, p5, p6, p7, Nat.lt_of_lt_of_le HBW.out hE'.size, Nat.lt_of_lt_of_le HB2.out hE'.size, h2.lt⟩)
          obtain ⟨g0, g1, g2, g3, g4, g5, g6, g7⟩ := HG.out wr HEW.out
          have hbw3 : b2 < wr.heap.size := Nat.lt_of_lt_of_le HB2.out HEW.out.size
          go_wp2
          clear gX gXf zX f0 f1 f2 g0 g1 g2 g3 g4 g5 g6 g7
          have hA0 : Hid ((fun w' => (∀ j, w'.cell? ⟨X, j, none⟩ = (#[.int .u32 xid, .int .u64 st, .slice va n vc])[j]?) ∧ (∀ j, w'.frozen? ⟨X, j, none⟩ = false) ∧ w'.cell? ⟨b, o + k * 3 + 2, none⟩ = some (.slice (some ⟨b2, o2, none⟩) es.length tc) ∧ w'.cell? ⟨b2, o2 + n * 8, none⟩ = some (.int .u8 k1) ∧ w'.cell? ⟨b2, o2 + n * 8 + 1, none⟩ = some (.int .u32 ao1) ∧ w'.cell? ⟨b2, o2 + n * 8 + 2, none⟩ = some (.int .u32 av1) ∧ w'.cell? ⟨b2, o2 + n * 8 + 3, none⟩ = some (.int .u8 old1) ∧ w'.cell? ⟨b2, o2 + n * 8 + 4, none⟩ = some (.slice ba1 b1.length bc1) ∧ w'.cell? ⟨b2, o2 + n * 8 + 5, none⟩ = some (.slice aa1 a1.length ac1) ∧ w'.cell? ⟨b2, o2 + n * 8 + 6, none⟩ = some (.slice ra1 r1.length rc1) ∧ w'.cell? ⟨b2, o2 + n * 8 + 7, none⟩ = some (.int .u8 fl1) ∧ b < w'.heap.size ∧ b2 < w'.heap.size ∧ X < w'.heap.size) wr.drew) := Hid.mk' (HSET.out _ (Kp.of_ext (Ext.refl wr).drew))
          refine wp_region_head 13 (fun w' => (∀ j, w'.cell? ⟨X, j, none⟩ = (#[.int .u32 xid, .int .u64 st, .slice va n vc])[j]?) ∧ (∀ j, w'.frozen? ⟨X, j, none⟩ = false) ∧ w'.cell? ⟨b, o + k * 3 + 2, none⟩ = some (.slice (some ⟨b2, o2, none⟩) es.length tc) ∧ w'.cell? ⟨b2, o2 + n * 8, none⟩ = some (.int .u8 k1) ∧ w'.cell? ⟨b2, o2 + n * 8 + 1, none⟩ = some (.int .u32 ao1) ∧ w'.cell? ⟨b2, o2 + n * 8 + 2, none⟩ = some (.int .u32 av1) ∧ w'.cell? ⟨b2, o2 + n * 8 + 3, none⟩ = some (.int .u8 old1) ∧ w'.cell? ⟨b2, o2 + n * 8 + 4, none⟩ = some (.slice ba1 b1.length bc1) ∧ w'.cell? ⟨b2, o2 + n * 8 + 5, none⟩ = some (.slice aa1 a1.length ac1) ∧ w'.cell? ⟨b2, o2 + n * 8 + 6, none⟩ = some (.slice ra1 r1.length rc1) ∧ w'.cell? ⟨b2, o2 + n * 8 + 7, none⟩ = some (.int .u8 fl1) ∧ b < w'.heap.size ∧ b2 < w'.heap.size ∧ X < w'.heap.size) (by kernel_rfl) (by decide) ?_
          (refine wpHd_take (i := 0) (v := ?_) rfl (by kernel_rfl) (by kernel_rfl) (by kernel_rfl) (fun _ _ _ h => h) (Or.inl ⟨by rfl, ?_⟩) hA0.out ?_; rotate_left 1; · (intro w' hS'; (try dsimp only at hS'); go_split_ands; go_simp; try with_reducible rfl))
          (refine wpHd_take (i := 1) (v := ?_) rfl (by kernel_rfl) (by kernel_rfl) (by kernel_rfl) (fun _ _ _ h => h) (Or.inl ⟨by rfl, ?_⟩) hA0.out ?_; rotate_left 1; · (intro w' hS'; (try dsimp only at hS'); go_split_ands; go_simp; try with_reducible rfl))
          (refine wpHd_take (i := 2) (v := ?_) rfl (by kernel_rfl) (by kernel_rfl) (by kernel_rfl) (fun _ _ _ h => h) (Or.inl ⟨by rfl, ?_⟩) hA0.out ?_; rotate_left 1; · (intro w' hS'; (try dsimp only at hS'); go_split_ands; go_simp; try with_reducible rfl))
          (refine wpHd_take (i := 3) (v := ?_) rfl (by kernel_rfl) (by kernel_rfl) (by kernel_rfl) (fun _ _ _ h => h) (Or.inl ⟨by rfl, ?_⟩) hA0.out ?_; rotate_left 1; · (intro w' hS'; (try dsimp only at hS'); go_split_ands; go_simp; try with_reducible rfl))
          (refine wpHd_take (i := 4) (v := ?_) rfl (by kernel_rfl) (by kernel_rfl) (by kernel_rfl) (fun _ _ _ h => h) (Or.inl ⟨by rfl, ?_⟩) hA0.out ?_; rotate_left 1; · (intro w' hS'; (try dsimp only at hS'); go_split_ands; go_simp; try with_reducible rfl))
          (refine wpHd_take (i := 5) (v := ?_) rfl (by kernel_rfl) (by kernel_rfl) (by kernel_rfl) (fun _ _ _ h => h) (Or.inl ⟨by rfl, ?_⟩) hA0.out ?_; rotate_left 1; · (intro w' hS'; (try dsimp only at hS'); go_split_ands; go_simp; try with_reducible rfl))
          (refine wpHd_take (i := 6) (v := ?_) rfl (by kernel_rfl) (by kernel_rfl) (by kernel_rfl) (fun _ _ _ h => h) (Or.inl ⟨by rfl, ?_⟩) hA0.out ?_; rotate_left 1; · (intro w' hS'; (try dsimp only at hS'); go_split_ands; go_simp; try with_reducible rfl))
          (refine wpHd_take (i := 7) (v := ?_) rfl (by kernel_rfl) (by kernel_rfl) (by kernel_rfl) (fun _ _ _ h => h) (Or.inl ⟨by rfl, ?_⟩) hA0.out ?_; rotate_left 1; · (intro w' hS'; (try dsimp only at hS'); go_split_ands; go_simp; try with_reducible rfl))
          (refine wpHd_take (i := 8) (v := ?_) rfl (by kernel_rfl) (by kernel_rfl) (by kernel_rfl) (fun _ _ _ h => h) (Or.inl ⟨by rfl, ?_⟩) hA0.out ?_; rotate_left 1; · (intro w' hS'; (try dsimp only at hS'); go_split_ands; go_simp; try with_reducible rfl))
          (refine wpHd_take (i := 9) (v := ?_) rfl (by kernel_rfl) (by kernel_rfl) (by kernel_rfl) (fun _ _ _ h => h) (Or.inl ⟨by rfl, ?_⟩) hA0.out ?_; rotate_left 1; · (intro w' hS'; (try dsimp only at hS'); go_split_ands; go_simp; try with_reducible rfl))
          refine wpHd_one (i := 10) rfl rfl (by kernel_rfl) (fun KK hK => ?_)
          go_simp
          refine (HOW.out _ HEW.out.drew).mono ?_
          rintro e w7 ⟨⟨ye, ba2, bc2, aa2, ac2, ra2, rc2⟩, rfl, hye, hat7, hon7, hb7⟩
          simp only at hye
          subst hye
          have H7 := Hid.mk' hat7
          have HN7 := Hid.mk' hon7
          have HB7 : Hid (Ext wr w7) := Hid.mk' ((Ext.refl wr).drew.trans hb7)
          refine hK.out _ _ (HSET.out _ (Kp.of_ext HB7.out)) (fun hA => ?_)
          clear hK KK hA hA0 hat7 hon7 hb7
          try simp only
          refine wpHd_one (i := 11) rfl rfl (by kernel_rfl) (fun KK hK => ?_)
          go_simp
          refine hK.out _ _ (HSET.out _ (Kp.of_ext (HB7.out.alloc _))) (fun hA => ?_)
          clear hK KK hA
          refine wpHd_one (i := 12) rfl rfl (by kernel_rfl) (fun KK hK => ?_)
          have hqn : qs2.length = n := by rw [HQL.out, List.length_map, List.length_take]; have := HLT.out; omega
          have HQN := Hid.mk' hqn
          have HQN2 := Hid.mk' (show n + 1 ≤ 1000 by have := HLT.out; have := HMM.out; omega)
          have HO7 : Hid (OwnE 5 K.pc 83 (w7.alloc (.cells #[.int .u8 k1, .int .u32 ao1, .int .u32 av1, .int .u8 old1, .slice ba2 b1.length bc2, .slice aa2 a1.length ac2, .slice ra2 r1.length rc2, .int .u8 fl1] 83)) (X + 1) ((es.take n).map EL.e) (.slice va n vc) qs2) := Hid.mk' (hO.out.ext (HB7.out.alloc _))
          refine wp_append_lies _ _ _ 100 (by rfl) (X + 1) 83 i0 _ 8 96 Try.underlying100 hi hz0 hz1 hz2 rfl (by decide) (.slice va n vc) n _ (by rfl) (by have := HO7.out.own; rw [HQN.out] at this; exact this) ⟨_, 0, none⟩ 1 1 (EL.vals ⟨⟨k1, ao1, av1, old1, b1, a1, r1, fl1⟩, ba2, bc2, aa2, ac2, ra2, rc2⟩) (by rfl) rfl (cells_new _ #[.int .u8 k1, .int .u32 ao1, .int .u32 av1, .int .u8 old1, .slice ba2 b1.length bc2, .slice aa2 a1.length ac2, .slice ra2 r1.length rc2, .int .u8 fl1] _) (EL.one _) (by decide) (by unfold maxLen; have := HQN2.out; omega) (by have := HQN2.out; omega) (by have h1 := HB7.out.size; have h2 := HKS.out; have h3 := HSZ.out; simp; omega) _ rfl ?_
          intro g4 cap4 w4 hown4 hgrow4 hat4 hlt4
          have HP : Hid (OwnE 5 K.pc 83 w4 (X + 1) ((es.take (n + 1)).map EL.e) (.slice (some ⟨g4, 0, none⟩) (n + 1) cap4) (qs2 ++ [⟨⟨k1, ao1, av1, old1, b1, a1, r1, fl1⟩, ba2, bc2, aa2, ac2, ra2, rc2⟩])) := Hid.mk' (by
            rw [HTN.out, List.map_append]
            refine OwnE.push HO7.out (H7.out.ext ((Ext.refl _).alloc _)) ((HN7.out).mono (fun b hb => ?_)) hgrow4 (hat4.elim (fun h => .inl (by rw [h]; rfl)) (fun h => .inr (by rw [h]; rfl))) (by rw [HQN.out]; exact hown4)
            have hb' : wr.heap.size ≤ b := hb
            have h2 := HKS.out
            have h3 := HSZ.out
            exact ⟨by omega, fun e => by have := owns_lt3 hO.out.own e; omega⟩)
          have HKG : Hid (Kp (fun x => w1.heap.size ≤ x) wr w4) := Hid.mk' ((Kp.of_ext (S := fun x => w1.heap.size ≤ x) (HB7.out.alloc _)).trans (Kp.of_grown hgrow4) (fun x hx _ => by have := owns_lt3 hO.out.own hx; have h3 := HSZ.out; omega))
          refine hK.out _ _ (HSET.out _ HKG.out) (fun hA => ?_)
          clear hK KK hA hown4 hgrow4 hat4 hlt4 hqn
          have hX4 : Hid (Blk w4 X #[.int .u32 xid, .int .u64 st, .slice va n vc] 102) := Hid.mk' (hB.out.kp HKG.out (by have := HSZ.out; omega))
          have gX := hX4.out.cell
          have gXf := hX4.out.frozen
          have zX := hX4.out.lt
          have hml := HMM.out
          have hlt3 := HLT.out
          refine wpHd_tail (by kernel_rfl) ?_
          simp only [List.drop_succ_cons, List.drop_zero]
          go_wp2
          go_roundg (es.length - (n + 1))
          case measure => have := HLT.out; omega
          case rel =>
            refine ⟨n + 1, some ⟨g4, 0, none⟩, cap4, _, Nat.sub_add_cancel HLT.out, by go_num, Hid.mk' ?_, Hid.mk' (HP.out.low (Kp.set (S := fun x => x = X) ⟨X, 2, none⟩ _ rfl) (fun x hx => by have hx' : x = X := hx; omega)), Hid.mk' ?_⟩
            · have := hX4.out.set 2 (.slice (some ⟨g4, 0, none⟩) (n + 1) cap4)
              simpa only [List.setIfInBounds_toArray, List.set_cons_zero, List.set_cons_succ] using this
            · exact ((hK.out.mono (T := fun x => x = X) (fun x hx _ => hx)).trans (HKG.out) (fun x hx h => by omega)).trans (T := fun x => x = X) (Kp.set _ _ rfl) (fun x hx _ => hx)
        · obtain rfl : n = es.length := by omega
          rw [List.take_length] at hO
          have HON : Hid (OwnT wr w.heap.size ((ts.take k).map TL.t) _ qs) := Hid.mk' (hown.out.low (S := fun x => x = X) ((Kp.of_ext HE1.out).trans hK.out (fun x hx _ => hx)) (fun x hx => by have := HSZ.out; have hx' : x = X := hx; omega))
          have HQT : Hid (qs.length = k) := Hid.mk' (by rw [hown.out.len, List.length_map, List.length_take]; have := HLK.out; omega)
          have HKN := Hid.mk' (show k + 1 ≤ 1000 by have := HLK.out; omega)
          have HVB := Hid.mk' (fun b hb => (owns_lt3 hown.out.own (g := b) hb))
          have HQS : Hid (ES 5 K.pc wr (.slice va es.length vc) qs2) := Hid.mk' hO.out.row
          have hqn : qs2.length = es.length := by rw [HQL.out, List.length_map, List.length_take]; omega
          have HQN := Hid.mk' hqn
          have HQE := Hid.mk' hO.out.e
          have HCV := Hid.mk' (owns_cap hO.out.own)
          have HON2 := Hid.mk' hO.out.ne
          have HOB := Hid.mk' (fun b hb => (owns_lt3 hO.out.own (g := b) hb))
          clear hqn hown hO
          go_wp2_with (at_builtin; refine wpList_append_own_at _ rfl _ _ 103 rfl w.heap.size 102 j0 _ 3 40 Try.underlying103 hj hy0 hy1 hy2 rfl (by decide) _ k _ rfl (by have h := owns_ext HON.out.own ((Ext.refl wr).alloc (.cells #[.int .u32 xid, .int .u64 st, .slice va es.length vc] 102)); rw [HQT.out] at h; exact h) ⟨_, 0, none⟩ 1 1 [.int .u32 xid, .int .u64 st, .slice va es.length vc] rfl rfl ?c1 ?c2 ?c3 ?c4 ?c5 ?_)
          case c1 => exact cells_new _ #[.int .u32 xid, .int .u64 st, .slice va es.length vc] _
          case c2 => intro u hu; simp at hu; rcases hu with rfl | rfl | rfl <;> rfl
          case c3 => unfold maxLen; have := HKN.out; omega
          case c4 => have := HKN.out; omega
          case c5 => have := HSZ.out; have := HKS.out; simp; omega
          intro v' w2 hown' hgrow _ hat
          have HOF : Hid (OwnT w2 w.heap.size ((ts.take (k + 1)).map TL.t) v' (qs ++ [⟨xid, st, qs2, va, vc⟩])) := Hid.mk' (by
            rw [HTK.out, List.map_append]
            have h1 := OwnT.push (q := ⟨xid, st, qs2, va, vc⟩) (HON.out.ext ((Ext.refl wr).alloc (.cells #[.int .u32 xid, .int .u64 st, .slice va es.length vc] 102))) (by show ES 5 K.pc _ (.slice va qs2.length vc) qs2; rw [HQN.out]; exact HQS.out.ext ((Ext.refl wr).alloc _)) (by show qs2.length ≤ vc; rw [HQN.out]; exact HCV.out) ⟨fun h0 b o e => ?_, fun x hx => (HON2.out x hx).mono (fun b hb => ?_)⟩ hgrow (by first | exact hat | (rw [World.size_alloc]; exact hat)) (by rw [HQT.out, show TL.vals ⟨xid, st, qs2, va, vc⟩ = [.int .u32 xid, .int .u64 st, .slice va es.length vc] from by unfold TL.vals; rw [HQN.out]]; exact hown')
            · have e2 : TL.t ⟨xid, st, qs2, va, vc⟩ = TL.t ⟨xid, st, es, ta, tc⟩ := by unfold TL.t; rw [HQE.out]
              rw [e2] at h1
              exact h1
            · have h2 := HOB.out b (by rw [show va = some ⟨b, o, none⟩ from e]; rfl)
              have h3 := HSZ.out
              exact ⟨by omega, fun e => by have := HVB.out b e; omega⟩
            · have h3 := HSZ.out
              have h4 : X + 1 ≤ b := hb.1
              exact ⟨by omega, fun e => by have := HVB.out b e; omega⟩)
          have HEF : Hid (Ext w w2) := Hid.mk' ((HEW.out.alloc (.cells #[.int .u32 xid, .int .u64 st, .slice va es.length vc] 102)).grown (owns_ext HON.out.own ((Ext.refl wr).alloc _)) hgrow)
          clear hown' hgrow hat
          go_wp2
          go_roundg (ts.length - (k + 1))
          case measure => have := HLK.out; omega
          case rel => exact ⟨k + 1, _, by have := HLK.out; omega, by go_num, HOF, HEF⟩
    · obtain rfl : k = ts.length := by omega
      rw [List.take_length] at hown
      have hql := hown.out.len
      rw [List.length_map] at hql
      obtain ⟨a', c', rfl⟩ := owns_shape hown.out.own
      rw [hql] at hown ⊢
      clear hql
      go_wp2
      go_ret
      exact ⟨a', c', qs, rfl, hown.out, hE.out⟩

end Go.Proofs.Ythdjinicmnhgpaa
