/-
Transactions of the call's own; the laws' Txs.
-/
import Derived.Maps.AppendAt
import Derived.Test.YtdlhaidlokkmnaaGreatDoorP23
import Derived.Test.YtdlhaidlokkmnaaGreatDoorP34
import Derived.Test.YtdlhaidlokkmnaaGreatDoorP11
import Derived.Test.YtdlhaidlokkmnaaGreatDoorP21
import Derived.Test.YtdlhaidlokkmnaaGreatDoorP25
set_option maxRecDepth 100000
set_option maxHeartbeats 16000000
namespace Go.Proofs.YtdlhaidlokkmnaaGreatDoor
open Go.RowKit
theorem Tryz.infoEvP : (Tryz.prog.info? 74).map (fun i => (i.zero, i.size, i.bytes)) = some (some (.agg #[.int .u8 0, .int .u32 0, .int .u32 0, .int .u8 0, .slice none 0 0, .slice none 0 0, .slice none 0 0, .int .u8 0]), 8, 96) := by kernel_rfl
theorem Tryz.infoTxP : (Tryz.prog.info? 81).map (fun i => (i.zero, i.size, i.bytes)) = some (some (.agg #[.int .u32 0, .int .u64 0, .slice none 0 0]), 3, 40) := by kernel_rfl
structure TL.on (S : Nat → Prop) (x : TL) : Prop where
  a : x.es ≠ [] → ∀ b o, x.a = some ⟨b, o, none⟩ → S b
  e : ∀ e ∈ x.es, e.on S
theorem TL.on.mono {S T : Nat → Prop} {x : TL} (h : x.on S) (hs : ∀ b, S b → T b) : x.on T := ⟨fun h0 b o e => hs b (h.a h0 b o e), fun e he => (h.e e he).mono hs⟩
theorem TL.on.and {S T : Nat → Prop} {x : TL} (h : x.on S) (k : x.on T) : x.on (fun b => S b ∧ T b) := ⟨fun h0 b o e => ⟨h.a h0 b o e, k.a h0 b o e⟩, fun e he => (h.e e he).and (k.e e he)⟩
theorem TL.at.lt {n : Nat} {f : K → List Value} {W : World} {x : TL} (h : x.at n f W) : x.on (fun b => b < W.heap.size) :=
  ⟨fun h0 b o e => Sl.lt (by have := h.row; rw [e] at this; exact this) (fun q => h0 (by simpa using q)), fun e he => (h.sl e he).lt⟩
theorem TL.at.kp {S : Nat → Prop} {n : Nat} {f : K → List Value} {W W' : World} {x : TL} (h : x.at n f W) (hk : Kp S W W') (hs : x.on (fun b => ¬ S b)) : x.at n f W' := ES.kp h hk hs.a hs.e
theorem TL.len (l : List TL) : ∀ xs ∈ l.map TL.vals, xs.length = 3 := by
  intro xs hxs
  rw [List.mem_map] at hxs
  obtain ⟨p, _, rfl⟩ := hxs
  rfl
structure OwnT (W : World) (N : Nat) (xs : List Tx) (v : Value) (qs : List TL) : Prop where
  own : W.ownsRow N 81 3 v qs.length (qs.map TL.vals).flatten
  t : qs.map TL.t = xs
  sl : ∀ q ∈ qs, q.at 5 K.pc W
  ne : ∀ q ∈ qs, q.on (fun b => N ≤ b ∧ v.ownBlock ≠ some b)
  cap : ∀ q ∈ qs, q.es.length ≤ q.c
section
variable {S : Nat → Prop} {W W' : World} {N : Nat} {xs : List Tx} {v v' : Value} {qs : List TL} {q : TL}
theorem OwnT.nil (W : World) (N : Nat) : OwnT W N [] (.slice none 0 0) [] := ⟨World.ownsRow_nil _ _ _ _, rfl, (fun q h => by cases h), (fun q h => by cases h), (fun q h => by cases h)⟩
theorem OwnT.len (h : OwnT W N xs v qs) : qs.length = xs.length := by rw [← h.t, List.length_map]
theorem OwnT.kp (h : OwnT W N xs v qs) (hk : Kp S W W') (h1 : ∀ b, v.ownBlock = some b → ¬ S b) (h2 : ∀ q ∈ qs, q.on (fun b => ¬ S b)) : OwnT W' N xs v qs :=
  ⟨owns_kp h.own hk h1, h.t, fun q hq => (h.sl q hq).kp hk (h2 q hq), h.ne, h.cap⟩
theorem OwnT.low (h : OwnT W N xs v qs) (hk : Kp S W W') (h1 : ∀ b, S b → b < N ∨ W.heap.size ≤ b) : OwnT W' N xs v qs :=
  h.kp hk (fun b hb hs => by have := owns_lt3 h.own hb; have := h1 b hs; omega) (fun q hq => ((h.ne q hq).and (h.sl q hq).lt).mono (fun b hb hs => by have := h1 b hs; omega))
theorem OwnT.ext (h : OwnT W N xs v qs) (he : Ext W W') : OwnT W' N xs v qs := ⟨owns_ext h.own he, h.t, fun q hq => (h.sl q hq).ext he, h.ne, h.cap⟩
theorem OwnT.push (h : OwnT W N xs v qs) (hs : q.at 5 K.pc W) (hc : q.es.length ≤ q.c) (hn : q.on (fun b => N ≤ b ∧ v.ownBlock ≠ some b))
    (hg : W.grownBy W' v.ownBlock) (hat : v'.ownBlock = v.ownBlock ∨ v'.ownBlock = some W.heap.size) (ho : W'.ownsRow N 81 3 v' (qs.length + 1) ((qs.map TL.vals).flatten ++ q.vals)) : OwnT W' N (xs ++ [q.t]) v' (qs ++ [q]) := by
  have hall : ∀ x ∈ qs ++ [q], x.at 5 K.pc W ∧ x.on (fun b => N ≤ b ∧ v.ownBlock ≠ some b) := fun x hx => by
    rcases List.mem_append.1 hx with hx | hx
    · exact ⟨h.sl x hx, h.ne x hx⟩
    · obtain rfl : x = q := by simpa using hx
      exact ⟨hs, hn⟩
  refine ⟨by simpa using ho, by rw [List.map_append, h.t]; rfl, fun x hx => (hall x hx).1.kp (Kp.of_grown hg) ((hall x hx).2.mono (fun b hb => hb.2)), fun x hx => ((hall x hx).2.and (hall x hx).1.lt).mono (fun b hb => ⟨hb.1.1, ?_⟩), fun x hx => ?_⟩
  rotate_left 1
  · rcases List.mem_append.1 hx with hx | hx
    · exact h.cap x hx
    · obtain rfl : x = q := by simpa using hx
      exact hc
  rcases hat with h4 | h4
  · rw [h4]; exact hb.1.2
  · rw [h4]; intro h5; injection h5 with h5
    have := hb.2; omega
theorem OwnT.ts (h : OwnT W N xs v qs) : TS 5 K.pc W v qs := ⟨Sl.of_owns (base := N) (e := 81) (by rw [List.length_map]; exact h.own) (TL.len qs), h.sl⟩
end
theorem txs_any (ts : List TL) (a : Option Addr) (c : Nat) (w : World) (ht : TS 6 K.rc w (.slice a ts.length c) ts) (hn : ts.length ≤ 1000) (hm : ∀ t ∈ ts, t.es.length ≤ 1000) (hs : ∀ t ∈ ts, ∀ e ∈ t.es, e.e.small) :
    Calls Tryz.prog 9 #[.slice a ts.length c] w fun e w' => ∃ a' c' qs, e = .returned (.slice a' ts.length c') ∧ OwnT w' w.heap.size (ts.map TL.t) (.slice a' ts.length c') qs ∧ Ext w w' := by
  obtain ⟨i0, hi, hz0, hz1, hz2⟩ := info_parts Tryz.infoEvP
  obtain ⟨j0, hj, hy0, hy1, hy2⟩ := info_parts Tryz.infoTxP
  have HT := Hm ht
  have HM := Hm hm
  have HS := Hm hs
  clear ht hm hs
  go_enter Tryz.func9, Tryz.ntmps9
  go_wp2
  go_loopg [3, 4] ts.length (fun z v i wr => ∃ (k : Nat) (qs : List TL), z + k = ts.length ∧ i = .int .i64 k ∧ Hid (OwnT wr w.heap.size ((ts.take k).map TL.t) v qs) ∧ Hid (Ext w wr))
  case atStart => exact ⟨0, [], by omega, rfl, Hm (OwnT.nil _ _), Hm (Ext.refl _)⟩
  case round =>
    obtain ⟨k, qs, hzk, rfl, hown, hE⟩ := hrel
    by_cases hlt : k < ts.length
    · obtain ⟨b, o, rfl, hb, hx⟩ := HT.out.row.at_ (i := k) (by simpa using hlt)
      have HF := Hm (fun W (h : Ext w W) => TL.at_ hlt hx hb h)
      obtain ⟨f0, f1, f2⟩ := HF.out wr hE.out
      have hbw : b < wr.heap.size := Nat.lt_of_lt_of_le hb hE.out.size
      have HES := Hm (HT.out.sl _ (List.getElem_mem hlt))
      have HMM := Hm (HM.out _ (List.getElem_mem hlt))
      have HSS := Hm (HS.out _ (List.getElem_mem hlt))
      have HTK : Hid (ts.take (k + 1) = ts.take k ++ [ts[k]]) := Hm (List.take_succ_eq_append_getElem hlt)
      obtain ⟨t, hte⟩ : ∃ t, t = ts[k] := ⟨_, rfl⟩
      rw [← hte] at HF f0 f1 f2 HES HMM HSS HTK
      have HBW := Hm hb
      have HLK := Hm hlt
      clear hte hx hb
      obtain ⟨xid, st, es, ta, tc⟩ := t
      simp only at HF f0 f1 f2 HMM HSS
      have HES2 : Hid (ES 6 K.rc w (.slice ta es.length tc) es) := HES
      clear HES
      go_wp2
      go_region_held3 (fun w' => Ext (wr) w' ∧ (∀ b o, b < (wr).heap.size → w'.cell? ⟨b, o, none⟩ = (wr).cell? ⟨b, o, none⟩) ∧ (∀ b o, b < (wr).heap.size → w'.frozen? ⟨b, o, none⟩ = (wr).frozen? ⟨b, o, none⟩)) ((exact held_of (by exact eX))) (fail)
      have HX1 : Hid (Blk (wr.alloc (.cells #[.int .u32 xid, .int .u64 st, .slice none 0 0] 81)).drew wr.heap.size #[.int .u32 xid, .int .u64 st, .slice none 0 0] 81) := Hm (Blk.new wr _ _).drew
      have HE1 : Hid (Ext wr (wr.alloc (.cells #[.int .u32 xid, .int .u64 st, .slice none 0 0] 81)).drew) := Hm (by exact eX)
      have hsz1 : (wr.alloc (.cells #[.int .u32 xid, .int .u64 st, .slice none 0 0] 81)).drew.heap.size = wr.heap.size + 1 := World.size_alloc _ _
      obtain ⟨w1, hw1⟩ : ∃ w1, w1 = (wr.alloc (.cells #[.int .u32 xid, .int .u64 st, .slice none 0 0] 81)).drew := ⟨_, rfl⟩
      rw [← hw1] at HX1 HE1 hsz1 ⊢
      obtain ⟨wo, hwo⟩ : ∃ x, x = wr := ⟨_, rfl⟩
      subst hwo
      obtain ⟨X, hX⟩ : ∃ X, X = wo.heap.size := ⟨_, rfl⟩
      rw [← hX] at HX1 hsz1 ⊢
      have HSZ := Hm (And.intro hX (And.intro hsz1 hE.out.size))
      have HEo := Hm hE.out
      clear hw1 hX hsz1 f0 f1 f2 hE
      go_wp2
      go_loopg [6] es.length (fun z2 i wr => ∃ (n : Nat) (va : Option Addr) (vc : Nat) (qs2 : List EL), z2 + n = es.length ∧ i = .int .i64 n ∧ Hid (Blk wr X #[.int .u32 xid, .int .u64 st, .slice va n vc] 81) ∧ Hid (OwnE 5 K.pc 74 wr (X + 1) ((es.take n).map EL.e) (.slice va n vc) qs2) ∧ Hid (Kp (fun x => x = X) w1 wr))
      case atStart => exact ⟨0, none, 0, [], by omega, rfl, HX1, Hm (OwnE.nil _ _), Hm Kp.refl⟩
      case round =>
        obtain ⟨n, va, vc, qs2, hzn, rfl, hB, hO, hK⟩ := hrel
        have HEW : Hid (Ext w wr) := Hm (Kp.ext (HEo.out.trans HE1.out) (fun x hx _ => by have := HSZ.out; omega) hK.out)
        have gX := hB.out.cell
        have gXf := hB.out.frozen
        have zX := hB.out.lt
        obtain ⟨f0, f1, f2⟩ := HF.out wr HEW.out
        have hbw2 : b < wr.heap.size := Nat.lt_of_lt_of_le HBW.out HEW.out.size
        have HKS := Hm hK.out.size
        have HQL := Hm hO.out.len
        by_cases hlt2 : n < es.length
        · obtain ⟨b2, o2, rfl, hb2, hx2⟩ := HES2.out.row.at_ (i := n) (by simpa using hlt2)
          have HG := Hm (fun W (h : Ext w W) => EL.at_ hlt2 hx2 hb2 h)
          have HB2 := Hm hb2
          have HTN : Hid (es.take (n + 1) = es.take n ++ [es[n]]) := Hm (List.take_succ_eq_append_getElem hlt2)
          have hsm := HSS.out _ (List.getElem_mem hlt2)
          have HOW := Hm (fun W (h : Ext w W) => eown_el es[n] W ((HES2.out.sl _ (List.getElem_mem hlt2)).ext h) hsm.b hsm.a hsm.r)
          obtain ⟨x, hxx⟩ : ∃ x, x = es[n] := ⟨_, rfl⟩
          have HLT := Hm hlt2
          rw [← hxx] at HG HTN HOW
          clear hxx hx2 hb2 hsm
          obtain ⟨⟨k1, ao1, av1, old1, b1, a1, r1, fl1⟩, ba1, bc1, aa1, ac1, ra1, rc1⟩ := x
          unfold EL.agg at HOW
          simp only at HG HOW
          have HSET : Hid (∀ w', Kp (fun x => w1.heap.size ≤ x) wr w' → (∀ j, w'.cell? ⟨X, j, none⟩ = (#[.int .u32 xid, .int .u64 st, .slice va n vc])[j]?) ∧ (∀ j, w'.frozen? ⟨X, j, none⟩ = false) ∧ w'.cell? ⟨b, o + k * 3 + 2, none⟩ = some (.slice (some ⟨b2, o2, none⟩) es.length tc) ∧ w'.cell? ⟨b2, o2 + n * 8, none⟩ = some (.int .u8 k1) ∧ w'.cell? ⟨b2, o2 + n * 8 + 1, none⟩ = some (.int .u32 ao1) ∧ w'.cell? ⟨b2, o2 + n * 8 + 2, none⟩ = some (.int .u32 av1) ∧ w'.cell? ⟨b2, o2 + n * 8 + 3, none⟩ = some (.int .u8 old1) ∧ w'.cell? ⟨b2, o2 + n * 8 + 4, none⟩ = some (.slice ba1 b1.length bc1) ∧ w'.cell? ⟨b2, o2 + n * 8 + 5, none⟩ = some (.slice aa1 a1.length ac1) ∧ w'.cell? ⟨b2, o2 + n * 8 + 6, none⟩ = some (.slice ra1 r1.length rc1) ∧ w'.cell? ⟨b2, o2 + n * 8 + 7, none⟩ = some (.int .u8 fl1) ∧ b < w'.heap.size ∧ b2 < w'.heap.size ∧ X < w'.heap.size) := Hm (fun w' h => by
            have hq := HSZ.out
            have hE' : Ext w w' := Kp.ext (HEo.out.trans HE1.out) (S := fun x => x = X ∨ w1.heap.size ≤ x) (fun x hx _ => by omega) ((hK.out.mono (T := fun x => x = X ∨ w1.heap.size ≤ x) (fun x hx _ => .inl hx)).trans h (fun x hx _ => .inr hx))
            have h2 := hB.out.kp h (by omega)
            obtain ⟨p0, p1, p2, p3, p4, p5, p6, p7⟩ := HG.out w' hE'
            exact ⟨h2.cell, h2.frozen, (HF.out w' hE').2.2, p0, p1, p2, p3, p4, p5, p6, p7, Nat.lt_of_lt_of_le HBW.out hE'.size, Nat.lt_of_lt_of_le HB2.out hE'.size, h2.lt⟩)
          obtain ⟨g0, g1, g2, g3, g4, g5, g6, g7⟩ := HG.out wr HEW.out
          have hbw3 : b2 < wr.heap.size := Nat.lt_of_lt_of_le HB2.out HEW.out.size
          go_wp2
          clear gX gXf zX f0 f1 f2 g0 g1 g2 g3 g4 g5 g6 g7
          have hA0 : Hid ((fun w' => (∀ j, w'.cell? ⟨X, j, none⟩ = (#[.int .u32 xid, .int .u64 st, .slice va n vc])[j]?) ∧ (∀ j, w'.frozen? ⟨X, j, none⟩ = false) ∧ w'.cell? ⟨b, o + k * 3 + 2, none⟩ = some (.slice (some ⟨b2, o2, none⟩) es.length tc) ∧ w'.cell? ⟨b2, o2 + n * 8, none⟩ = some (.int .u8 k1) ∧ w'.cell? ⟨b2, o2 + n * 8 + 1, none⟩ = some (.int .u32 ao1) ∧ w'.cell? ⟨b2, o2 + n * 8 + 2, none⟩ = some (.int .u32 av1) ∧ w'.cell? ⟨b2, o2 + n * 8 + 3, none⟩ = some (.int .u8 old1) ∧ w'.cell? ⟨b2, o2 + n * 8 + 4, none⟩ = some (.slice ba1 b1.length bc1) ∧ w'.cell? ⟨b2, o2 + n * 8 + 5, none⟩ = some (.slice aa1 a1.length ac1) ∧ w'.cell? ⟨b2, o2 + n * 8 + 6, none⟩ = some (.slice ra1 r1.length rc1) ∧ w'.cell? ⟨b2, o2 + n * 8 + 7, none⟩ = some (.int .u8 fl1) ∧ b < w'.heap.size ∧ b2 < w'.heap.size ∧ X < w'.heap.size) wr.drew) := Hm (HSET.out _ (Kp.of_ext (Ext.refl wr).drew))
          refine wp_region_head 13 (fun w' => (∀ j, w'.cell? ⟨X, j, none⟩ = (#[.int .u32 xid, .int .u64 st, .slice va n vc])[j]?) ∧ (∀ j, w'.frozen? ⟨X, j, none⟩ = false) ∧ w'.cell? ⟨b, o + k * 3 + 2, none⟩ = some (.slice (some ⟨b2, o2, none⟩) es.length tc) ∧ w'.cell? ⟨b2, o2 + n * 8, none⟩ = some (.int .u8 k1) ∧ w'.cell? ⟨b2, o2 + n * 8 + 1, none⟩ = some (.int .u32 ao1) ∧ w'.cell? ⟨b2, o2 + n * 8 + 2, none⟩ = some (.int .u32 av1) ∧ w'.cell? ⟨b2, o2 + n * 8 + 3, none⟩ = some (.int .u8 old1) ∧ w'.cell? ⟨b2, o2 + n * 8 + 4, none⟩ = some (.slice ba1 b1.length bc1) ∧ w'.cell? ⟨b2, o2 + n * 8 + 5, none⟩ = some (.slice aa1 a1.length ac1) ∧ w'.cell? ⟨b2, o2 + n * 8 + 6, none⟩ = some (.slice ra1 r1.length rc1) ∧ w'.cell? ⟨b2, o2 + n * 8 + 7, none⟩ = some (.int .u8 fl1) ∧ b < w'.heap.size ∧ b2 < w'.heap.size ∧ X < w'.heap.size) (by kernel_rfl) (by decide) ?_
          (refine wpHd_take (i := 0) (v := ?_) rfl (by kernel_rfl) (by kernel_rfl) (by kernel_rfl) (fun _ _ _ h => h) (Or.inl ⟨by rfl, ?_⟩) hA0.out ?_; rotate_left 1; · (intro w' hS'; (try dsimp only at hS'); go_split_ands; go_simp; try with_reducible rfl))
          (refine wpHd_take (i := 1) (v := ?_) rfl (by kernel_rfl) (by kernel_rfl) (by kernel_rfl) (fun _ _ _ h => h) (Or.inl ⟨by rfl, ?_⟩) hA0.out ?_; rotate_left 1; · (intro w' hS'; (try dsimp only at hS'); go_split_ands; go_simp; try with_reducible rfl))
          (refine wpHd_take (i := 2) (v := ?_) rfl (by kernel_rfl) (by kernel_rfl) (by kernel_rfl) (fun _ _ _ h => h) (Or.inl ⟨by rfl, ?_⟩) hA0.out ?_; rotate_left 1; · (intro w' hS'; (try dsimp only at hS'); go_split_ands; go_simp; try with_reducible rfl))
          (refine wpHd_take (i := 3) (v := ?_) rfl (by kernel_rfl) (by kernel_rfl) (by kernel_rfl) (fun _ _ _ h => h) (Or.inl ⟨by rfl, ?_⟩) hA0.out ?_; rotate_left 1; · (intro w' hS'; (try dsimp only at hS'); go_split_ands; go_simp; try with_reducible rfl))
          (refine wpHd_take (i := 4) (v := ?_) rfl (by kernel_rfl) (by kernel_rfl) (by kernel_rfl) (fun _ _ _ h => h) (Or.inl ⟨by rfl, ?_⟩) hA0.out ?_; rotate_left 1; · (intro w' hS'; (try dsimp only at hS'); go_split_ands; go_simp; try with_reducible rfl))
          (refine wpHd_take (i := 5) (v := ?_) rfl (by kernel_rfl) (by kernel_rfl) (by kernel_rfl) (fun _ _ _ h => h) (Or.inl ⟨by rfl, ?_⟩) hA0.out ?_; rotate_left 1; · (intro w' hS'; (try dsimp only at hS'); go_split_ands; go_simp; try with_reducible rfl))
          (refine wpHd_take (i := 6) (v := ?_) rfl (by kernel_rfl) (by kernel_rfl) (by kernel_rfl) (fun _ _ _ h => h) (Or.inl ⟨by rfl, ?_⟩) hA0.out ?_; rotate_left 1; · (intro w' hS'; (try dsimp only at hS'); go_split_ands; go_simp; try with_reducible rfl))
          (refine wpHd_take (i := 7) (v := ?_) rfl (by kernel_rfl) (by kernel_rfl) (by kernel_rfl) (fun _ _ _ h => h) (Or.inl ⟨by rfl, ?_⟩) hA0.out ?_; rotate_left 1; · (intro w' hS'; (try dsimp only at hS'); go_split_ands; go_simp; try with_reducible rfl))
          (refine wpHd_take (i := 8) (v := ?_) rfl (by kernel_rfl) (by kernel_rfl) (by kernel_rfl) (fun _ _ _ h => h) (Or.inl ⟨by rfl, ?_⟩) hA0.out ?_; rotate_left 1; · (intro w' hS'; (try dsimp only at hS'); go_split_ands; go_simp; try with_reducible rfl))
          (refine wpHd_take (i := 9) (v := ?_) rfl (by kernel_rfl) (by kernel_rfl) (by kernel_rfl) (fun _ _ _ h => h) (Or.inl ⟨by rfl, ?_⟩) hA0.out ?_; rotate_left 1; · (intro w' hS'; (try dsimp only at hS'); go_split_ands; go_simp; try with_reducible rfl))
          refine wpHd_one (i := 10) rfl rfl (by kernel_rfl) (fun KK hK => ?_)
          go_simp
          refine (HOW.out _ HEW.out.drew).mono ?_
          rintro e w7 ⟨⟨ye, ba2, bc2, aa2, ac2, ra2, rc2⟩, rfl, hye, hat7, hon7, hb7⟩
          simp only at hye
          subst hye
          have H7 := Hm hat7
          have HN7 := Hm hon7
          have HB7 : Hid (Ext wr w7) := Hm ((Ext.refl wr).drew.trans hb7)
          refine hK.out _ _ (HSET.out _ (Kp.of_ext HB7.out)) (fun hA => ?_)
          clear hK KK hA hA0 hat7 hon7 hb7
          try simp only
          refine wpHd_one (i := 11) rfl rfl (by kernel_rfl) (fun KK hK => ?_)
          go_simp
          refine hK.out _ _ (HSET.out _ (Kp.of_ext (HB7.out.alloc _))) (fun hA => ?_)
          clear hK KK hA
          refine wpHd_one (i := 12) rfl rfl (by kernel_rfl) (fun KK hK => ?_)
          have hqn : qs2.length = n := by rw [HQL.out, List.length_map, List.length_take]; have := HLT.out; omega
          have HQN := Hm hqn
          have HQN2 := Hm (show n + 1 ≤ 1000 by have := HLT.out; have := HMM.out; omega)
          have HO7 : Hid (OwnE 5 K.pc 74 (w7.alloc (.cells #[.int .u8 k1, .int .u32 ao1, .int .u32 av1, .int .u8 old1, .slice ba2 b1.length bc2, .slice aa2 a1.length ac2, .slice ra2 r1.length rc2, .int .u8 fl1] 74)) (X + 1) ((es.take n).map EL.e) (.slice va n vc) qs2) := Hm (hO.out.ext (HB7.out.alloc _))
          refine wp_append_lies _ _ _ 79 (by rfl) (X + 1) 74 i0 _ 8 96 Tryz.underlying79 hi hz0 hz1 hz2 rfl (by decide) (.slice va n vc) n _ (by rfl) (by have := HO7.out.own; rw [HQN.out] at this; exact this) ⟨_, 0, none⟩ 1 1 (EL.vals ⟨⟨k1, ao1, av1, old1, b1, a1, r1, fl1⟩, ba2, bc2, aa2, ac2, ra2, rc2⟩) (by rfl) rfl (cells_new _ #[.int .u8 k1, .int .u32 ao1, .int .u32 av1, .int .u8 old1, .slice ba2 b1.length bc2, .slice aa2 a1.length ac2, .slice ra2 r1.length rc2, .int .u8 fl1] _) (EL.one _) (by decide) (by unfold maxLen; have := HQN2.out; omega) (by have := HQN2.out; omega) (by have h1 := HB7.out.size; have h2 := HKS.out; have h3 := HSZ.out; simp; omega) _ rfl ?_
          intro g4 cap4 w4 hown4 hgrow4 hat4 hlt4
          have HP : Hid (OwnE 5 K.pc 74 w4 (X + 1) ((es.take (n + 1)).map EL.e) (.slice (some ⟨g4, 0, none⟩) (n + 1) cap4) (qs2 ++ [⟨⟨k1, ao1, av1, old1, b1, a1, r1, fl1⟩, ba2, bc2, aa2, ac2, ra2, rc2⟩])) := Hm (by
            rw [HTN.out, List.map_append]
            refine OwnE.push HO7.out (H7.out.ext ((Ext.refl _).alloc _)) ((HN7.out).mono (fun b hb => ?_)) hgrow4 (hat4.elim (fun h => .inl (by rw [h]; rfl)) (fun h => .inr (by rw [h]; rfl))) (by rw [HQN.out]; exact hown4)
            have hb' : wr.heap.size ≤ b := hb
            have h2 := HKS.out
            have h3 := HSZ.out
            exact ⟨by omega, fun e => by have := owns_lt3 hO.out.own e; omega⟩)
          have HKG : Hid (Kp (fun x => w1.heap.size ≤ x) wr w4) := Hm ((Kp.of_ext (S := fun x => w1.heap.size ≤ x) (HB7.out.alloc _)).trans (Kp.of_grown hgrow4) (fun x hx _ => by have := owns_lt3 hO.out.own hx; have h3 := HSZ.out; omega))
          refine hK.out _ _ (HSET.out _ HKG.out) (fun hA => ?_)
          clear hK KK hA hown4 hgrow4 hat4 hlt4 hqn
          have hX4 : Hid (Blk w4 X #[.int .u32 xid, .int .u64 st, .slice va n vc] 81) := Hm (hB.out.kp HKG.out (by have := HSZ.out; omega))
          have gX := hX4.out.cell
          have gXf := hX4.out.frozen
          have zX := hX4.out.lt
          have hml := HMM.out
          have hlt3 := HLT.out
          refine wpHd_tail (by kernel_rfl) ?_
          simp only [List.drop_succ_cons, List.drop_zero]
          go_wp2
          go_roundg (es.length - (n + 1))
          case measure => have := HLT.out; omega
          case rel =>
            refine ⟨n + 1, some ⟨g4, 0, none⟩, cap4, _, Nat.sub_add_cancel HLT.out, by go_num, Hm ?_, Hm (HP.out.low (Kp.set (S := fun x => x = X) ⟨X, 2, none⟩ _ rfl) (fun x hx => by have hx' : x = X := hx; omega)), Hm ?_⟩
            · have := hX4.out.set 2 (.slice (some ⟨g4, 0, none⟩) (n + 1) cap4)
              simpa only [List.setIfInBounds_toArray, List.set_cons_zero, List.set_cons_succ] using this
            · exact ((hK.out.mono (T := fun x => x = X) (fun x hx _ => hx)).trans (HKG.out) (fun x hx h => by omega)).trans (T := fun x => x = X) (Kp.set _ _ rfl) (fun x hx _ => hx)
        · obtain rfl : n = es.length := by omega
          rw [List.take_length] at hO
          have HON : Hid (OwnT wr w.heap.size ((ts.take k).map TL.t) _ qs) := Hm (hown.out.low (S := fun x => x = X) ((Kp.of_ext HE1.out).trans hK.out (fun x hx _ => hx)) (fun x hx => by have := HSZ.out; have hx' : x = X := hx; omega))
          have HQT : Hid (qs.length = k) := Hm (by rw [hown.out.len, List.length_map, List.length_take]; have := HLK.out; omega)
          have HKN := Hm (show k + 1 ≤ 1000 by have := HLK.out; omega)
          have HVB := Hm (fun b hb => (owns_lt3 hown.out.own (g := b) hb))
          have HQS : Hid (ES 5 K.pc wr (.slice va es.length vc) qs2) := Hm hO.out.row
          have hqn : qs2.length = es.length := by rw [HQL.out, List.length_map, List.length_take]; omega
          have HQN := Hm hqn
          have HQE := Hm hO.out.e
          have HCV := Hm (owns_cap hO.out.own)
          have HON2 := Hm hO.out.ne
          have HOB := Hm (fun b hb => (owns_lt3 hO.out.own (g := b) hb))
          clear hqn hown hO
          go_wp2_with (at_builtin; refine wpList_append_own_at _ rfl _ _ 36 rfl w.heap.size 81 j0 _ 3 40 Tryz.underlying36 hj hy0 hy1 hy2 rfl (by decide) _ k _ rfl (by have h := owns_ext HON.out.own ((Ext.refl wr).alloc (.cells #[.int .u32 xid, .int .u64 st, .slice va es.length vc] 81)); rw [HQT.out] at h; exact h) ⟨_, 0, none⟩ 1 1 [.int .u32 xid, .int .u64 st, .slice va es.length vc] rfl rfl ?c1 ?c2 ?c3 ?c4 ?c5 ?_)
          case c1 => exact cells_new _ #[.int .u32 xid, .int .u64 st, .slice va es.length vc] _
          case c2 => intro u hu; simp at hu; rcases hu with rfl | rfl | rfl <;> rfl
          case c3 => unfold maxLen; have := HKN.out; omega
          case c4 => have := HKN.out; omega
          case c5 => have := HSZ.out; have := HKS.out; simp; omega
          intro v' w2 hown' hgrow _ hat
          have HOF : Hid (OwnT w2 w.heap.size ((ts.take (k + 1)).map TL.t) v' (qs ++ [⟨xid, st, qs2, va, vc⟩])) := Hm (by
            rw [HTK.out, List.map_append]
            have h1 := OwnT.push (q := ⟨xid, st, qs2, va, vc⟩) (HON.out.ext ((Ext.refl wr).alloc (.cells #[.int .u32 xid, .int .u64 st, .slice va es.length vc] 81))) (by show ES 5 K.pc _ (.slice va qs2.length vc) qs2; rw [HQN.out]; exact HQS.out.ext ((Ext.refl wr).alloc _)) (by show qs2.length ≤ vc; rw [HQN.out]; exact HCV.out) ⟨fun h0 b o e => ?_, fun x hx => (HON2.out x hx).mono (fun b hb => ?_)⟩ hgrow (by first | exact hat | (rw [World.size_alloc]; exact hat)) (by rw [HQT.out, show TL.vals ⟨xid, st, qs2, va, vc⟩ = [.int .u32 xid, .int .u64 st, .slice va es.length vc] from by unfold TL.vals; rw [HQN.out]]; exact hown')
            · have e2 : TL.t ⟨xid, st, qs2, va, vc⟩ = TL.t ⟨xid, st, es, ta, tc⟩ := by unfold TL.t; rw [HQE.out]
              rw [e2] at h1
              exact h1
            · have h2 := HOB.out b (by rw [show va = some ⟨b, o, none⟩ from e]; rfl)
              have h3 := HSZ.out
              exact ⟨by omega, fun e => by have := HVB.out b e; omega⟩
            · have h3 := HSZ.out
              have h4 : X + 1 ≤ b := hb.1
              exact ⟨by omega, fun e => by have := HVB.out b e; omega⟩)
          have HEF : Hid (Ext w w2) := Hm ((HEW.out.alloc (.cells #[.int .u32 xid, .int .u64 st, .slice va es.length vc] 81)).grown (owns_ext HON.out.own ((Ext.refl wr).alloc _)) hgrow)
          clear hown' hgrow hat
          go_wp2
          go_roundg (ts.length - (k + 1))
          case measure => have := HLK.out; omega
          case rel => exact ⟨k + 1, _, by have := HLK.out; omega, by go_num, HOF, HEF⟩
    · obtain rfl : k = ts.length := by omega
      rw [List.take_length] at hown
      have hql := hown.out.len
      rw [List.length_map] at hql
      obtain ⟨a', c', rfl⟩ := owns_shape hown.out.own
      rw [hql] at hown ⊢
      clear hql
      go_wp2
      go_ret
      exact ⟨a', c', qs, rfl, hown.out, hE.out⟩
noncomputable def evAt (es : List Ev) (l : List Rl) (i : Nat) : Int := if h : i < es.length then evE es[i] l else 0
noncomputable def rtE (t : Tx) (l : List Rl) : Int := if t.xid = 0 then 4 else if 512 < t.es.length then 8 else firstE (evAt t.es l) t.es.length
noncomputable def rtP (t : Tx) (l : List Rl) : Int := if t.xid = 0 then -1 else if 512 < t.es.length then -1 else if firstE (evAt t.es l) t.es.length = 0 then -1 else (plE (evAt t.es l) t.es.length : Nat)
theorem evAt_map {es : List EL} {l : List Rl} {k : Nat} (h : k < es.length) : evAt (es.map EL.e) l k = evE es[k].e l := by
  unfold evAt
  rw [dif_pos (by simpa using h), List.getElem_map]
theorem rt_ok {t : Tx} {l : List Rl} (h0 : t.xid ≠ 0) (h1 : t.es.length ≤ 512) (hz : ∀ j, j < t.es.length → evAt t.es l j = 0) : rtE t l = 0 ∧ rtP t l = -1 := by
  have e := firstE_zero hz
  unfold rtE rtP
  rw [if_neg h0, if_neg (by omega), if_neg h0, if_neg (by omega), e, if_pos rfl]
  exact ⟨rfl, rfl⟩
theorem rt_bad {t : Tx} {l : List Rl} {k : Nat} (h0 : t.xid ≠ 0) (h1 : t.es.length ≤ 512) (hk : k < t.es.length) (hz : ∀ j, j < k → evAt t.es l j = 0) (hn : evAt t.es l k ≠ 0) : rtE t l = evAt t.es l k ∧ rtP t l = k := by
  have e := firstE_at hz hk hn
  have p := plE_at hz hn hk
  unfold rtE rtP
  rw [if_neg h0, if_neg (by omega), if_neg h0, if_neg (by omega), e, if_neg hn, p]
  exact ⟨rfl, rfl⟩
theorem txright_any (t : TL) (N g : Nat) (c : Value) (ps : List RR) (w : World) (ht : t.at 5 K.pc w) (hn : t.es.length ≤ 1000) (hs : ∀ e ∈ t.es, e.e.small) (hwk : ∀ e ∈ t.es, e.e.wk) (hc : Ca w N g c ps) :
    Calls Tryz.prog 30 #[t.agg, .pointer (some ⟨g, 0, none⟩)] w fun e w' => e = .returned (.tuple #[.int .i64 (rtP t.t (ps.map RR.r)), .int .i64 (rtE t.t (ps.map RR.r))]) ∧ Ext w w' := by
  have HT := Hm ht
  have HER := Hm (fun x (hx : x ∈ t.es) W (h : Ext w W) => eright_any x N g c ps W ((ht.sl x hx).ext h) (hs x hx) (hwk x hx) (hc.ext h))
  clear ht hs hwk hc
  obtain ⟨xid, st, es, ta, tc⟩ := t
  unfold TL.agg TL.t
  simp only at HER hn ⊢
  have HT2 : Hid (ES 5 K.pc w (.slice ta es.length tc) es) := HT
  clear HT
  by_cases h0 : xid = 0
  · subst h0
    have HR := Hm (show rtE ⟨0, st, es.map EL.e⟩ (ps.map RR.r) = 4 ∧ rtP ⟨0, st, es.map EL.e⟩ (ps.map RR.r) = -1 from ⟨if_pos rfl, if_pos rfl⟩)
    go_enter Tryz.func30, Tryz.ntmps30
    go_wp2
    go_ret2
    exact ⟨by rw [HR.out.1, HR.out.2]; rfl, by exact eX⟩
  have h0' : (xid == 0) = false := by simpa using h0
  have H0 := Hm h0
  clear h0
  by_cases h5 : 512 < es.length
  · have HR := Hm (show rtE (⟨xid, st, es.map EL.e⟩ : Tx) (ps.map RR.r) = 8 ∧ rtP (⟨xid, st, es.map EL.e⟩ : Tx) (ps.map RR.r) = -1 from ⟨by unfold rtE; rw [if_neg H0.out, if_pos (by simpa using h5)], by unfold rtP; rw [if_neg H0.out, if_pos (by simpa using h5)]⟩)
    go_enter Tryz.func30, Tryz.ntmps30
    go_wp2
    go_ret2
    exact ⟨by rw [HR.out.1, HR.out.2]; rfl, by exact eX⟩
  have HL5 := Hm (show (⟨xid, st, es.map EL.e⟩ : Tx).es.length ≤ 512 by simp only [List.length_map]; omega)
  go_enter Tryz.func30, Tryz.ntmps30
  go_wp2
  go_loopw [21] (fun i wr => ∃ k : Nat, k ≤ es.length ∧ i = .int .i64 k ∧ Hid (∀ j, j < k → evAt (es.map EL.e) (ps.map RR.r) j = 0) ∧ Hid (Ext w wr)) (fun i _ => es.length - (intOf i).toNat)
  case atStart => exact ⟨0, Nat.zero_le _, rfl, Hm (fun j h => by omega), Hm (by exact eX)⟩
  case round =>
    obtain ⟨k, hk, rfl, hz, hE⟩ := hrel
    by_cases hlt : k < es.length
    · obtain ⟨b, o, rfl, hb, hx⟩ := HT2.out.row.at_ (i := k) (by simpa using hlt)
      obtain ⟨g0, g1, g2, g3, g4, g5, g6, g7⟩ := EL.at_ hlt hx hb hE.out
      have hbw : b < wr.heap.size := Nat.lt_of_lt_of_le hb hE.out.size
      have HEK := Hm (HER.out _ (List.getElem_mem hlt))
      have HAT := Hm (evAt_map (l := ps.map RR.r) hlt)
      obtain ⟨x, hxx⟩ : ∃ x, x = es[k] := ⟨_, rfl⟩
      rw [← hxx] at g0 g1 g2 g3 g4 g5 g6 g7 HEK HAT
      have HLT := Hm hlt
      clear hxx hx
      obtain ⟨⟨k1, ao1, av1, old1, b1, a1, r1, fl1⟩, ba1, bc1, aa1, ac1, ra1, rc1⟩ := x
      unfold EL.agg at HEK
      simp only at g0 g1 g2 g3 g4 g5 g6 g7 HEK HAT
      obtain ⟨E, hEE⟩ : ∃ E, E = evE ⟨k1, ao1, av1, old1, b1, a1, r1, fl1⟩ (ps.map RR.r) := ⟨_, rfl⟩
      rw [← hEE] at HEK HAT
      clear hEE
      by_cases hE0 : E = 0
      · subst hE0
        go_wp2_with (go_at_call 61; refine (HEK.out _ (hE.out.trans (by exact eX))).mono ?_; rintro e w2 ⟨rfl, hb2⟩)
        go_roundw
        case rel => exact ⟨k + 1, by omega, by go_num, Hm (fun j hj => by
          by_cases e : j = k
          · subst e; exact HAT.out
          · exact hz.out j (by omega)), Hm (hE.out.trans (by exact eX))⟩
        case measure => simp [intOf]; omega
      · have hE1 : (E != 0) = true := by simpa using hE0
        have HR := Hm (rt_bad (t := (⟨xid, st, es.map EL.e⟩ : Tx)) (l := ps.map RR.r) H0.out HL5.out (by simpa using HLT.out) hz.out (by rw [show (⟨xid, st, es.map EL.e⟩ : Tx).es = es.map EL.e from rfl, HAT.out]; exact hE0))
        rw [show (⟨xid, st, es.map EL.e⟩ : Tx).es = es.map EL.e from rfl, HAT.out] at HR
        clear hE0
        go_wp2_with (go_at_call 61; refine (HEK.out _ (hE.out.trans (by exact eX))).mono ?_; rintro e w2 ⟨rfl, hb2⟩)
        go_ret2
        exact ⟨by rw [HR.out.1, HR.out.2]; rfl, hE.out.trans (by exact eX)⟩
    · have HR := Hm (rt_ok (t := (⟨xid, st, es.map EL.e⟩ : Tx)) (l := ps.map RR.r) H0.out HL5.out (fun j hj => hz.out j (by simp at hj; omega)))
      go_wp2
      go_ret2
      exact ⟨by rw [HR.out.1, HR.out.2]; rfl, hE.out⟩
theorem digit_slice : ∀ r, r < 10 → (⟨#[48, 49, 50, 51, 52, 53, 54, 55, 56, 57]⟩ : ByteArray).extract r (r + 1) = txt [UInt8.ofNat (48 + r)] := by
  intro r h
  match r, h with
  | 0, _ => rfl
  | 1, _ => rfl
  | 2, _ => rfl
  | 3, _ => rfl
  | 4, _ => rfl
  | 5, _ => rfl
  | 6, _ => rfl
  | 7, _ => rfl
  | 8, _ => rfl
  | 9, _ => rfl
theorem txt_size (l : List UInt8) : (txt l).size = l.length := by unfold txt; simp [ByteArray.size]
theorem rnum_any (n : Nat) (w : World) (hn : n < 18446744073709551616) :
    Calls Tryz.prog 137 #[.int .u64 n] w fun e w' => e = .returned (.string (txt (Lib.decDigits n))) ∧ w = w' := by
  have HN : Hid ((Lib.decDigits n).length ≤ 21) := Hm (dec_len64 hn)
  go_enter Tryz.func137, Tryz.ntmps137
  go_wp2
  go_loop [0, 3] (fun a s => ∃ (m : Nat) (l : List UInt8), a = .int .u64 m ∧ s = .string (txt l) ∧ m < 18446744073709551616 ∧ Hid (Lib.decDigits n = Lib.decDigits m ++ l)) (fun a _ => (intOf a).toNat)
  case atStart => exact ⟨n, [], rfl, rfl, hn, Hm (by rw [List.append_nil])⟩
  case round =>
    obtain ⟨m, l, rfl, rfl, hm, hd⟩ := hrel
    have hsz : (txt l).size ≤ 21 := by
      have h := HN.out
      rw [hd.out, List.length_append] at h
      rw [txt_size]; omega
    by_cases h9 : m ≤ 9
    · have HR := Hm (show (⟨#[48, 49, 50, 51, 52, 53, 54, 55, 56, 57]⟩ : ByteArray).extract m (m + 1) ++ txt l = txt (Lib.decDigits n) by rw [digit_slice m (by omega), txt_app, hd.out, dec_lt (by omega)])
      go_wp2
      go_ret
      exact ⟨by rw [← HR.out]; rfl, rfl⟩
    · have HR := Hm (show (⟨#[48, 49, 50, 51, 52, 53, 54, 55, 56, 57]⟩ : ByteArray).extract (m % 10) (m % 10 + 1) ++ txt l = txt ([UInt8.ofNat (48 + m % 10)] ++ l) by rw [digit_slice (m % 10) (by omega), txt_app])
      have HL := Hm (dec_ge (n := m) (by omega))
      go_wp2
      go_round
      case rel => exact ⟨m / 10, [UInt8.ofNat (48 + m % 10)] ++ l, by rw [show ((m / 10 : Nat) : Int) = (m : Int) / 10 by omega], by rw [HR.out], by omega, Hm (by rw [hd.out, HL.out, List.append_assoc])⟩
      case measure => simp [intOf]; omega
theorem rsigned_any (v : Int) (w : World) (h0 : -9223372036854775808 ≤ v) (h1 : v ≤ 9223372036854775807) :
    Calls Tryz.prog 106 #[.int .i64 v] w fun e w' => e = .returned (.string (txt (Lib.itoa v))) ∧ w = w' := by
  by_cases hv : v < 0
  · have HL := Hm (show txt [45] ++ txt (Lib.decDigits v.natAbs) = txt (Lib.itoa v) by unfold Lib.itoa; rw [if_pos hv, txt_app]; rfl)
    have HZ : Hid ((txt (Lib.decDigits v.natAbs)).size ≤ 21) := Hm (by rw [txt_size]; exact dec_len64 (by omega))
    have HC := Hm (fun W => rnum_any v.natAbs W (by omega))
    have HE : Hid ((v.natAbs : Int) = -(v + 1) + 1) := Hm (by omega)
    rw [HE.out] at HC
    obtain ⟨D, hD⟩ : ∃ D, D = txt (Lib.decDigits v.natAbs) := ⟨_, rfl⟩
    rw [← hD] at HL HC HZ
    clear hD
    have hz := HZ.out
    go_enter Tryz.func106, Tryz.ntmps106
    go_wp2_with (go_at_call 137; refine (HC.out _).mono ?_; rintro e w1 ⟨rfl, rfl⟩)
    go_ret
    exact ⟨by rw [← HL.out]; rfl, rfl⟩
  · have HL := Hm (show txt (Lib.decDigits v.toNat) = txt (Lib.itoa v) by unfold Lib.itoa; rw [if_neg hv])
    have HC := Hm (fun W => rnum_any v.toNat W (by omega))
    have HE : Hid ((v.toNat : Int) = v) := Hm (by omega)
    rw [HE.out] at HC
    go_enter Tryz.func106, Tryz.ntmps106
    go_wp2_with (go_at_call 137; refine (HC.out _).mono ?_; rintro e w1 ⟨rfl, rfl⟩)
    go_ret
    exact ⟨by rw [← HL.out]; rfl, rfl⟩
end Go.Proofs.YtdlhaidlokkmnaaGreatDoor
