/-
The walk of TotalColumns.
-/
import Derived.Test.YtdbepkfblfhlhaaP16
import Derived.Test.YtdbepkfblfhlhaaColsW
import Derived.Test.YtdbepkfblfhlhaaColsR
import Derived.Test.YtdbepkfblfhlhaaLike
import Derived.Test.YtdbepkfblfhlhaaAwake23
import Derived.Maps.AppendAt
namespace Go.Proofs.Ytdbepkfblfhlhaa
open Go.RowKit

theorem Try.infoRowT : (Try.prog.info? 33).map (fun i => (i.zero, i.size, i.bytes)) = some (some (.slice none 0 0), 1, 24) := by kernel_rfl
theorem nilRowC (w : World) : Sl w (.slice none 0 0) 6 (([] : List K).map K.rc) := ⟨none, 0, rfl, .inl rfl⟩
theorem Sl.grownBy {w w' : World} {row : Option Nat} {a : Option Addr} {n c k : Nat} {xss : List (List Value)} (h : Sl w (.slice a n c) k xss) (hg : w.grownBy w' row) (hne : xss ≠ [] → ∀ b o, a = some ⟨b, o, none⟩ → row ≠ some b) : Sl w' (.slice a n c) k xss := by
  obtain ⟨a', c', hv, h⟩ := h
  simp only [Value.slice.injEq] at hv
  obtain ⟨rfl, rfl, rfl⟩ := hv
  rcases h with h | ⟨b, o, rfl, hb, hc⟩
  · exact ⟨_, _, rfl, .inl h⟩
  · by_cases h0 : xss = []
    · exact ⟨_, _, rfl, .inl h0⟩
    · have hh := hg.block b hb (fun e => hne h0 b o rfl e.symm)
      have hlt : b < w'.heap.size := Nat.lt_of_lt_of_le hb hg.size
      refine ⟨_, _, rfl, .inr ⟨b, o, rfl, hlt, fun i hi j hj => ?_⟩⟩
      rw [← hc i hi j hj]
      unfold World.cell?
      simp only [hh]
theorem owns_lt7 {w : World} {base : Nat} {e : TypeId} {size n : Nat} {v : Value} {xs : List Value} (h : w.ownsRow base e size v n xs) {g : Nat} (hg : v.ownBlock = some g) : g < w.heap.size := by
  rcases h.2 with ⟨rfl, _⟩ | ⟨g', cap, cur, rfl, hb, hh, hr⟩
  · simp [Value.ownBlock] at hg
  · simp [Value.ownBlock] at hg; subst hg; exact Blk.lt (b := g') hh

/-- Rows of the call's own, in a row of its own. -/
structure OwnAt (W : World) (N : Nat) (ps : List PR) (k : Nat) (v : Value) (qs : List PR) : Prop where
  own : W.ownsRow N 33 1 v k (qs.map PR.cell).flatten
  len : qs.length = k
  l : ∀ i (h : i < qs.length) (h2 : i < ps.length), qs[i].l = ps[i].l
  sl : ∀ q ∈ qs, Sl W (.slice q.a q.l.length q.c) 5 (q.l.map K.pc)
  ne : ∀ q ∈ qs, q.l ≠ [] → ∀ b o, q.a = some ⟨b, o, none⟩ → v.ownBlock ≠ some b ∧ b < W.heap.size
theorem OwnAt.nil (W : World) (N : Nat) (ps : List PR) : OwnAt W N ps 0 (.slice none 0 0) [] :=
  ⟨World.ownsRow_nil _ _ _ _, rfl, (fun i h => absurd h (Nat.not_lt_zero _)), (fun q h => by cases h), (fun q h => by cases h)⟩
theorem OwnAt.ext {W W' : World} {N k : Nat} {ps qs : List PR} {v : Value} (h : OwnAt W N ps k v qs) (he : Ext W W') : OwnAt W' N ps k v qs :=
  ⟨owns_ext h.own he, h.len, h.l, fun q hq => (h.sl q hq).ext he, fun q hq h0 b o e => ⟨(h.ne q hq h0 b o e).1, Nat.lt_of_lt_of_le (h.ne q hq h0 b o e).2 he.size⟩⟩
theorem OwnAt.push {W W' : World} {N k : Nat} {ps qs : List PR} {v v' : Value} {q : PR} (h : OwnAt W N ps k v qs) (hk : k < ps.length) (hl : q.l = ps[k].l) (hs : Sl W (.slice q.a q.l.length q.c) 5 (q.l.map K.pc)) (hn : q.l ≠ [] → ∀ b o, q.a = some ⟨b, o, none⟩ → v.ownBlock ≠ some b ∧ b < W.heap.size)
    (hg : W.grownBy W' v.ownBlock) (hat : v'.ownBlock = v.ownBlock ∨ v'.ownBlock = some W.heap.size) (ho : W'.ownsRow N 33 1 v' (k + 1) ((qs.map PR.cell).flatten ++ q.cell)) : OwnAt W' N ps (k + 1) v' (qs ++ [q]) := by
  have hne : ∀ x ∈ qs ++ [q], x.l ≠ [] → ∀ b o, x.a = some ⟨b, o, none⟩ → v.ownBlock ≠ some b ∧ b < W.heap.size := fun x hx => by
    rcases List.mem_append.1 hx with hx | hx
    · exact h.ne x hx
    · obtain rfl : x = q := by simpa using hx
      exact hn
  refine ⟨by simpa using ho, by rw [List.length_append, h.len]; rfl, fun i h1 h2 => ?_, fun x hx => ?_, fun x hx h0 b o e => ?_⟩
  · by_cases hi : i < qs.length
    · rw [List.getElem_append_left hi]; exact h.l i hi h2
    · have hql := h.len
      rw [List.length_append, List.length_singleton] at h1
      obtain rfl : i = k := by omega
      rw [List.getElem_append_right (by omega)]
      simpa using hl
  · have h1 : Sl W (.slice x.a x.l.length x.c) 5 (x.l.map K.pc) := by
      rcases List.mem_append.1 hx with hx | hx
      · exact h.sl x hx
      · obtain rfl : x = q := by simpa using hx
        exact hs
    refine h1.grownBy hg fun h0 b o e => (hne x hx (fun h2 => h0 (by rw [h2]; rfl)) b o e).1
  · obtain ⟨h1, h2⟩ := hne x hx h0 b o e
    refine ⟨?_, Nat.lt_of_lt_of_le h2 hg.size⟩
    rcases hat with h3 | h3
    · rw [h3]; exact h1
    · rw [h3]; intro h4; injection h4 with h4; omega
theorem OwnAt.maps {W : World} {N k : Nat} {ps qs : List PR} {v : Value} (h : OwnAt W N ps k v qs) (hk : k = ps.length) : qs.map PR.l = ps.map PR.l := by
  apply List.ext_getElem
  · rw [List.length_map, List.length_map, h.len, hk]
  · intro i h1 h2
    rw [List.getElem_map, List.getElem_map]
    rw [List.length_map] at h1 h2
    exact h.l i h1 h2

/-- Both tell the same sums. -/
def BothOk (W : World) (v1 v2 : Value) : Prop := ∃ (x : Option Addr) (c : Nat) (y : Option Addr) (d : Nat) (ts : List T) (ss : List S), v1 = .slice x ts.length c ∧ v2 = .slice y ts.length d ∧ Sl W (.slice x ts.length c) 6 (ts.map T.cells) ∧ Sl W (.slice y ts.length d) 7 (ss.map S.rc) ∧ ss.length = ts.length ∧
  (∀ i (h1 : i < ts.length) (h2 : i < ss.length), ts[i].s = ss[i] ∧ ts[i].ok ∧ ts[i].s.re.natAbs < 2 ^ 52 ∧ ts[i].s.im.natAbs < 2 ^ 52) ∧ ts.length ≤ 1000
theorem both_ok {W : World} {v1 v2 : Value} {E : Int} {n : Nat} {ls : List (List K)} (hls : ls.length ≤ 20) (hn : n ≤ 1000) (h1 : E ≠ 0 → v1 = .slice none 0 0) (h2 : E = 0 → ∃ g cap ts, v1 = .slice (some ⟨g, 0, none⟩) n cap ∧ ColsAt ls n ls.length 0 ts ∧ SumAt W g ts)
    (k1 : E ≠ 0 → v2 = .slice none 0 0) (k2 : E = 0 → ∃ a cap, v2 = .slice a n cap ∧ Sl W v2 7 ((colsL ls n).map S.rc)) : BothOk W v1 v2 := by
  by_cases h0 : E = 0
  · obtain ⟨g, cap, ts, rfl, hc, hs⟩ := h2 h0
    obtain ⟨a, cap2, rfl, hl⟩ := k2 h0
    have htn := hc.len
    refine ⟨_, cap, a, cap2, ts, colsL ls n, by rw [htn], by rw [htn], hs.sl cap, by rw [htn]; exact hl, by rw [colsL_len, htn], fun i q1 q2 => ?_, by omega⟩
    have e1 := hc.s i q1
    rw [if_neg (Nat.not_lt_zero _)] at e1
    have hsm := colUp_small ls i ls.length
    refine ⟨by rw [e1, colsL_get], hc.ok i q1, ?_, ?_⟩
    · rw [e1]; omega
    · rw [e1]; omega
  · rw [h1 h0, k1 h0]
    exact ⟨none, 0, none, 0, [], [], rfl, rfl, ⟨none, 0, rfl, .inl rfl⟩, ⟨none, 0, rfl, .inl rfl⟩, rfl, (fun i h => absurd h (Nat.not_lt_zero _)), Nat.zero_le _⟩
theorem S.rcAt {w wr : World} {b o : Nat} {l : List S} {k : Nat} (hk : k < l.length) (hc : ∀ j, j < 7 → w.cell? ⟨b, o + k * 7 + j, none⟩ = ((l.map S.rc).getD k [])[j]?) (hb : b < w.heap.size) (hE : Ext w wr) :
    wr.cell? ⟨b, o + k * 7, none⟩ = some (.int .i64 (wrap64 l[k].c)) ∧ wr.cell? ⟨b, o + k * 7 + 1, none⟩ = some (.int .i64 (wrap64 l[k].n)) ∧ wr.cell? ⟨b, o + k * 7 + 2, none⟩ = some (.int .i64 (wrap64 l[k].o)) ∧ wr.cell? ⟨b, o + k * 7 + 3, none⟩ = some (.int .i64 (wrap64 l[k].b)) ∧
    wr.cell? ⟨b, o + k * 7 + 4, none⟩ = some (.int .i64 (wrap64 l[k].i)) ∧ wr.cell? ⟨b, o + k * 7 + 5, none⟩ = some (.int .i64 (wrap64 l[k].re)) ∧ wr.cell? ⟨b, o + k * 7 + 6, none⟩ = some (.int .i64 (wrap64 l[k].im)) := by
  rw [getD_map S.rc l hk] at hc
  have c := hE.cells.1 b
  exact ⟨(c _ hb).trans (hc 0 (by omega)), (c _ hb).trans (hc 1 (by omega)), (c _ hb).trans (hc 2 (by omega)), (c _ hb).trans (hc 3 (by omega)), (c _ hb).trans (hc 4 (by omega)), (c _ hb).trans (hc 5 (by omega)), (c _ hb).trans (hc 6 (by omega))⟩
theorem T.at6 {w wr : World} {b o : Nat} {l : List T} {k : Nat} (hk : k < l.length) (hc : ∀ j, j < 6 → w.cell? ⟨b, o + k * 6 + j, none⟩ = ((l.map T.cells).getD k [])[j]?) (hb : b < w.heap.size) (hE : Ext w wr) :
    wr.cell? ⟨b, o + k * 6, none⟩ = some (.int .i64 (wrap64 l[k].s.c)) ∧ wr.cell? ⟨b, o + k * 6 + 1, none⟩ = some (.int .i64 (wrap64 l[k].s.n)) ∧ wr.cell? ⟨b, o + k * 6 + 2, none⟩ = some (.int .i64 (wrap64 l[k].s.o)) ∧ wr.cell? ⟨b, o + k * 6 + 3, none⟩ = some (.int .i64 (wrap64 l[k].s.b)) ∧
    wr.cell? ⟨b, o + k * 6 + 4, none⟩ = some (.int .i64 (wrap64 l[k].s.i)) ∧ wr.cell? ⟨b, o + k * 6 + 5, none⟩ = some (.complex .f64 l[k].x l[k].y) := by
  rw [getD_map T.cells l hk] at hc
  have c := hE.cells.1 b
  exact ⟨(c _ hb).trans (hc 0 (by omega)), (c _ hb).trans (hc 1 (by omega)), (c _ hb).trans (hc 2 (by omega)), (c _ hb).trans (hc 3 (by omega)), (c _ hb).trans (hc 4 (by omega)), (c _ hb).trans (hc 5 (by omega))⟩

set_option maxRecDepth 100000 in set_option maxHeartbeats 8000000 in
theorem totcols_any (oid ver : Int) (nm : ByteArray) (id : Int) (cols : List Col) (a2 : Option Addr) (cap2 : Nat) (ps : List PR) (a : Option Addr) (cap : Nat) (w : World) (hl2 : Sl w (.slice a2 cols.length cap2) 3 (cols.map Col.cells)) (hlen2 : cols.length ≤ 9223372036854775807)
    (hs2 : ∀ c ∈ cols, c.nm.size ≤ 9223372036854775807) (hnm : nm.size ≤ 9223372036854775807) (hp : Sl w (.slice a ps.length cap) 1 (ps.map PR.cell)) (hpl : ∀ p ∈ ps, Sl w (.slice p.a p.l.length p.c) 6 (p.l.map K.rc) ∧ p.l.length ≤ 9223372036854775807 ∧ ∀ c ∈ p.l, c.tw) (hplen : ps.length ≤ 9223372036854775807) :
    Calls Try.prog 3 #[.agg #[.int .u32 oid, .int .u32 ver, .string nm, .int .u8 id, .slice a2 cols.length cap2], .slice a ps.length cap] w fun e w' => e = .returned (.bool true) ∧ Ext w w' := by
  obtain ⟨i0, hi, hz0, hz1, hz2⟩ := info_parts Try.infoRowT
  by_cases h20 : 20 < ps.length
  · clear hl2 hs2 hnm hp hpl hlen2
    go_enter Try.func3, Try.ntmps3
    go_wp2
    go_ret
    exact ⟨rfl, by (repeat (with_reducible (first | exact Ext.refl _ | assumption | exact held_left (by assumption) | apply Ext.drewN | apply Ext.drew | apply Ext.alloc | (refine Ext.setCell ?_ (by first | (simp; done) | (simp; omega) | omega) _) | (refine Ext.trans ?_ (by assumption)) | (refine Ext.trans ?_ (held_left (by assumption))))))⟩
  have hn20 : ps.length ≤ 20 := by omega
  clear h20 hplen
  have HGK := Hid.mk' (fun l pa pc W (h1 : Sl W (.slice pa l.length pc) 6 (l.map K.rc)) (h2 : l.length ≤ 9223372036854775807) (h3 : ∀ c ∈ l, K.tw c) (h : Ext w W) => greatK_any l pa pc oid ver nm id cols a2 cap2 W h1 (hl2.ext h) h2 hlen2 (fun c hc => (h3 c hc).s) hs2 hnm)
  have HO8 := Hid.mk' (fun W (h : Ext w W) (hn : cols.length ≤ 1000) => own8_new oid ver nm id cols a2 cap2 W (hl2.ext h) hn)
  have HCO := Hid.mk' (fun a3 c3 qs ao co W (h1 : Sl W (.slice a3 cols.length c3) 3 (cols.map Col.cells)) (h2 : cols.length ≤ c3) (h3 : cols.length ≤ 1000) h4 h5 h6 => cols_any oid ver nm id cols a3 c3 qs ao co W h1 h2 h3 hs2 hnm h4 h5 h6)
  have HRC := Hid.mk' (fun W (h : Ext w W) (h3 : cols.length ≤ 1000) (h5 : ∀ p ∈ ps, p.l.length ≤ 1000) => rcols_any oid ver nm id cols a2 cap2 ps a cap W (hl2.ext h) h3 hs2 hnm (hp.ext h) (fun p hq => ⟨(hpl p hq).1.ext h, h5 p hq, (hpl p hq).2.2⟩) hn20)
  have HP := Hid.mk' hp
  have HPL := Hid.mk' hpl
  clear hl2 hs2 hnm hp hpl
  go_enter Try.func3, Try.ntmps3
  go_wp2
  go_loopg [5, 6] ps.length (fun z v i wr => ∃ (k : Nat) (qs : List PR), z + k = ps.length ∧ i = .int .i64 k ∧ Hid (OwnAt wr (w.alloc (.cells #[.int .u32 oid, .int .u32 ver, .string nm, .int .u8 id, .slice a2 cols.length cap2] 27)).heap.size ps k v qs) ∧ Hid (∀ i (h : i < ps.length), i < k → ps[i].l.length ≤ 20) ∧ Hid (Ext (w.alloc (.cells #[.int .u32 oid, .int .u32 ver, .string nm, .int .u8 id, .slice a2 cols.length cap2] 27)) wr))
  case atStart => exact ⟨0, [], by omega, rfl, Hid.mk' (OwnAt.nil _ _ _), Hid.mk' (fun i h h2 => by omega), Hid.mk' (Ext.refl _)⟩
  case round =>
    obtain ⟨k, qs, hzk, rfl, hown, h20s, hE⟩ := hrel
    have hEw : Ext w wr := ((Ext.refl w).alloc _).trans hE.out
    have HB := Hid.mk' ((Blk.new w #[.int .u32 oid, .int .u32 ver, .string nm, .int .u8 id, .slice a2 cols.length cap2] 27).ext hE.out)
    have g0 := HB.out.cell
    have z0 := HB.out.lt
    by_cases hlt : k < ps.length
    · obtain ⟨b, o, rfl, hb, hx⟩ := HP.out.at_ (i := k) (by simpa using hlt)
      have f0 := PR.at_ hlt hx hb hEw
      obtain ⟨hsl, hl1, htw⟩ := HPL.out ps[k] (List.getElem_mem hlt)
      obtain ⟨⟨pl, pa, pc⟩, hpe⟩ : ∃ p, p = ps[k] := ⟨_, rfl⟩
      rw [← hpe] at f0 hsl hl1 htw
      simp only at f0 hsl hl1 htw
      have hbw : b < wr.heap.size := Nat.lt_of_lt_of_le hb hEw.size
      have HG := Hid.mk' (fun W (h : Ext w W) => HGK.out pl pa pc W (hsl.ext h) hl1 htw h)
      have HOW := Hid.mk' (fun W (h : Ext w W) (hm : pl.length ≤ 1000) => ownK_new pl pa pc W (hsl.ext h) hm)
      have HPE := Hid.mk' hpe
      have HEw := Hid.mk' hEw
      clear hsl hl1 htw hpe hx hEw
      go_wp2
      go_region_held3 (fun w' => Ext (wr) w' ∧ (∀ b o, b < (wr).heap.size → w'.cell? ⟨b, o, none⟩ = (wr).cell? ⟨b, o, none⟩) ∧ (∀ b o, b < (wr).heap.size → w'.frozen? ⟨b, o, none⟩ = (wr).frozen? ⟨b, o, none⟩)) ((exact held_of (by (repeat (with_reducible (first | exact Ext.refl _ | assumption | exact held_left (by assumption) | apply Ext.drewN | apply Ext.drew | apply Ext.alloc | (refine Ext.setCell ?_ (by first | (simp; done) | (simp; omega) | omega) _) | (refine Ext.trans ?_ (by assumption)) | (refine Ext.trans ?_ (held_left (by assumption))))))))) (first | (go_at_call 14; refine (HG.out _ (HEw.out.trans (by (repeat (with_reducible (first | exact Ext.refl _ | assumption | exact held_left (by assumption) | apply Ext.drewN | apply Ext.drew | apply Ext.alloc | (refine Ext.setCell ?_ (by first | (simp; done) | (simp; omega) | omega) _) | (refine Ext.trans ?_ (by assumption)) | (refine Ext.trans ?_ (held_left (by assumption))))))))).mono ?_; rintro e w2 ⟨g', rfl, hg', hb2⟩; have HGB := Hid.mk' hg'; clear hg'))
      cases g' with
      | true =>
        go_wp2
        go_ret
        exact ⟨rfl, HEw.out.trans (by (repeat (with_reducible (first | exact Ext.refl _ | assumption | exact held_left (by assumption) | apply Ext.drewN | apply Ext.drew | apply Ext.alloc | (refine Ext.setCell ?_ (by first | (simp; done) | (simp; omega) | omega) _) | (refine Ext.trans ?_ (by assumption)) | (refine Ext.trans ?_ (held_left (by assumption)))))))⟩
      | false =>
        have hl20 : pl.length ≤ 20 := (HGB.out (by first | exact rfl | exact trivial)).2.2.1
        have HEr2 := Hid.mk' (show Ext wr w2 by (repeat (with_reducible (first | exact Ext.refl _ | assumption | exact held_left (by assumption) | apply Ext.drewN | apply Ext.drew | apply Ext.alloc | (refine Ext.setCell ?_ (by first | (simp; done) | (simp; omega) | omega) _) | (refine Ext.trans ?_ (by assumption)) | (refine Ext.trans ?_ (held_left (by assumption)))))))
        have z2 := HEr2.out.size
        obtain ⟨hc2, hf2⟩ := HEr2.out.cells
        clear hb2 HGB HG
        go_wp2_with (first
          | (go_at_call 15; refine (HOW.out _ (HEw.out.trans HEr2.out) (by omega)).mono ?_; rintro e w3 ⟨a', c', rfl, -, hs3, hfr, hb3⟩; have HS3 := Hid.mk' hs3; have HFR := Hid.mk' hfr; have HE3 := Hid.mk' (HEr2.out.trans hb3); clear hs3 hfr hb3)
          | (at_builtin; refine wpList_append_own_at _ rfl _ _ 29 rfl (w.alloc (.cells #[.int .u32 oid, .int .u32 ver, .string nm, .int .u8 id, .slice a2 cols.length cap2] 27)).heap.size 33 i0 _ 1 24 Try.underlying29 hi hz0 hz1 hz2 rfl (by decide) _ _ _ rfl (owns_ext hown.out.own (HE3.out.alloc _)) ⟨_, 0, none⟩ 1 1 (PR.cell ⟨pl, a', c'⟩) rfl rfl ?c1 ?c2 ?c3 ?c4 ?c5 ?_))
        case c1 => exact cells_new _ #[.slice a' pl.length c'] _
        case c2 => intro u hu; simp [PR.cell, PR.val] at hu; subst hu; rfl
        case c3 => unfold maxLen; omega
        case c4 => omega
        case c5 => have := hE.out.size; have := HE3.out.size; simp at *; omega
        intro v' w4 hown' hgrow _ hat
        have hE3' : Ext (w.alloc (.cells #[.int .u32 oid, .int .u32 ver, .string nm, .int .u8 id, .slice a2 cols.length cap2] 27)) (w3.alloc (.cells #[.slice a' pl.length c'] 33)) := (hE.out.trans HE3.out).alloc _
        have HE4 := Hid.mk' (Ext.grown hE3' (owns_ext hown.out.own (HE3.out.alloc _)) hgrow)
        have HOK := Hid.mk' ((hown.out.ext (HE3.out.alloc (.cells #[.slice a' pl.length c'] 33))).push (q := ⟨pl, a', c'⟩) hlt (by rw [← HPE.out]) (HS3.out.ext ((Ext.refl w3).alloc _)) (fun h0 b o e => by
          refine ⟨fun h4 => ?_, ?_⟩
          · have h5 := owns_lt7 hown.out.own h4
            have h6 := HFR.out b o e
            omega
          · obtain ⟨b', o', e', hb', -⟩ := HS3.out.at_ (i := 0) (by rw [List.length_map]; exact List.length_pos_iff.2 h0)
            have e2 : a' = some ⟨b, o, none⟩ := e
            rw [e2] at e'
            cases e'
            simp; omega) hgrow (by rw [World.size_alloc]; exact hat) (by rw [World.size_alloc]; exact hown'))
        have H20 := Hid.mk' (fun i (h : i < ps.length) (h2 : i < k + 1) => show ps[i].l.length ≤ 20 by
          by_cases e : i = k
          · subst e; rw [← HPE.out]; exact hl20
          · exact h20s.out i h (by omega))
        clear hown' hgrow hat hE3' hown h20s hE
        go_wp2
        go_roundg (ps.length - (k + 1))
        case measure => omega
        case rel => exact ⟨k + 1, _, by omega, by go_num, HOK, H20, HE4⟩
    · obtain rfl : k = ps.length := by omega
      have hql := hown.out.len
      have hmaps := hown.out.maps rfl
      obtain ⟨ao, co, rfl⟩ := owns_shape hown.out.own
      have hslo : Sl wr (.slice ao ps.length co) 1 (qs.map PR.cell) := Sl.of_owns (base := (w.alloc (.cells #[.int .u32 oid, .int .u32 ver, .string nm, .int .u8 id, .slice a2 cols.length cap2] 27)).heap.size) (e := 33) (by rw [List.length_map, hql]; exact hown.out.own) (by intro xs hxs; simp at hxs; obtain ⟨_, _, rfl⟩ := hxs; rfl)
      have HQ : Hid (∀ q ∈ qs, q.l.length ≤ 1000 ∧ ∀ c ∈ q.l, c.tw) := Hid.mk' (fun q hq => by
        obtain ⟨i, hi, rfl⟩ := List.getElem_of_mem hq
        have hi2 : i < ps.length := by omega
        have e := hown.out.l i hi hi2
        have := h20s.out i hi2 hi2
        rw [e]
        exact ⟨by omega, (HPL.out _ (List.getElem_mem hi2)).2.2⟩)
      have HPS : Hid (∀ p ∈ ps, p.l.length ≤ 1000) := Hid.mk' (fun p hp => by
        obtain ⟨i, hi, rfl⟩ := List.getElem_of_mem hp
        have := h20s.out i hi hi
        omega)
      have HCO2 := Hid.mk' (fun a3 c3 W h1 h2 h3 h4 h5 h6 => HCO.out a3 c3 qs ao co W h1 h2 h3 h4 h5 h6)
      rw [hql, hmaps] at HCO2
      unfold ColPost at HCO2
      unfold RColPost at HRC
      obtain ⟨E, hEE⟩ : ∃ E, E = colsE (ps.map PR.l) (⟨oid, ver, nm, id, cols⟩ : Rl) := ⟨_, rfl⟩
      rw [← hEE] at HCO2 HRC
      have HSLO := Hid.mk' hslo
      have HEw := Hid.mk' hEw
      have HOWN := hown
      have hls20 : (ps.map PR.l).length ≤ 20 := by rw [List.length_map]; exact hn20
      clear hql hmaps hslo hEE hown h20s hlt hEw
      go_upto_region 12 with (first | (go_at_call 14; refine (HGK.out [] none 0 _ (nilRowC _) (Nat.zero_le _) (fun c hc => by cases hc) HEw.out).mono ?_; rintro e w2 ⟨g', rfl, hg', hb2⟩; have HGB := Hid.mk' hg'; clear hg'; cases g'))
      all_goals try (go_ret; exact ⟨rfl, HEw.out.trans hb2⟩)
      have hn20c : cols.length ≤ 20 := (HGB.out (by first | exact rfl | exact trivial)).2.2.2.1
      have HE2 := Hid.mk' (HEw.out.trans hb2)
      have HB2 := Hid.mk' hb2
      have g2 := (HB.out.ext hb2).cell
      clear HGB hb2 g0
      go_upto_region 13 with (first
        | (go_at_call 17; refine (HO8.out _ HE2.out (by omega)).mono ?_; rintro e w3 ⟨a3, cap3, rfl, h3, hs3, -, hb3⟩; have HS3 := Hid.mk' hs3; have HE3 := Hid.mk' (HB2.out.trans hb3); clear hs3 hb3)
        | (go_at_call 16; refine (HCO2.out a3 cap3 _ HS3.out h3 (by omega) (HSLO.out.ext HE3.out) (fun q hq => ⟨(HOWN.out.ext HE3.out).sl q hq, HQ.out q hq⟩) hn20).mono ?_; rintro e w4 ⟨v1, rfl, q1, q2, hb4⟩; have HQ1 := Hid.mk' q1; have HQ2 := Hid.mk' q2; have HE4 := Hid.mk' (HE3.out.trans hb4); clear q1 q2 hb4))
      have g4 := (HB.out.ext HE4.out).cell
      clear g2
      go_upto_region 14 with (first
        | (go_at_call 18; refine (HRC.out _ (HEw.out.trans HE4.out) (by omega) HPS.out).mono ?_; rintro e w5 ⟨v2, rfl, k1, k2, hb5⟩; have HBO := Hid.mk' (both_ok hls20 (by omega : cols.length ≤ 1000) HQ1.out (fun h => by obtain ⟨g, cp, ts, e1, e2, e3⟩ := HQ2.out h; exact ⟨g, cp, ts, e1, e2, e3.ext hb5⟩) k1 k2); have HE5 := Hid.mk' (HEw.out.trans (HE4.out.trans hb5)); clear k1 k2 hb5))
      obtain ⟨x, xc, y, yc, ts, ss, rfl, rfl, hst, hss, hle, hall, hts⟩ := HBO.out
      have HST := Hid.mk' hst
      have HSS := Hid.mk' hss
      have HLE := Hid.mk' hle
      have HALL := Hid.mk' hall
      clear HBO HQ1 HQ2 g4 hst hss hle hall
      go_wp2
      go_loopg [11] ts.length (fun z i wr => ∃ (q : Nat), z + q = ts.length ∧ i = .int .i64 q ∧ Hid (Ext w5 wr))
      case atStart => exact ⟨0, by omega, rfl, Hid.mk' (Ext.refl _)⟩
      case round =>
        rename World => w6
        obtain ⟨q, hzq, rfl, hE6⟩ := hrel
        by_cases hq : q < ts.length
        · have hq2 : q < ss.length := by have := HLE.out; omega
          obtain ⟨b1, o1, rfl, hb1, hx1⟩ := HST.out.at_ (i := q) (by simpa using hq)
          obtain ⟨b2, o2, rfl, hb2, hx2⟩ := HSS.out.at_ (i := q) (by simpa using hq2)
          obtain ⟨f0, f1, f2, f3, f4, f5⟩ := T.at6 hq hx1 hb1 hE6.out
          obtain ⟨p0, p1, p2, p3, p4, p5, p6⟩ := S.rcAt hq2 hx2 hb2 hE6.out
          obtain ⟨hs, hok, hr, hi2⟩ := HALL.out q hq hq2
          rw [← hs] at p0 p1 p2 p3 p4 p5 p6
          have hbw1 : b1 < w6.heap.size := Nat.lt_of_lt_of_le hb1 hE6.out.size
          have hbw2 : b2 < w6.heap.size := Nat.lt_of_lt_of_le hb2 hE6.out.size
          obtain ⟨t, ht⟩ : ∃ t, t = ts[q] := ⟨_, rfl⟩
          rw [← ht] at f0 f1 f2 f3 f4 f5 p0 p1 p2 p3 p4 p5 p6 hok hr hi2
          have HLK := Hid.mk' (fun W => like_any t.s t.x t.y W hok hr hi2)
          clear hs hok hr hi2 ht hx1 hx2
          go_wp2
          go_region_held3 (fun w' => Ext (w6) w' ∧ (∀ b o, b < (w6).heap.size → w'.cell? ⟨b, o, none⟩ = (w6).cell? ⟨b, o, none⟩) ∧ (∀ b o, b < (w6).heap.size → w'.frozen? ⟨b, o, none⟩ = (w6).frozen? ⟨b, o, none⟩)) ((exact held_of (by (repeat (with_reducible (first | exact Ext.refl _ | assumption | exact held_left (by assumption) | apply Ext.drewN | apply Ext.drew | apply Ext.alloc | (refine Ext.setCell ?_ (by first | (simp; done) | (simp; omega) | omega) _) | (refine Ext.trans ?_ (by assumption)) | (refine Ext.trans ?_ (held_left (by assumption))))))))) (first | (go_at_call 19; refine (HLK.out _).mono ?_; rintro e w7 ⟨rfl, hb7⟩))
          go_wp2
          go_roundg (ts.length - (q + 1))
          case measure => omega
          case rel => exact ⟨q + 1, by omega, by go_num, Hid.mk' (hE6.out.trans (by (repeat (with_reducible (first | exact Ext.refl _ | assumption | exact held_left (by assumption) | apply Ext.drewN | apply Ext.drew | apply Ext.alloc | (refine Ext.setCell ?_ (by first | (simp; done) | (simp; omega) | omega) _) | (refine Ext.trans ?_ (by assumption)) | (refine Ext.trans ?_ (held_left (by assumption))))))))⟩
        · obtain rfl : q = ts.length := by omega
          have HEW := Hid.mk' (HE5.out.trans hE6.out)
          have HVO : Hid (∀ W, Calls Try.prog 21 #[.agg #[.int .u8 0, .int .i64 0, .int .u64 0, .int .u64 0, .string ⟨#[]⟩]] W fun e w' => e = .returned (.agg #[.int .u8 0, .int .i64 0, .complex .f64 0 0, .string ⟨#[]⟩]) ∧ Ext W w') := Hid.mk' (fun W => vown_any 0 0 0 0 ⟨#[]⟩ W)
          have HVS := Hid.mk' (fun W => vsame_any 0 0 0 0 ⟨#[]⟩ 0 0 0 0 ⟨#[]⟩ W)
          have hs0 : sameB 0 0 0 0 ⟨#[]⟩ 0 0 0 0 ⟨#[]⟩ = true := by decide
          rw [hs0] at HVS
          clear hs0 hq hE6
          go_wp2_with (first
            | (go_at_call 21; refine (HVO.out _).mono ?_; rintro e w8 ⟨rfl, hb8⟩)
            | (go_at_call 20; refine (HVS.out _).mono ?_; rintro e w9 ⟨rfl, hb9⟩)
            | (go_at_call 22; refine (awake23_any _).mono ?_; rintro e w10 ⟨rfl, hb10⟩))
          go_ret
          exact ⟨rfl, HEW.out.trans (by (repeat (with_reducible (first | exact Ext.refl _ | assumption | exact held_left (by assumption) | apply Ext.drewN | apply Ext.drew | apply Ext.alloc | (refine Ext.setCell ?_ (by first | (simp; done) | (simp; omega) | omega) _) | (refine Ext.trans ?_ (by assumption)) | (refine Ext.trans ?_ (held_left (by assumption)))))))⟩

end Go.Proofs.Ytdbepkfblfhlhaa
