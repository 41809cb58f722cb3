/-
The front of a row, what is left behind it.
-/
import Derived.Test.YtdgalkljngigeaaGreatP10
namespace Go.Proofs.YtdgalkljngigeaaGreat
open Go.RowKit

theorem Sl.front {W : World} {a : Option Addr} {n c k m : Nat} {xss : List (List Value)} (h : Sl W (.slice a n c) k xss) (hm : m ≤ n) : Sl W (.slice a m c) k (xss.take m) := by
  obtain ⟨a', c', he, hs⟩ := h
  simp only [Value.slice.injEq] at he
  obtain ⟨rfl, rfl, rfl⟩ := he
  refine ⟨a, c, by rw [List.length_take, Nat.min_eq_left hm], ?_⟩
  rcases hs with rfl | ⟨b, o, rfl, hb, hc⟩
  · left; simp
  · right
    refine ⟨b, o, rfl, hb, fun i hi j hj => ?_⟩
    rw [List.length_take] at hi
    rw [hc i (by omega) j hj, List.getD_eq_getElem?_getD, List.getD_eq_getElem?_getD, List.getElem?_take_of_lt (by omega)]
theorem Sl.behind {W : World} {b o n c k m : Nat} {xss : List (List Value)} (h : Sl W (.slice (some ⟨b, o, none⟩) n c) k xss) (hm : m ≤ n) : Sl W (.slice (some ⟨b, o + m * k, none⟩) (n - m) (c - m)) k (xss.drop m) := by
  obtain ⟨a', c', he, hs⟩ := h
  simp only [Value.slice.injEq] at he
  obtain ⟨rfl, rfl, rfl⟩ := he
  refine ⟨_, _, by rw [List.length_drop], ?_⟩
  rcases hs with rfl | ⟨b', o', e, hb, hc⟩
  · left; simp
  · simp only [Option.some.injEq, Addr.mk.injEq, and_true] at e
    obtain ⟨rfl, rfl⟩ := e
    right
    refine ⟨b, o + m * k, rfl, hb, fun i hi j hj => ?_⟩
    rw [List.length_drop] at hi
    have h2 := hc (m + i) (by omega) j hj
    rw [show o + m * k + i * k + j = o + (m + i) * k + j by rw [Nat.add_mul]; omega, h2, List.getD_eq_getElem?_getD, List.getD_eq_getElem?_getD, List.getElem?_drop]

/-- What is left behind the front, as the program cuts it. -/
theorem Sl.after {W : World} {a : Option Addr} {n c m : Nat} {xss : List (List Value)} (h : Sl W (.slice a n c) 1 xss) (hm : m ≤ n) (hc : n ≤ c) : Sl W (.slice (if c = m then a else a.map (·.add m)) (n - m) (c - m)) 1 (xss.drop m) := by
  by_cases hn : n = m
  · subst hn
    obtain ⟨a', c', he, -⟩ := h
    simp only [Value.slice.injEq] at he
    refine ⟨_, _, by rw [List.length_drop, he.2.1], .inl ?_⟩
    rw [he.2.1]; simp
  · rw [if_neg (by omega)]
    obtain ⟨a', c', he, hs⟩ := h
    simp only [Value.slice.injEq] at he
    obtain ⟨rfl, rfl, rfl⟩ := he
    rcases hs with rfl | ⟨b, o, rfl, hb, hcell⟩
    · exact absurd (show ([] : List (List Value)).length = m by simp only [List.length_nil] at hm ⊢; omega) hn
    · have := Sl.behind (W := W) (b := b) (o := o) (n := xss.length) (c := c) (k := 1) (m := m) ⟨_, _, rfl, .inr ⟨b, o, rfl, hb, hcell⟩⟩ hm
      rw [Nat.mul_one] at this
      by_cases h0 : m = 0
      · subst h0; simpa [Addr.add] using this
      · simpa [Addr.add, h0] using this

end Go.Proofs.YtdgalkljngigeaaGreat

/-
What an event of a row makes of rows: the reference's answer.
-/
namespace Go.Proofs.YtdgalkljngigeaaGreat
open Go.RowKit

theorem Tryz.infoRowR : (Tryz.prog.info? 45).map (fun i => (i.zero, i.size, i.bytes)) = some (some (.slice none 0 0), 1, 24) := by kernel_rfl
def RRowsPost (cols : List Col) (ls : List (List K)) (e0 : Ev) (w : World) (e : Ending) (w' : World) : Prop := ∃ v', e = .returned (.tuple #[v', .int .i64 (rowsE cols ls e0)]) ∧ RwR w' v' (rowsL cols ls e0) ∧ Ext w w'
theorem RRowsPost.bad {cols : List Col} {ls : List (List K)} {e0 : Ev} {w w' : World} {E : Int} (h : rowsE cols ls e0 = E) (h0 : E ≠ 0) (he : Ext w w') : RRowsPost cols ls e0 w (.returned (.tuple #[.slice none 0 0, .int .i64 E])) w' := by
  subst h
  refine ⟨_, rfl, ?_, he⟩
  unfold rowsL
  rw [if_pos h0]
  exact RwR.nil w'
theorem RRowsPost.good {cols : List Col} {ls m : List (List K)} {e0 : Ev} {w w' : World} {v' : Value} (h : rowsE cols ls e0 = 0) (hl : rowsL cols ls e0 = m) (hr : RwR w' v' m) (he : Ext w w') : RRowsPost cols ls e0 w (.returned (.tuple #[v', .int .i64 0])) w' :=
  ⟨v', by rw [h], by rw [hl]; exact hr, he⟩
theorem RwR.owns {W : World} {N : Nat} {v : Value} {qs : List PR} {ls : List (List K)} (h : W.ownsRow N 45 1 v qs.length (qs.map PR.cell).flatten) (hs : ∀ q ∈ qs, Sl W q.val 6 (q.l.map K.rc)) (hl : qs.map PR.l = ls) : RwR W v ls := by
  obtain ⟨a, c, rfl⟩ := owns_shape h
  refine ⟨a, c, qs, rfl, Sl.of_owns (base := N) (e := 45) (by rw [List.length_map]; exact h) (PR.len qs), hs, hl, ?_, TagR.owns h⟩
  rcases h.2 with ⟨h1, h2⟩ | ⟨g, cp, cur, h1, -, -, h3, -⟩
  · omega
  · simp only [Value.slice.injEq] at h1
    omega

theorem PR.ones (qs : List PR) : ∀ y ∈ (qs.map PR.cell).flatten, y.oneCell' = true := by
  intro u hu
  rw [List.mem_flatten] at hu
  obtain ⟨xs, hxs, hu⟩ := hu
  rw [List.mem_map] at hxs
  obtain ⟨c, _, rfl⟩ := hxs
  exact PR.one c u hu
theorem copied {w w3 : World} {o T T3 : Obj} (h : (((w.alloc o).alloc T).alloc T3).grownBy w3 (Value.ownBlock (.slice (some ⟨w.heap.size + 1 + 1, 0, none⟩) 0 0))) : Ext ((w.alloc o).alloc T) w3 :=
  Kp.ext ((Ext.refl _).alloc _) (fun x hx _ => by
    have hx : w.heap.size + 1 + 1 = x := by simpa [Value.ownBlock] using hx
    simp; omega) (Kp.of_grown h)
structure Boxes (W : World) (b : Nat) (rc : Array Value) (ev : Array Value) : Prop where
  r : Blk W b rc 51
  e : Blk W (b + 1) ev 85
theorem Boxes.ext {W W' : World} {b : Nat} {rc ev : Array Value} (h : Boxes W b rc ev) (he : Ext W W') : Boxes W' b rc ev := ⟨h.1.ext he, h.2.ext he⟩

set_option maxRecDepth 100000 in set_option maxHeartbeats 8000000 in
theorem rrows_ins (oid ver : Int) (nm : ByteArray) (id : Int) (cols : List Col) (a2 : Option Addr) (cap2 : Nat) (v : Value) (ls : List (List K)) (x : EL) (w : World) (hl2 : Sl w (.slice a2 cols.length cap2) 3 (cols.map Col.cells)) (hlen2 : cols.length ≤ 1000)
    (h : RwR w v ls) (hn : ls.length ≤ 1000) (hm : ∀ y ∈ ls, y.length ≤ 1000) (hx : x.at 6 K.rc w) (hs : x.e.small) (h4 : x.e.kind = 4) :
    Calls Tryz.prog 48 #[.agg #[.int .u32 oid, .int .u32 ver, .string nm, .int .u8 id, .slice a2 cols.length cap2], v, x.agg] w (RRowsPost cols ls x.e w) := by
  obtain ⟨i0, hi, hz0, hz1, hz2⟩ := info_parts Tryz.infoRowR
  have HKD := Hid.mk' (fun W (he : Ext w W) => rkd_any oid ver nm id cols a2 cap2 W (hl2.ext he) hlen2)
  have HBK := Hid.mk' (fun W (he : Ext w W) => rbyKey_any oid ver nm id cols a2 cap2 v ls x.e.a x.aa x.ac (-1) W (hl2.ext he) hlen2 (h.ext he) hn hm (hx.a.ext he) hs.a)
  have HXA := Hid.mk' hx.a
  obtain ⟨⟨k1, ao1, av1, old1, b1, a1, r1, fl1⟩, ba1, bc1, aa1, ac1, ra1, rc1⟩ := x
  unfold EL.agg
  simp only at HBK h4 HXA ⊢
  subst h4
  have HE : Hid (rowsE cols ls ⟨4, ao1, av1, old1, b1, a1, r1, fl1⟩ = if takenB cols ls a1 (-1) = true then 9 else 0) := Hid.mk' (by unfold rowsE; exact if_pos rfl)
  obtain ⟨a, c, qs, rfl, hrow, hsl, hls, -⟩ := h
  have HROW := Hid.mk' hrow
  have HSL := Hid.mk' hsl
  have HLS := Hid.mk' hls
  have hqn : qs.length ≤ 1000 := by rw [← hls, List.length_map] at hn; exact hn
  have HTK : Hid (takenB cols ls a1 (-1) = (rkey cols && decide (0 ≤ byKeyI cols ls a1 (-1)))) := Hid.mk' rfl
  generalize byKeyI cols ls a1 (-1) = I at HBK HTK
  generalize takenB cols ls a1 (-1) = TB at HE HTK
  clear hx hs hm hl2 hrow hsl hls hn
  go_enter Tryz.func48, Tryz.ntmps48
  have HX : Hid (Boxes ((w.alloc (.cells #[.int .u32 oid, .int .u32 ver, .string nm, .int .u8 id, .slice a2 cols.length cap2] 51)).alloc (.cells #[.int .u8 4, .int .u32 ao1, .int .u32 av1, .int .u8 old1, .slice ba1 b1.length bc1, .slice aa1 a1.length ac1, .slice ra1 r1.length rc1, .int .u8 fl1] 85)) w.heap.size #[.int .u32 oid, .int .u32 ver, .string nm, .int .u8 id, .slice a2 cols.length cap2] #[.int .u8 4, .int .u32 ao1, .int .u32 av1, .int .u8 old1, .slice ba1 b1.length bc1, .slice aa1 a1.length ac1, .slice ra1 r1.length rc1, .int .u8 fl1]) := Hid.mk' ⟨(Blk.new w #[.int .u32 oid, .int .u32 ver, .string nm, .int .u8 id, .slice a2 cols.length cap2] 51).alloc _, Blk.new' _ _ (by simp)⟩
  go_upto_region 3 with (at_builtin; refine wpList_append_sl rfl _ _ 63 rfl (w.heap.size + 1 + 1) 45 i0 _ 1 24 Tryz.underlying63 hi hz0 hz1 hz2 rfl (by decide) (.slice (some ⟨w.heap.size + 1 + 1, 0, none⟩) 0 0) 0 [] rfl ⟨rfl, .inr ⟨_, 0, #[], rfl, Nat.le_refl _, Blk.new' #[] _ (by simp), Nat.le_refl _, Nat.zero_le _, rfl, rfl⟩⟩ (.slice a qs.length c) (qs.map PR.cell) rfl (HROW.out.ext (by exact eX)) (PR.len qs) (PR.ones qs) (by rw [List.length_map]; unfold maxLen; omega) (by rw [List.length_map]; omega) (by simp) ?_; intro v8 w3 hown3 hgrow3 _; have hE3 := copied hgrow3; rw [List.length_map, Nat.zero_add, List.nil_append] at hown3; obtain ⟨a8, c8, rfl⟩ := owns_shape hown3; have HO3 := Hid.mk' hown3; have HX3 := Hid.mk' (HX.out.ext hE3); have gX := HX3.out.1.cell; have zX := HX3.out.1.lt; have gY := HX3.out.2.cell; have zY := HX3.out.2.lt; have HE3 := Hid.mk' hE3; clear hown3 hgrow3 hE3)
  have HEw := Hid.mk' (show Ext w w3 from (((Ext.refl w).alloc _).alloc _).trans HE3.out)
  by_cases hbad : rkey cols = true ∧ 0 ≤ I
  · obtain ⟨hk, hI⟩ := hbad
    rw [hk] at HKD
    have HE2 := Hid.mk' (HE.out.trans (if_pos (by rw [HTK.out, hk, decide_eq_true hI]; rfl)))
    have hd : decide (0 ≤ I) = true := decide_eq_true hI
    clear HE HTK hk hI
    go_wp2_with (first
      | (go_at_call 28; refine (HKD.out _ HEw.out).mono ?_; rintro e w4 ⟨rfl, hb4⟩; have HE4 := Hid.mk' hb4; have HX4 := Hid.mk' (HX3.out.ext hb4); clear gX zX gY zY hb4; have gX := HX4.out.1.cell; have zX := HX4.out.1.lt; have gY := HX4.out.2.cell; have zY := HX4.out.2.lt)
      | (go_at_call 54; refine (HBK.out _ (HEw.out.trans HE4.out)).mono ?_; rintro e w5 ⟨rfl, hb5⟩; have HE5 := Hid.mk' (HE4.out.trans hb5); clear hb5))
    go_ret2
    exact RRowsPost.bad HE2.out (by decide) (HEw.out.trans HE5.out)
  have HE2 := Hid.mk' (HE.out.trans (if_neg (show ¬ TB = true from fun h => hbad (by
    rw [HTK.out, Bool.and_eq_true] at h
    exact ⟨h.1, of_decide_eq_true h.2⟩))))
  cases hk : rkey cols with
  | false =>
    rw [hk] at HKD
    clear HE HTK hk hbad
    go_upto_region 5 with (go_at_call 28; refine (HKD.out _ HEw.out).mono ?_; rintro e w5 ⟨rfl, hb5⟩; have HE5 := Hid.mk' hb5; clear hb5)
    clear gX zX gY zY
    have HX5 := Hid.mk' (HX3.out.ext HE5.out)
    have gY := HX5.out.2.cell
    have zY := HX5.out.2.lt
    have HO5 := Hid.mk' (owns_ext HO3.out HE5.out)
    have HEw5 := Hid.mk' (HEw.out.trans HE5.out)
    have HZ5 := Hid.mk' (show w.heap.size + 1 + 1 ≤ w5.heap.size from by have h1 := HE3.out.size; have h2 := HE5.out.size; simp at h1; omega)
    go_wp2_with (at_builtin; refine wpList_append_sl rfl _ _ 63 rfl (w.heap.size + 1 + 1) 45 i0 _ 1 24 Tryz.underlying63 hi hz0 hz1 hz2 rfl (by decide) (.slice a8 qs.length c8) qs.length _ rfl (HO5.out.alloc _) (.slice (some ⟨w5.heap.size, 0, none⟩) 1 1) [[.slice aa1 a1.length ac1]] rfl ?c1 ?c2 ?c3 ?c4 ?c5 ?c6 ?_)
    case c1 => exact Sl.new w5 #[.slice aa1 a1.length ac1] 45 1 1 1 _ rfl (by intro xs hxs; simp at hxs; subst hxs; rfl) rfl
    case c2 => intro ys hys; simp at hys; subst hys; rfl
    case c3 => intro y hy; simp at hy; subst hy; rfl
    case c4 => show qs.length + 1 ≤ maxLen; unfold maxLen; omega
    case c5 => show (qs.length + 1) * 24 ≤ 140737488355328; omega
    case c6 => have := HZ5.out; simp; omega
    intro v6 w6 hown6 hgrow6 _
    have HE6 := Hid.mk' (show Ext w w6 from Kp.ext (HEw5.out.alloc _) (fun x hx _ => by have := owns_lt3 HO5.out hx; omega) (Kp.of_grown hgrow6))
    have HR6 := Hid.mk' (show RwR w6 v6 (ls ++ [a1]) from RwR.owns (N := w.heap.size + 1 + 1) (qs := qs ++ [⟨a1, aa1, ac1⟩]) (by simpa [PR.cell, PR.val] using hown6) (fun q hq => by
      rcases List.mem_append.1 hq with hq | hq
      · exact (HSL.out q hq).ext HE6.out
      · rw [List.mem_singleton.1 hq]; exact HXA.out.ext HE6.out) (by rw [List.map_append, HLS.out]; rfl))
    clear hown6 hgrow6
    go_wp2
    go_ret2
    exact RRowsPost.good HE2.out (by unfold rowsL; rw [HE2.out, if_neg (by simp)]; exact if_pos rfl) HR6.out HE6.out
  | true =>
    rw [hk] at HKD
    have hI : ¬ 0 ≤ I := fun h => hbad ⟨hk, h⟩
    have hd : decide (0 ≤ I) = false := decide_eq_false hI
    clear HE HTK hk hbad hI
    go_upto_region 5 with (first
      | (go_at_call 28; refine (HKD.out _ HEw.out).mono ?_; rintro e w4 ⟨rfl, hb4⟩; have HE4 := Hid.mk' hb4; have HX4 := Hid.mk' (HX3.out.ext hb4); clear gX zX gY zY hb4; have gX := HX4.out.1.cell; have zX := HX4.out.1.lt; have gY := HX4.out.2.cell; have zY := HX4.out.2.lt)
      | (go_at_call 54; refine (HBK.out _ (HEw.out.trans HE4.out)).mono ?_; rintro e w5 ⟨rfl, hb5⟩; have HE5 := Hid.mk' (HE4.out.trans hb5); clear hb5))
    clear gX zX gY zY
    have HX5 := Hid.mk' (HX3.out.ext HE5.out)
    have gY := HX5.out.2.cell
    have zY := HX5.out.2.lt
    have HO5 := Hid.mk' (owns_ext HO3.out HE5.out)
    have HEw5 := Hid.mk' (HEw.out.trans HE5.out)
    have HZ5 := Hid.mk' (show w.heap.size + 1 + 1 ≤ w5.heap.size from by have h1 := HE3.out.size; have h2 := HE5.out.size; simp at h1; omega)
    go_wp2_with (at_builtin; refine wpList_append_sl rfl _ _ 63 rfl (w.heap.size + 1 + 1) 45 i0 _ 1 24 Tryz.underlying63 hi hz0 hz1 hz2 rfl (by decide) (.slice a8 qs.length c8) qs.length _ rfl (HO5.out.alloc _) (.slice (some ⟨w5.heap.size, 0, none⟩) 1 1) [[.slice aa1 a1.length ac1]] rfl ?c1 ?c2 ?c3 ?c4 ?c5 ?c6 ?_)
    case c1 => exact Sl.new w5 #[.slice aa1 a1.length ac1] 45 1 1 1 _ rfl (by intro xs hxs; simp at hxs; subst hxs; rfl) rfl
    case c2 => intro ys hys; simp at hys; subst hys; rfl
    case c3 => intro y hy; simp at hy; subst hy; rfl
    case c4 => show qs.length + 1 ≤ maxLen; unfold maxLen; omega
    case c5 => show (qs.length + 1) * 24 ≤ 140737488355328; omega
    case c6 => have := HZ5.out; simp; omega
    intro v6 w6 hown6 hgrow6 _
    have HE6 := Hid.mk' (show Ext w w6 from Kp.ext (HEw5.out.alloc _) (fun x hx _ => by have := owns_lt3 HO5.out hx; omega) (Kp.of_grown hgrow6))
    have HR6 := Hid.mk' (show RwR w6 v6 (ls ++ [a1]) from RwR.owns (N := w.heap.size + 1 + 1) (qs := qs ++ [⟨a1, aa1, ac1⟩]) (by simpa [PR.cell, PR.val] using hown6) (fun q hq => by
      rcases List.mem_append.1 hq with hq | hq
      · exact (HSL.out q hq).ext HE6.out
      · rw [List.mem_singleton.1 hq]; exact HXA.out.ext HE6.out) (by rw [List.map_append, HLS.out]; rfl))
    clear hown6 hgrow6
    go_wp2
    go_ret2
    exact RRowsPost.good HE2.out (by unfold rowsL; rw [HE2.out, if_neg (by simp)]; exact if_pos rfl) HR6.out HE6.out

theorem rowB_comm (l m : List K) : rowB l m = rowB m l := by
  rw [Bool.eq_iff_iff, rowB_true, rowB_true]
  exact eq_comm
theorem holds_take {W : World} {N g c : Nat} {qs : List PR} (h : W.ownsRow N 45 1 (.slice (some ⟨g, 0, none⟩) qs.length c) qs.length (qs.map PR.cell).flatten) (k : Nat) : ∀ j u, ((qs.take k).map PR.cell).flatten[j]? = some u → W.cell? ((⟨g, 0, none⟩ : Addr).add j) = some u := by
  intro j u hu
  have h1 := h.cells (g := g) rfl
  refine h1 j u ?_
  rw [flatPR_get] at hu ⊢
  rw [List.map_take, List.getElem?_take] at hu
  split at hu
  · exact hu
  · cases hu
/-- Where, from d on, the first place stands that p holds of. -/
def FromI (p : Nat → Bool) (n d : Nat) (t : Int) : Prop := (t = -1 ∧ ∀ j, d ≤ j → j < n → p j = false) ∨ ∃ j : Nat, d ≤ j ∧ j < n ∧ p j = true ∧ (∀ i, d ≤ i → i < j → p i = false) ∧ t = (j : Int)
theorem FromI.done {p : Nat → Bool} {n : Nat} {t : Int} (h : FromI p n 0 t) : t = idxI p n := by
  rcases h with ⟨rfl, h⟩ | ⟨j, h1, h2, h3, h4, rfl⟩
  · exact (idxI_none fun i hi => h i (Nat.zero_le _) hi).symm
  · exact (idxI_at (fun i hi => h4 i (Nat.zero_le _) hi) h3 h2).symm
theorem FromI.start (p : Nat → Bool) (n : Nat) : FromI p n n (-1) := .inl ⟨rfl, fun j h1 h2 => by omega⟩
theorem FromI.yes {p : Nat → Bool} {n d : Nat} (h : p d = true) (hd : d < n) : FromI p n d (d : Int) := .inr ⟨d, Nat.le_refl _, hd, h, fun i h1 h2 => by omega, rfl⟩
theorem FromI.no {p : Nat → Bool} {n d : Nat} {t : Int} (h : FromI p n (d + 1) t) (hp : p d = false) : FromI p n d t := by
  rcases h with ⟨rfl, h⟩ | ⟨j, h1, h2, h3, h4, rfl⟩
  · exact .inl ⟨rfl, fun j h1 h2 => by
      by_cases e : j = d
      · rw [e]; exact hp
      · exact h j (by omega) h2⟩
  · exact .inr ⟨j, by omega, h2, h3, fun i h5 h6 => by
      by_cases e : i = d
      · rw [e]; exact hp
      · exact h4 i (by omega) h6, rfl⟩

set_option maxRecDepth 100000 in set_option maxHeartbeats 8000000 in
theorem rrows_upd (oid ver : Int) (nm : ByteArray) (id : Int) (cols : List Col) (a2 : Option Addr) (cap2 : Nat) (v : Value) (ls : List (List K)) (x : EL) (w : World) (hl2 : Sl w (.slice a2 cols.length cap2) 3 (cols.map Col.cells)) (hlen2 : cols.length ≤ 1000)
    (h : RwR w v ls) (hn : ls.length ≤ 1000) (hm : ∀ y ∈ ls, y.length ≤ 1000) (hx : x.at 6 K.rc w) (hs : x.e.small) (h4 : x.e.kind ≠ 4) :
    Calls Tryz.prog 48 #[.agg #[.int .u32 oid, .int .u32 ver, .string nm, .int .u8 id, .slice a2 cols.length cap2], v, x.agg] w (RRowsPost cols ls x.e w) := by
  obtain ⟨i0, hi, hz0, hz1, hz2⟩ := info_parts Tryz.infoRowR
  have HKD := Hid.mk' (fun W (he : Ext w W) => rkd_any oid ver nm id cols a2 cap2 W (hl2.ext he) hlen2)
  have HBA := Hid.mk' (fun W (he : Ext w W) => rbyKey_any oid ver nm id cols a2 cap2 v ls x.e.a x.aa x.ac (-1) W (hl2.ext he) hlen2 (h.ext he) hn hm (hx.a.ext he) hs.a)
  have HBB := Hid.mk' (fun W (he : Ext w W) => rbyKey_any oid ver nm id cols a2 cap2 v ls x.e.b x.ba x.bc (-1) W (hl2.ext he) hlen2 (h.ext he) hn hm (hx.b.ext he) hs.b)
  have HBN := Hid.mk' (fun (key : List K) ka kc but W (he : Ext w W) (hk : Sl W (.slice ka key.length kc) 6 (key.map K.rc)) (hkn : key.length ≤ 1000) => rbyKey_any oid ver nm id cols a2 cap2 v ls key ka kc but W (hl2.ext he) hlen2 (h.ext he) hn hm hk hkn)
  have HXA := Hid.mk' hx.a
  have HXB := Hid.mk' hx.b
  have HSM := Hid.mk' hs
  obtain ⟨⟨k1, ao1, av1, old1, b1, a1, r1, fl1⟩, ba1, bc1, aa1, ac1, ra1, rc1⟩ := x
  unfold EL.agg
  simp only at HBA HBB h4 HXA HXB HSM ⊢
  have h4' : (k1 == 4) = false := by simpa using h4
  obtain ⟨a, c, qs, rfl, hrow, hsl, hls, hcap, -⟩ := h
  have HCC := Hid.mk' hcap
  have HROW := Hid.mk' hrow
  have HSL := Hid.mk' hsl
  have HLS := Hid.mk' hls
  have HM := Hid.mk' (fun q (hq : q ∈ qs) => hm q.l (by rw [← hls]; exact List.mem_map_of_mem hq))
  have hqn : qs.length ≤ 1000 := by rw [← hls, List.length_map] at hn; exact hn
  have HE : Hid (rowsE cols ls (⟨k1, ao1, av1, old1, b1, a1, r1, fl1⟩ : Ev) = if fndE cols ls (⟨k1, ao1, av1, old1, b1, a1, r1, fl1⟩ : Ev) ≠ 0 then fndE cols ls (⟨k1, ao1, av1, old1, b1, a1, r1, fl1⟩ : Ev) else if k1 = 6 then 0 else if takenB cols ls (newR cols ls (⟨k1, ao1, av1, old1, b1, a1, r1, fl1⟩ : Ev)) (atI cols ls (⟨k1, ao1, av1, old1, b1, a1, r1, fl1⟩ : Ev)) = true then 9 else 0) := Hid.mk' (by unfold rowsE; exact if_neg h4)
  have HRL : Hid (rowsE cols ls (⟨k1, ao1, av1, old1, b1, a1, r1, fl1⟩ : Ev) = 0 → rowsL cols ls (⟨k1, ao1, av1, old1, b1, a1, r1, fl1⟩ : Ev) = if k1 = 6 then ls.eraseIdx (atI cols ls (⟨k1, ao1, av1, old1, b1, a1, r1, fl1⟩ : Ev)).toNat else ls.set (atI cols ls (⟨k1, ao1, av1, old1, b1, a1, r1, fl1⟩ : Ev)).toNat (newR cols ls (⟨k1, ao1, av1, old1, b1, a1, r1, fl1⟩ : Ev))) := Hid.mk' (fun q => by unfold rowsL; rw [q, if_neg (by simp)]; exact if_neg h4)
  have HFD : Hid (fndE cols ls (⟨k1, ao1, av1, old1, b1, a1, r1, fl1⟩ : Ev) = if old1 ≠ 2 ∧ old1 ≠ 1 ∧ rkey cols = false then 13 else if atI cols ls (⟨k1, ao1, av1, old1, b1, a1, r1, fl1⟩ : Ev) < 0 then 10 else 0) := Hid.mk' rfl
  have HAT : Hid (atI cols ls (⟨k1, ao1, av1, old1, b1, a1, r1, fl1⟩ : Ev) = if old1 = 2 then idxI (fun i => rowB b1 (ls.getD i [])) ls.length else if old1 = 1 then byKeyI cols ls b1 (-1) else byKeyI cols ls a1 (-1)) := Hid.mk' rfl
  have HAL := Hid.mk' (atI_lt cols ls (⟨k1, ao1, av1, old1, b1, a1, r1, fl1⟩ : Ev))
  have HNR : Hid (newR cols ls (⟨k1, ao1, av1, old1, b1, a1, r1, fl1⟩ : Ev) = mergeK (ls.getD (atI cols ls (⟨k1, ao1, av1, old1, b1, a1, r1, fl1⟩ : Ev)).toNat []) a1) := Hid.mk' rfl
  clear hx hs hm hl2 hrow hsl hls hn h4 hcap
  go_enter Tryz.func48, Tryz.ntmps48
  have HX : Hid (Boxes ((w.alloc (.cells #[.int .u32 oid, .int .u32 ver, .string nm, .int .u8 id, .slice a2 cols.length cap2] 51)).alloc (.cells #[.int .u8 k1, .int .u32 ao1, .int .u32 av1, .int .u8 old1, .slice ba1 b1.length bc1, .slice aa1 a1.length ac1, .slice ra1 r1.length rc1, .int .u8 fl1] 85)) w.heap.size #[.int .u32 oid, .int .u32 ver, .string nm, .int .u8 id, .slice a2 cols.length cap2] #[.int .u8 k1, .int .u32 ao1, .int .u32 av1, .int .u8 old1, .slice ba1 b1.length bc1, .slice aa1 a1.length ac1, .slice ra1 r1.length rc1, .int .u8 fl1]) := Hid.mk' ⟨(Blk.new w #[.int .u32 oid, .int .u32 ver, .string nm, .int .u8 id, .slice a2 cols.length cap2] 51).alloc _, Blk.new' _ _ (by simp)⟩
  go_upto_region 6 with (at_builtin; refine wpList_append_sl rfl _ _ 63 rfl (w.heap.size + 1 + 1) 45 i0 _ 1 24 Tryz.underlying63 hi hz0 hz1 hz2 rfl (by decide) (.slice (some ⟨w.heap.size + 1 + 1, 0, none⟩) 0 0) 0 [] rfl ⟨rfl, .inr ⟨_, 0, #[], rfl, Nat.le_refl _, Blk.new' #[] _ (by simp), Nat.le_refl _, Nat.zero_le _, rfl, rfl⟩⟩ (.slice a qs.length c) (qs.map PR.cell) rfl (HROW.out.ext (by exact eX)) (PR.len qs) (PR.ones qs) (by rw [List.length_map]; unfold maxLen; omega) (by rw [List.length_map]; omega) (by simp) ?_; intro v8 w3 hown3 hgrow3 _; have hE3 := copied hgrow3; rw [List.length_map, Nat.zero_add, List.nil_append] at hown3; obtain ⟨a8, c8, rfl⟩ := owns_shape hown3; have HO3 := Hid.mk' hown3; have HX3 := Hid.mk' (HX.out.ext hE3); have gX := HX3.out.1.cell; have zX := HX3.out.1.lt; have gY := HX3.out.2.cell; have zY := HX3.out.2.lt; have HE3 := Hid.mk' hE3; clear hown3 hgrow3 hE3)
  have HEw := Hid.mk' (show Ext w w3 from (((Ext.refl w).alloc _).alloc _).trans HE3.out)
  go_upto_if 34 with (fail)
  go_cut [9] (fun t wx => t = .int .i64 (atI cols ls (⟨k1, ao1, av1, old1, b1, a1, r1, fl1⟩ : Ev)) ∧ Hid (¬ (old1 ≠ 2 ∧ old1 ≠ 1 ∧ rkey cols = false)) ∧ Hid (Ext w3 wx))
  case first =>
    have HE0 := Hid.mk' HE.out
    clear HE HRL HNR HAL
    by_cases h2 : old1 = 2
    · subst h2
      have HA2 := Hid.mk' (HAT.out.trans (if_pos rfl))
      have HNO := Hid.mk' (show ¬ ((2 : Int) ≠ 2 ∧ (2 : Int) ≠ 1 ∧ rkey cols = false) from fun h => h.1 rfl)
      have HLN := Hid.mk' (show ls.length = qs.length by rw [← HLS.out, List.length_map])
      have HPQ := Hid.mk' (fun k (h : k < qs.length) => (show rowB b1 (ls.getD k []) = rowB (qs[k]'h).l b1 from by
        rw [← HLS.out, List.getD_eq_getElem?_getD, List.getElem?_map, List.getElem?_eq_getElem h]
        exact rowB_comm _ _))
      obtain ⟨p, hp⟩ : ∃ p : Nat → Bool, p = fun i => rowB b1 (ls.getD i []) := ⟨_, rfl⟩
      have HP := Hid.mk' hp
      have hA3 := HA2.out
      rw [← hp, HLN.out] at hA3
      have HA3 := Hid.mk' hA3
      clear hA3 hp HAT HFD HKD HBA HBB HBN HA2
      go_wp2
      go_loopg [9, 10] qs.length (fun z t i wr => ∃ (tv : Int), t = .int .i64 tv ∧ i = .int .i64 ((z : Int) - 1) ∧ z ≤ qs.length ∧ Hid (FromI p qs.length z tv) ∧ Hid (Ext w3 wr))
      case atStart => exact ⟨-1, rfl, by go_num, Nat.le_refl _, Hid.mk' (FromI.start _ _), Hid.mk' (Ext.refl _)⟩
      case round =>
        obtain ⟨tv, rfl, rfl, hz, hF, hEl⟩ := hrel
        rcases gk with _ | d
        · have HD := Hid.mk' (hF.out.done.trans HA3.out.symm)
          rw [show (((0 : Nat) : Int) - 1) = -1 from rfl]
          go_wp2
          go_meet
          case rel => exact ⟨by rw [← HD.out], HNO, hEl⟩
        · have hid : (((d + 1 : Nat) : Int) - 1) = (d : Int) := by omega
          rw [hid]
          clear hid
          have hld : d < qs.length := by omega
          have hEW := HEw.out.trans hEl.out
          obtain ⟨rb, ro, rfl, hrb, hrx⟩ := HROW.out.at_ (i := d) (by simpa using hld)
          have g0 := PR.at_ hld hrx hrb hEW
          have hbr : rb < wr.heap.size := Nat.lt_of_lt_of_le hrb hEW.size
          have HSQ := Hid.mk' ((HSL.out _ (List.getElem_mem hld)).ext hEW)
          have HMQ := Hid.mk' (HM.out _ (List.getElem_mem hld))
          have HPD := Hid.mk' (show p d = rowB (qs[d]'hld).l b1 from by rw [HP.out]; exact HPQ.out d hld)
          obtain ⟨q, hq⟩ : ∃ q, q = qs[d]'hld := ⟨_, rfl⟩
          rw [← hq] at g0 HSQ HMQ HPD
          clear hq hrx hrb
          obtain ⟨ql, qa, qc⟩ := q
          unfold PR.val at HSQ
          simp only at g0 HSQ HMQ HPD
          have HSC := Hid.mk' (fun W (h : Ext wr W) => rsame_any ql b1 qa ba1 qc bc1 W (HSQ.out.ext h) (HXB.out.ext (hEW.trans h)) HMQ.out HSM.out.b)
          obtain ⟨B, hB⟩ : ∃ B, B = rowB ql b1 := ⟨_, rfl⟩
          rw [← hB] at HSC HPD
          have HX6 := Hid.mk' (HX3.out.ext hEl.out)
          clear gX zX gY zY hB
          have gY := HX6.out.2.cell
          have zY := HX6.out.2.lt
          have HLD := Hid.mk' hld
          have i1 : (d : Int) < (qs.length : Int) := by omega
          have hd1 : decide (qs.length ≤ d) = false := decide_eq_false (by omega)
          have hd2 : decide ((qs.length : Int) ≤ (d : Int)) = false := decide_eq_false (by omega)
          have hd3 : decide ((0 : Int) ≤ (d : Int)) = true := decide_eq_true (by omega)
          cases B
          all_goals
            go_wp2
            go_region_held3 (fun w' => Ext (wr) w' ∧ (∀ b o, b < (wr).heap.size → w'.cell? ⟨b, o, none⟩ = (wr).cell? ⟨b, o, none⟩) ∧ (∀ b o, b < (wr).heap.size → w'.frozen? ⟨b, o, none⟩ = (wr).frozen? ⟨b, o, none⟩)) ((exact held_of (by exact eX))) ((go_at_call 26; refine (HSC.out _ (by exact eX)).mono ?_; rintro e w5 ⟨rfl, hb5⟩; have HB5 : Hid (Ext wr w5) := Hid.mk' (by exact eX)))
            go_wp2
            go_roundg d
          all_goals try (case measure => omega)
          · case rel => exact ⟨tv, rfl, by go_num, Nat.le_of_lt HLD.out, Hid.mk' (hF.out.no HPD.out), Hid.mk' (hEl.out.trans HB5.out)⟩
          · case rel => exact ⟨(d : Int), rfl, by go_num, Nat.le_of_lt HLD.out, Hid.mk' (FromI.yes HPD.out HLD.out), Hid.mk' (hEl.out.trans HB5.out)⟩
    · have h2' : (old1 == 2) = false := by simpa using h2
      by_cases h1 : old1 = 1
      · subst h1
        have HA2 := Hid.mk' ((HAT.out.trans (if_neg (by decide))).trans (if_pos rfl))
        have HNO := Hid.mk' (show ¬ ((1 : Int) ≠ 2 ∧ (1 : Int) ≠ 1 ∧ rkey cols = false) from fun h => h.2.1 rfl)
        clear HAT HFD HKD HBA HBN h2 h2'
        go_wp2_with (go_at_call 54; refine (HBB.out _ HEw.out).mono ?_; rintro e w5 ⟨rfl, hb5⟩; have HE5 := Hid.mk' hb5; clear hb5)
        go_meet
        case rel => exact ⟨by rw [HA2.out], HNO, HE5⟩
      · have h1' : (old1 == 1) = false := by simpa using h1
        have HA2 := Hid.mk' ((HAT.out.trans (if_neg h2)).trans (if_neg h1))
        cases hk : rkey cols with
        | false =>
          rw [hk] at HKD
          have HE2 := Hid.mk' (show rowsE cols ls (⟨k1, ao1, av1, old1, b1, a1, r1, fl1⟩ : Ev) = 13 from by
            have h3 : fndE cols ls (⟨k1, ao1, av1, old1, b1, a1, r1, fl1⟩ : Ev) = 13 := HFD.out.trans (if_pos ⟨h2, h1, hk⟩)
            have h5 := HE0.out
            rw [h3, if_pos (by decide)] at h5
            exact h5)
          clear HAT HFD HBA HBB HBN h2 h1 hk HA2 HE0
          go_wp2_with (go_at_call 28; refine (HKD.out _ HEw.out).mono ?_; rintro e w5 ⟨rfl, hb5⟩; have HE5 := Hid.mk' hb5; clear hb5)
          go_ret2
          exact RRowsPost.bad HE2.out (by decide) (HEw.out.trans HE5.out)
        | true =>
          rw [hk] at HKD
          have HNO := Hid.mk' (show ¬ (old1 ≠ 2 ∧ old1 ≠ 1 ∧ rkey cols = false) from fun h => by rw [hk] at h; cases h.2.2)
          clear HAT HFD HBB HBN h2 h1 hk HE0
          go_wp2_with (first
            | (go_at_call 28; refine (HKD.out _ HEw.out).mono ?_; rintro e w4 ⟨rfl, hb4⟩; have HE4 := Hid.mk' hb4; have HX4 := Hid.mk' (HX3.out.ext hb4); clear gX zX gY zY hb4; have gX := HX4.out.1.cell; have zX := HX4.out.1.lt; have gY := HX4.out.2.cell; have zY := HX4.out.2.lt)
            | (go_at_call 54; refine (HBA.out _ (HEw.out.trans HE4.out)).mono ?_; rintro e w5 ⟨rfl, hb5⟩; have HE5 := Hid.mk' (HE4.out.trans hb5); clear hb5))
          go_meet
          case rel => exact ⟨by rw [HA2.out], HNO, HE5⟩
  case rest =>
    obtain ⟨rfl, hno, hEc⟩ := hcut
    have HFE := Hid.mk' (show fndE cols ls (⟨k1, ao1, av1, old1, b1, a1, r1, fl1⟩ : Ev) = if atI cols ls (⟨k1, ao1, av1, old1, b1, a1, r1, fl1⟩ : Ev) < 0 then 10 else 0 from HFD.out.trans (if_neg hno.out))
    have HEwc := Hid.mk' (HEw.out.trans hEc.out)
    have HXc := Hid.mk' (HX3.out.ext hEc.out)
    have HOc := Hid.mk' (owns_ext HO3.out hEc.out)
    clear gX zX gY zY hno HFD HAT HBA HBB
    generalize atI cols ls (⟨k1, ao1, av1, old1, b1, a1, r1, fl1⟩ : Ev) = AT at HFE HE HRL HAL HNR ⊢
    have gX := HXc.out.1.cell
    have zX := HXc.out.1.lt
    have gY := HXc.out.2.cell
    have zY := HXc.out.2.lt
    by_cases hI : AT < 0
    · have HE2 := Hid.mk' (show rowsE cols ls (⟨k1, ao1, av1, old1, b1, a1, r1, fl1⟩ : Ev) = 10 from by
        have h5 := HE.out
        rw [HFE.out, if_pos hI, if_pos (by decide)] at h5
        exact h5)
      have hd : decide (AT < 0) = true := decide_eq_true hI
      clear HE HRL HAL HNR HFE
      go_wp2
      go_ret2
      exact RRowsPost.bad HE2.out (by decide) HEwc.out
    have HE2 := Hid.mk' (show rowsE cols ls (⟨k1, ao1, av1, old1, b1, a1, r1, fl1⟩ : Ev) = if k1 = 6 then 0 else if takenB cols ls (newR cols ls (⟨k1, ao1, av1, old1, b1, a1, r1, fl1⟩ : Ev)) AT = true then 9 else 0 from by
      have h5 := HE.out
      rw [HFE.out, if_neg hI, if_neg (by decide)] at h5
      exact h5)
    obtain ⟨k, rfl⟩ := Int.eq_ofNat_of_zero_le (show 0 ≤ AT by omega)
    have hk : k < qs.length := by have h1 := HAL.out.2; rw [← HLS.out, List.length_map] at h1; omega
    have hd : decide ((k : Int) < 0) = false := decide_eq_false hI
    have hw1 : IntKind.i64.wrap ((k : Int) + 1) = (k : Int) + 1 := by rw [IntKind.wrap_i64]; omega
    obtain ⟨g8, rfl, hg8, hc8, hm8⟩ : ∃ g, a8 = some ⟨g, 0, none⟩ ∧ w.heap.size + 1 + 1 ≤ g ∧ qs.length ≤ c8 ∧ c8 ≤ maxLen := by
      rcases HOc.out.2 with ⟨h1, h2⟩ | ⟨g, cp, cur, h1, h2, -, h3, h4, -⟩
      · omega
      · simp only [Value.slice.injEq] at h1
        obtain ⟨rfl, -, rfl⟩ := h1
        exact ⟨g, rfl, h2, h3, h4⟩
    have HG8 := Hid.mk' hg8
    clear HE HAL HFE hI hg8
    by_cases h6 : k1 = 6
    · have HE3 := Hid.mk' (HE2.out.trans (if_pos h6))
      have HR3 := Hid.mk' ((HRL.out HE3.out).trans (if_pos h6))
      subst h6
      clear HE2 HRL HNR h4'
      obtain ⟨b, o, rfl, hb, hx⟩ := HROW.out.at_ (i := k) (by simpa using hk)
      clear hb hx
      go_upto_region 21 with (fail)
      have hA0 : Hid ((fun w' => Ext (wc) w' ∧ (∀ b o, b < (wc).heap.size → w'.cell? ⟨b, o, none⟩ = (wc).cell? ⟨b, o, none⟩) ∧ (∀ b o, b < (wc).heap.size → w'.frozen? ⟨b, o, none⟩ = (wc).frozen? ⟨b, o, none⟩)) wc.drew) := held_of (by exact eX)
      refine wp_region_head 9 (fun w' => Ext (wc) w' ∧ (∀ b o, b < (wc).heap.size → w'.cell? ⟨b, o, none⟩ = (wc).cell? ⟨b, o, none⟩) ∧ (∀ b o, b < (wc).heap.size → w'.frozen? ⟨b, o, none⟩ = (wc).frozen? ⟨b, o, none⟩)) (by kernel_rfl) (by decide) ?_
      refine HG.on 0 71 hA0.out ?_
      try simp only [Act.put, List.setIfInBounds_toArray, List.set_cons_zero, List.set_cons_succ]
      refine HG.on 1 72 hA0.out ?_
      try simp only [Act.put, List.setIfInBounds_toArray, List.set_cons_zero, List.set_cons_succ]
      refine HG.on 2 73 hA0.out ?_
      try simp only [Act.put, List.setIfInBounds_toArray, List.set_cons_zero, List.set_cons_succ]
      have hKC := HCC.out
      have j1 : (k : Int) < (qs.length : Int) := by omega
      have j2 : k ≤ c8 := by omega
      have j3 : k + 1 ≤ qs.length := by omega
      have j4 : (k : Int) + 1 ≤ (qs.length : Int) := by omega
      have j5 : (0 : Int) ≤ (k : Int) + 1 := by omega
      refine HG.on 3 74 hA0.out ?_
      try simp only [Act.put, List.setIfInBounds_toArray, List.set_cons_zero, List.set_cons_succ]
      refine HG.on 4 75 hA0.out ?_
      try simp only [Act.put, List.setIfInBounds_toArray, List.set_cons_zero, List.set_cons_succ]
      refine HG.on 5 76 hA0.out ?_
      try simp only [Act.put, List.setIfInBounds_toArray, List.set_cons_zero, List.set_cons_succ]
      refine HG.on 6 77 hA0.out ?_
      try simp only [Act.put, List.setIfInBounds_toArray, List.set_cons_zero, List.set_cons_succ]
      refine HG.on 7 78 hA0.out ?_
      try simp only [Act.put, List.setIfInBounds_toArray, List.set_cons_zero, List.set_cons_succ]
      refine wpHd_one (i := 8) rfl rfl (by kernel_rfl) (fun KK hK => ?_)
      refine wp_append_cut (.tmp 74) (.tmp 78) 63 ?ho 45 i0 _ 24 Tryz.underlying63 hi hz0 hz1 hz2 ?zz g8 k k rfl (qs.take k) (qs.drop (k + 1)) ?c1 ?c2 ?c7 rfl ?c3 (if c = k + 1 then some ⟨b, o, none⟩ else some ⟨b, o + (k + 1), none⟩) (qs.length - (k + 1)) (c - (k + 1)) ?c4 ?c5 ?c6 (by decide) ?ev1 ?ev2 ?_
      case ho => rfl
      case zz => rfl
      case ev1 => (try go_simp); (try rfl)
      case ev2 => (try go_simp); (try rfl)
      case c1 => rw [List.length_take]; omega
      case c2 => exact (owns_lt3 HOc.out rfl).2
      case c3 => exact holds_take HOc.out k
      case c7 =>
        obtain ⟨cs, hb9, -⟩ := RAt.of_owns HOc.out rfl
        exact ⟨cs, hb9⟩
      case c4 => rw [List.length_drop]
      case c5 =>
        have h1 := Sl.after (HROW.out.ext (HEwc.out.trans (Ext.refl wc).drew)) (m := k + 1) (by omega) hKC
        rw [← List.map_drop] at h1
        have h2 : (some (⟨b, o, none⟩ : Addr)).map (·.add (k + 1)) = some ⟨b, o + (k + 1), none⟩ := by simp [Addr.add]
        rw [h2] at h1
        exact h1
      case c6 => omega
      intro a9 c9 w5 hc9 hs9 hE9
      obtain ⟨rs, hrs⟩ : ∃ rs, rs = qs.take k ++ qs.drop (k + 1) := ⟨_, rfl⟩
      rw [← hrs] at hs9 hc9 ⊢
      have HRS := Hid.mk' hrs
      have HS9 := Hid.mk' hs9
      have HC9 := Hid.mk' hc9
      have HE9 := Hid.mk' (show Ext wc w5 from (Ext.refl wc).drew.trans hE9)
      refine hK.out _ _ (held_of HE9.out) (fun hA => ?_)
      clear hK KK hA hs9 hc9 hE9 hA0 hrs j1 j2 j3 j4 j5 hKC
      refine wpHd_tail (by kernel_rfl) ?_
      simp only [List.drop_succ_cons, List.drop_zero]
      have HR9 := Hid.mk' (show RwR w5 (.slice a9 rs.length c9) (ls.eraseIdx k) from ⟨a9, c9, rs, rfl, HS9.out, fun q hq => (HSL.out q (by
        rw [HRS.out] at hq
        rcases List.mem_append.1 hq with hq | hq
        · exact List.mem_of_mem_take hq
        · exact List.mem_of_mem_drop hq)).ext (HEwc.out.trans HE9.out), by rw [HRS.out, ← HLS.out, List.map_append, List.map_take, List.map_drop, List.eraseIdx_eq_take_drop_succ], HC9.out.1, HC9.out.2⟩)
      go_wp2
      all_goals
        go_ret2
        exact RRowsPost.good HE3.out (HR3.out.trans (by rw [Int.toNat_natCast])) HR9.out (HEwc.out.trans HE9.out)
    · have h6' : (k1 == 6) = false := by simpa using h6
      have HE3 := Hid.mk' (HE2.out.trans (if_neg h6))
      have HR3 := Hid.mk' (fun h => (HRL.out h).trans (if_neg h6))
      have HLK := Hid.mk' (show ls.getD ((k : Int)).toNat [] = (qs[k]'hk).l from by
        rw [← HLS.out, Int.toNat_natCast, List.getD_eq_getElem?_getD, List.getElem?_map, List.getElem?_eq_getElem hk]; rfl)
      have hnr := HNR.out
      rw [HLK.out] at hnr
      have HNR := Hid.mk' hnr
      have HPA := Hid.mk' (RAt.of_owns HOc.out rfl)
      have HMK := Hid.mk' (fun W (he : Ext w W) => rmerge_any (qs[k]'hk).l a1 (qs[k]'hk).a aa1 (qs[k]'hk).c ac1 W ((HSL.out _ (List.getElem_mem hk)).ext he) (HXA.out.ext he) (HM.out _ (List.getElem_mem hk)) HSM.out.a)
      obtain ⟨b, o, rfl, hb, hx⟩ := HROW.out.at_ (i := k) (by simpa using hk)
      have f0 := PR.at_ hk hx hb HEwc.out
      have z0 : b < wc.heap.size := Nat.lt_of_lt_of_le hb HEwc.out.size
      clear HE2 HRL HLK hnr hx hb h6
      go_upto_region 22 with (fail)
      have hA0 : Hid ((fun w' => Ext (wc) w' ∧ (∀ b o, b < (wc).heap.size → w'.cell? ⟨b, o, none⟩ = (wc).cell? ⟨b, o, none⟩) ∧ (∀ b o, b < (wc).heap.size → w'.frozen? ⟨b, o, none⟩ = (wc).frozen? ⟨b, o, none⟩)) wc.drew) := held_of (by exact eX)
      refine wp_region_head 9 (fun w' => Ext (wc) w' ∧ (∀ b o, b < (wc).heap.size → w'.cell? ⟨b, o, none⟩ = (wc).cell? ⟨b, o, none⟩) ∧ (∀ b o, b < (wc).heap.size → w'.frozen? ⟨b, o, none⟩ = (wc).frozen? ⟨b, o, none⟩)) (by kernel_rfl) (by decide) ?_
      refine HG.on 0 80 hA0.out ?_
      try simp only [Act.put, List.setIfInBounds_toArray, List.set_cons_zero, List.set_cons_succ]
      refine HG.on 1 81 hA0.out ?_
      try simp only [Act.put, List.setIfInBounds_toArray, List.set_cons_zero, List.set_cons_succ]
      refine HG.on 2 82 hA0.out ?_
      try simp only [Act.put, List.setIfInBounds_toArray, List.set_cons_zero, List.set_cons_succ]
      refine HG.on 3 83 hA0.out ?_
      try simp only [Act.put, List.setIfInBounds_toArray, List.set_cons_zero, List.set_cons_succ]
      refine HG.on 4 84 hA0.out ?_
      try simp only [Act.put, List.setIfInBounds_toArray, List.set_cons_zero, List.set_cons_succ]
      refine HG.on 5 85 hA0.out ?_
      try simp only [Act.put, List.setIfInBounds_toArray, List.set_cons_zero, List.set_cons_succ]
      refine HG.on 6 86 hA0.out ?_
      try simp only [Act.put, List.setIfInBounds_toArray, List.set_cons_zero, List.set_cons_succ]
      refine HG.on 7 87 hA0.out ?_
      try simp only [Act.put, List.setIfInBounds_toArray, List.set_cons_zero, List.set_cons_succ]
      refine wpHd_one (i := 8) rfl rfl (by kernel_rfl) (fun KK hK => ?_)
      go_simp
      refine (HMK.out _ (HEwc.out.trans (by exact eX))).mono ?_
      rintro e w7 ⟨a7, c7, rfl, hs7, hb7⟩
      have HB7 := Hid.mk' (show Ext wc w7 by exact eX)
      have HS7 := Hid.mk' hs7
      refine hK.out _ _ (held_of HB7.out) (fun hA => ?_)
      clear hK KK hA hs7 hb7 hA0 f0 z0
      refine wpHd_tail (by kernel_rfl) ?_
      simp only [List.drop_succ_cons, List.drop_zero]
      have HP7 := Hid.mk' (HPA.out.ext HB7.out)
      have p0 := HP7.out.cell hk
      have pf := HP7.out.frozen
      have pz := HP7.out.lt
      go_upto_region 23 with (fail)
      obtain ⟨w8, hw8⟩ : ∃ w8, w8 = w7.setCell ⟨g8, k, none⟩ (.slice a7 a1.length c7) := ⟨_, rfl⟩
      have HE8 := Hid.mk' (show Ext w w8 by rw [hw8]; exact (HEwc.out.trans HB7.out).setCell (by have := HG8.out; dsimp only; omega) _)
      have HP8 := Hid.mk' (show RAt w8 g8 (qs.set k ⟨newR cols ls (⟨k1, ao1, av1, old1, b1, a1, r1, fl1⟩ : Ev), a7, c7⟩) from by
        have := HP7.out.set hk ⟨newR cols ls (⟨k1, ao1, av1, old1, b1, a1, r1, fl1⟩ : Ev), a7, c7⟩
        rw [hw8]; rw [newR_len] at this; exact this)
      have HX8 := Hid.mk' (show Boxes w8 w.heap.size #[.int .u32 oid, .int .u32 ver, .string nm, .int .u8 id, .slice a2 cols.length cap2] #[.int .u8 k1, .int .u32 ao1, .int .u32 av1, .int .u8 old1, .slice ba1 b1.length bc1, .slice aa1 a1.length ac1, .slice ra1 r1.length rc1, .int .u8 fl1] from by
        have h1 := HXc.out.ext HB7.out
        rw [hw8]
        exact ⟨h1.1.other _ _ (by have := HG8.out; dsimp only; omega), h1.2.other _ _ (by have := HG8.out; dsimp only; omega)⟩)
      have HS8 := Hid.mk' (show Sl w8 (.slice a7 a1.length c7) 6 ((newR cols ls (⟨k1, ao1, av1, old1, b1, a1, r1, fl1⟩ : Ev)).map K.rc) from by rw [HNR.out, hw8]; exact HS7.out.overR (HP7.out.cell hk))
      have HZA := Hid.mk' (show (newR cols ls (⟨k1, ao1, av1, old1, b1, a1, r1, fl1⟩ : Ev)).length = a1.length from newR_len)
      clear p0 pf pz HP7 HS7 HMK gX zX gY zY HB7
      rw [← hw8]
      clear hw8
      have hkq : k < (qs.set k (⟨newR cols ls (⟨k1, ao1, av1, old1, b1, a1, r1, fl1⟩ : Ev), a7, c7⟩ : PR)).length := by simpa using hk
      have p0 := HP8.out.cell hkq
      have pz := HP8.out.lt
      rw [List.getElem_set_self] at p0
      simp only [HZA.out] at p0
      have gX := HX8.out.1.cell
      have zX := HX8.out.1.lt
      have HTK := Hid.mk' (fun W (he : Ext w W) (h2 : Ext w8 W) => HBN.out (newR cols ls (⟨k1, ao1, av1, old1, b1, a1, r1, fl1⟩ : Ev)) a7 c7 k W he (by rw [HZA.out]; exact HS8.out.ext h2) (by rw [HZA.out]; exact HSM.out.a))
      rw [HZA.out] at HTK
      generalize newR cols ls (⟨k1, ao1, av1, old1, b1, a1, r1, fl1⟩ : Ev) = NR at HE3 HR3 HNR HP8 HS8 HTK HZA hkq
      have HTB : Hid (takenB cols ls NR k = (rkey cols && decide (0 ≤ byKeyI cols ls NR k))) := Hid.mk' rfl
      have HFIN := Hid.mk' (fun W (he : Ext w8 W) => (show RwR W (.slice (some ⟨g8, 0, none⟩) qs.length c8) (ls.set k NR) from ⟨some ⟨g8, 0, none⟩, c8, qs.set k ⟨NR, a7, c7⟩, by rw [List.length_set], (by have h1 := (HP8.out.ext he).row c8; rwa [List.length_set] at h1), (fun q hq => by
        rcases List.mem_or_eq_of_mem_set hq with h1 | h1
        · exact (HSL.out q h1).ext (HE8.out.trans he)
        · rw [h1]
          show Sl W (.slice a7 NR.length c7) 6 (NR.map K.rc)
          rw [HZA.out]
          exact HS8.out.ext he), by rw [← HLS.out, List.map_set], by rw [List.length_set]; exact hc8, (HP8.out.ext he).tag _ _ _⟩))
      clear HBN HNR HLS
      cases hk9 : rkey cols with
      | false =>
        rw [hk9] at HKD HTB
        have HE4 := Hid.mk' (HE3.out.trans (if_neg (by rw [HTB.out]; simp)))
        clear HE3 HTB HTK hk9
        refine wp_region_head 12 (fun w' => Ext (w8) w' ∧ (∀ b o, b < (w8).heap.size → w'.cell? ⟨b, o, none⟩ = (w8).cell? ⟨b, o, none⟩) ∧ (∀ b o, b < (w8).heap.size → w'.frozen? ⟨b, o, none⟩ = (w8).frozen? ⟨b, o, none⟩)) (by kernel_rfl) (by decide) ?_
        have hA0 : Hid ((fun w' => Ext (w8) w' ∧ (∀ b o, b < (w8).heap.size → w'.cell? ⟨b, o, none⟩ = (w8).cell? ⟨b, o, none⟩) ∧ (∀ b o, b < (w8).heap.size → w'.frozen? ⟨b, o, none⟩ = (w8).frozen? ⟨b, o, none⟩)) w8.drew) := held_of (by exact eX)
        refine HG.on 0 90 hA0.out ?_
        try simp only [Act.put, List.setIfInBounds_toArray, List.set_cons_zero, List.set_cons_succ]
        refine wpHd_one (i := 1) rfl rfl (by kernel_rfl) (fun KK hK => ?_)
        go_simp
        refine (HKD.out _ (HE8.out.trans (by exact eX))).mono ?_
        rintro e w9 ⟨rfl, hb9⟩
        have HE9 := Hid.mk' (show Ext w8 w9 by exact eX)
        have hA1 : Hid ((fun w' => Ext (w8) w' ∧ (∀ b o, b < (w8).heap.size → w'.cell? ⟨b, o, none⟩ = (w8).cell? ⟨b, o, none⟩) ∧ (∀ b o, b < (w8).heap.size → w'.frozen? ⟨b, o, none⟩ = (w8).frozen? ⟨b, o, none⟩)) w9) := held_of HE9.out
        refine hK.out _ _ (held_of HE9.out) (fun hA => ?_)
        clear hK KK hA hA0 hb9
        refine HG.on 2 92 hA1.out ?_
        try simp only [Act.put, List.setIfInBounds_toArray, List.set_cons_zero, List.set_cons_succ]
        refine wpHd_takeD (i := 3) (d := some 93) (v := undef) rfl rfl (by kernel_rfl) (by kernel_rfl) (by kernel_rfl) (fun _ _ _ h => h) (Or.inr ⟨by rfl, rfl⟩) hA1.out ?_
        try simp only [Act.put, List.setIfInBounds_toArray, List.set_cons_zero, List.set_cons_succ]
        refine wpHd_takeD (i := 4) (d := some 94) (v := undef) rfl rfl (by kernel_rfl) (by kernel_rfl) (by kernel_rfl) (fun _ _ _ h => h) (Or.inr ⟨by rfl, rfl⟩) hA1.out ?_
        try simp only [Act.put, List.setIfInBounds_toArray, List.set_cons_zero, List.set_cons_succ]
        refine wpHd_takeD (i := 5) (d := some 95) (v := undef) rfl rfl (by kernel_rfl) (by kernel_rfl) (by kernel_rfl) (fun _ _ _ h => h) (Or.inr ⟨by rfl, rfl⟩) hA1.out ?_
        try simp only [Act.put, List.setIfInBounds_toArray, List.set_cons_zero, List.set_cons_succ]
        refine wpHd_takeD (i := 6) (d := some 96) (v := undef) rfl rfl (by kernel_rfl) (by kernel_rfl) (by kernel_rfl) (fun _ _ _ h => h) (Or.inr ⟨by rfl, rfl⟩) hA1.out ?_
        try simp only [Act.put, List.setIfInBounds_toArray, List.set_cons_zero, List.set_cons_succ]
        refine wpHd_takeD (i := 7) (d := some 97) (v := undef) rfl rfl (by kernel_rfl) (by kernel_rfl) (by kernel_rfl) (fun _ _ _ h => h) (Or.inr ⟨by rfl, rfl⟩) hA1.out ?_
        try simp only [Act.put, List.setIfInBounds_toArray, List.set_cons_zero, List.set_cons_succ]
        refine wpHd_takeD (i := 8) (d := some 98) (v := undef) rfl rfl (by kernel_rfl) (by kernel_rfl) (by kernel_rfl) (fun _ _ _ h => h) (Or.inr ⟨by rfl, rfl⟩) hA1.out ?_
        try simp only [Act.put, List.setIfInBounds_toArray, List.set_cons_zero, List.set_cons_succ]
        refine wpHd_takeD (i := 9) (d := some 99) (v := undef) rfl rfl (by kernel_rfl) (by kernel_rfl) (by kernel_rfl) (fun _ _ _ h => h) (Or.inr ⟨by rfl, rfl⟩) hA1.out ?_
        try simp only [Act.put, List.setIfInBounds_toArray, List.set_cons_zero, List.set_cons_succ]
        refine wpHd_takeD (i := 10) (d := some 100) (v := undef) rfl rfl (by kernel_rfl) (by kernel_rfl) (by kernel_rfl) (fun _ _ _ h => h) (Or.inr ⟨by rfl, rfl⟩) hA1.out ?_
        try simp only [Act.put, List.setIfInBounds_toArray, List.set_cons_zero, List.set_cons_succ]
        refine wpHd_takeD (i := 11) (d := some 101) (v := undef) rfl rfl (by kernel_rfl) (by kernel_rfl) (by kernel_rfl) (fun _ _ _ h => h) (Or.inr ⟨by rfl, rfl⟩) hA1.out ?_
        try simp only [Act.put, List.setIfInBounds_toArray, List.set_cons_zero, List.set_cons_succ]
        refine wpHd_tail (by kernel_rfl) ?_
        simp only [List.drop_succ_cons, List.drop_zero]
        go_wp2
        go_ret2
        exact RRowsPost.good HE4.out ((HR3.out HE4.out).trans (by rw [Int.toNat_natCast])) (HFIN.out _ HE9.out) (HE8.out.trans HE9.out)
      | true =>
        rw [hk9] at HKD HTB
        generalize byKeyI cols ls NR k = I at HTK HTB
        by_cases hI : 0 ≤ I
        · have HE4 := Hid.mk' (HE3.out.trans (if_pos (by rw [HTB.out, decide_eq_true hI]; rfl)))
          have hd9 : decide (0 ≤ I) = true := decide_eq_true hI
          clear HE3 HTB hk9 hI
          go_region_held3 (fun w' => Ext (w8) w' ∧ (∀ b o, b < (w8).heap.size → w'.cell? ⟨b, o, none⟩ = (w8).cell? ⟨b, o, none⟩) ∧ (∀ b o, b < (w8).heap.size → w'.frozen? ⟨b, o, none⟩ = (w8).frozen? ⟨b, o, none⟩)) ((exact held_of (by exact eX))) (first
            | (go_at_call 28; refine (HKD.out _ (HE8.out.trans (by exact eX))).mono ?_; rintro e w9 ⟨rfl, hb9⟩; have HE9 : Hid (Ext w8 w9) := Hid.mk' (by exact eX))
            | (go_at_call 54; refine (HTK.out _ (HE8.out.trans HE9.out) HE9.out).mono ?_; rintro e w10 ⟨rfl, hb10⟩; have HE10 := Hid.mk' (HE9.out.trans hb10)))
          go_wp2
          go_ret2
          exact RRowsPost.bad HE4.out (by decide) (HE8.out.trans HE10.out)
        · have HE4 := Hid.mk' (HE3.out.trans (if_neg (by rw [HTB.out, decide_eq_false hI]; simp)))
          have hd9 : decide (0 ≤ I) = false := decide_eq_false hI
          clear HE3 HTB hk9 hI
          go_region_held3 (fun w' => Ext (w8) w' ∧ (∀ b o, b < (w8).heap.size → w'.cell? ⟨b, o, none⟩ = (w8).cell? ⟨b, o, none⟩) ∧ (∀ b o, b < (w8).heap.size → w'.frozen? ⟨b, o, none⟩ = (w8).frozen? ⟨b, o, none⟩)) ((exact held_of (by exact eX))) (first
            | (go_at_call 28; refine (HKD.out _ (HE8.out.trans (by exact eX))).mono ?_; rintro e w9 ⟨rfl, hb9⟩; have HE9 : Hid (Ext w8 w9) := Hid.mk' (by exact eX))
            | (go_at_call 54; refine (HTK.out _ (HE8.out.trans HE9.out) HE9.out).mono ?_; rintro e w10 ⟨rfl, hb10⟩; have HE10 := Hid.mk' (HE9.out.trans hb10)))
          go_wp2
          go_ret2
          exact RRowsPost.good HE4.out ((HR3.out HE4.out).trans (by rw [Int.toNat_natCast])) (HFIN.out _ HE10.out) (HE8.out.trans HE10.out)

theorem rrows_any (oid ver : Int) (nm : ByteArray) (id : Int) (cols : List Col) (a2 : Option Addr) (cap2 : Nat) (v : Value) (ls : List (List K)) (x : EL) (w : World) (hl2 : Sl w (.slice a2 cols.length cap2) 3 (cols.map Col.cells)) (hlen2 : cols.length ≤ 1000)
    (h : RwR w v ls) (hn : ls.length ≤ 1000) (hm : ∀ y ∈ ls, y.length ≤ 1000) (hx : x.at 6 K.rc w) (hs : x.e.small) :
    Calls Tryz.prog 48 #[.agg #[.int .u32 oid, .int .u32 ver, .string nm, .int .u8 id, .slice a2 cols.length cap2], v, x.agg] w (RRowsPost cols ls x.e w) := by
  by_cases h4 : x.e.kind = 4
  · exact rrows_ins oid ver nm id cols a2 cap2 v ls x w hl2 hlen2 h hn hm hx hs h4
  · exact rrows_upd oid ver nm id cols a2 cap2 v ls x w hl2 hlen2 h hn hm hx hs h4

end Go.Proofs.YtdgalkljngigeaaGreat

/-
Tables in plain words: all at once, or one by one.
-/
namespace Go.Proofs.YtdgalkljngigeaaGreat
open Go.RowKit

def T0 : Tb := fun _ _ => []
theorem rt_bits {t : Tx} {l : List Rl} (h : rtE t l = 0) : t.xid ≠ 0 ∧ t.es.length ≤ 512 ∧ ∀ e ∈ t.es, evE e l = 0 := by
  unfold rtE at h
  split at h
  · cases h
  · rename_i h0
    split at h
    · cases h
    · refine ⟨h0, by omega, fun e he => ?_⟩
      obtain ⟨j, hj, rfl⟩ := List.getElem_of_mem he
      have h2 := firstE_all h j hj
      unfold evAt at h2
      rwa [dif_pos hj] at h2
theorem rt_from {t : Tx} {l : List Rl} (h0 : t.xid ≠ 0) (h1 : t.es.length ≤ 512) (h2 : ∀ e ∈ t.es, evE e l = 0) : rtE t l = 0 :=
  (rt_ok h0 h1 (fun j hj => by unfold evAt; rw [dif_pos hj]; exact h2 _ (List.getElem_mem hj))).1
theorem ap_bits {rs : List Rl} {T : Tb} {t : Tx} (h : apE rs T t = 0) : rtE t rs = 0 ∧ ∀ i, i < t.es.length → evXat rs T t.es i = 0 := by
  unfold apE at h
  split at h
  · rename_i h0; exact absurd h h0
  · rename_i h0
    exact ⟨by simpa using h0, firstE_all h⟩
theorem stT_left {rs : List Rl} {T : Tb} {a b : List Ev} : ∀ {k : Nat}, k ≤ a.length → stT rs T (a ++ b) k = stT rs T a k
  | 0, _ => rfl
  | k + 1, h => by
    have h1 : k < a.length := by omega
    rw [stT_succ h1, stT_succ (by rw [List.length_append]; omega), stT_left (by omega), List.getElem_append_left h1]
theorem stT_right {rs : List Rl} {T : Tb} {a b : List Ev} : ∀ {k : Nat}, k ≤ b.length → stT rs T (a ++ b) (a.length + k) = stT rs (stT rs T a a.length) b k
  | 0, _ => stT_left (Nat.le_refl _)
  | k + 1, h => by
    have h1 : k < b.length := by omega
    have h2 : a.length + k < (a ++ b).length := by rw [List.length_append]; omega
    rw [stT_succ h1, show a.length + (k + 1) = (a.length + k) + 1 by omega, stT_succ h2, stT_right (by omega), List.getElem_append_right (by omega)]
    congr 2
    omega
theorem evXat_left {rs : List Rl} {T : Tb} {a b : List Ev} {k : Nat} (h : k < a.length) : evXat rs T (a ++ b) k = evXat rs T a k := by
  rw [evXat_at h, evXat_at (by rw [List.length_append]; omega), stT_left (by omega), List.getElem_append_left h]
theorem evXat_right {rs : List Rl} {T : Tb} {a b : List Ev} {k : Nat} (h : k < b.length) : evXat rs T (a ++ b) (a.length + k) = evXat rs (stT rs T a a.length) b k := by
  have h2 : a.length + k < (a ++ b).length := by rw [List.length_append]; omega
  rw [evXat_at h, evXat_at h2, stT_right (by omega), List.getElem_append_right (by omega)]
  congr 2
  omega

/-- What all that was done makes of no rows. -/
structure OneI (rs : List Rl) (T : Tb) (all : List Ev) : Prop where
  ev : ∀ e ∈ all, evE e rs = 0
  x : ∀ i, i < all.length → evXat rs T0 all i = 0
  t : stT rs T0 all all.length = T
theorem OneI.nil (rs : List Rl) : OneI rs T0 [] := ⟨(fun e h => by cases h), (fun i h => absurd h (Nat.not_lt_zero _)), rfl⟩
theorem OneI.step {rs : List Rl} {T : Tb} {all : List Ev} {t : Tx} (h : OneI rs T all) (h0 : apE rs T t = 0) : OneI rs (apT rs T t) (all ++ t.es) := by
  obtain ⟨h1, h2⟩ := ap_bits h0
  refine ⟨fun e he => ?_, fun i hi => ?_, ?_⟩
  · rcases List.mem_append.1 he with he | he
    · exact h.ev e he
    · exact (rt_bits h1).2.2 e he
  · rcases Nat.lt_or_ge i all.length with h3 | h3
    · rw [evXat_left h3]; exact h.x i h3
    · obtain ⟨k, rfl⟩ : ∃ k, i = all.length + k := ⟨i - all.length, by omega⟩
      rw [List.length_append] at hi
      rw [evXat_right (by omega), h.t]
      exact h2 k (by omega)
  · rw [List.length_append, stT_right (Nat.le_refl _), h.t]
    unfold apT
    rw [h0, if_neg (by simp)]
theorem OneI.fin {rs : List Rl} {T : Tb} {all : List Ev} (h : OneI rs T all) (hn : all.length ≤ 512) : apE rs T0 ⟨1, 0, all⟩ = 0 ∧ apP rs T0 ⟨1, 0, all⟩ = -1 ∧ apT rs T0 ⟨1, 0, all⟩ = T := by
  have h1 : rtE (⟨1, 0, all⟩ : Tx) rs = 0 := rt_from (show (1 : Int) ≠ 0 by decide) hn h.ev
  obtain ⟨e1, e2, e3⟩ := ap_good (T := T0) h1 h.x
  exact ⟨e1, e2, e3.trans h.t⟩

end Go.Proofs.YtdgalkljngigeaaGreat

/-
The reference's tables in memory; New, Rows.
-/
namespace Go.Proofs.YtdgalkljngigeaaGreat
open Go.RowKit

def sv (x : Value) : List Value := [x]
/-- A slice of the rows of all relations lies in a block of such. -/
def TagS (W : World) (v : Value) : Prop := ∀ b o n c, v = .slice (some ⟨b, o, none⟩) n c → 0 < n → ∃ cs : Array Value, Blk W b cs 63
theorem TagS.kp {W W' : World} {v : Value} (h : TagS W v) (hb : ∀ b cs, Blk W b cs 63 → Blk W' b cs 63) : TagS W' v := fun b o n c e h0 => by
  obtain ⟨cs, h1⟩ := h b o n c e h0
  exact ⟨cs, hb b cs h1⟩
theorem TagS.of {W : World} {g : Nat} {cs : Array Value} (h : Blk W g cs 63) (o n c : Nat) : TagS W (.slice (some ⟨g, o, none⟩) n c) := fun b o' n' c' e _ => by
  simp only [Value.slice.injEq, Option.some.injEq, Addr.mk.injEq] at e
  obtain ⟨⟨rfl, -, -⟩, -, -⟩ := e
  exact ⟨cs, h⟩
/-- The rows of all relations, in their order. -/
def RT (W : World) (tv : Value) (ps : List RR) (T : Tb) : Prop := ∃ (a : Option Addr) (c : Nat) (xs : List Value), tv = .slice a ps.length c ∧ Sl W tv 1 (xs.map sv) ∧ xs.length = ps.length ∧ (∀ i (h1 : i < xs.length) (h2 : i < ps.length), RwR W (xs[i]'h1) (T (ps[i]'h2).r.oid (ps[i]'h2).r.ver)) ∧ TagS W tv
theorem RT.ext {W W' : World} {tv : Value} {ps : List RR} {T : Tb} (h : RT W tv ps T) (he : Ext W W') : RT W' tv ps T := by
  obtain ⟨a, c, xs, rfl, h1, h2, h3, h4⟩ := h
  exact ⟨a, c, xs, rfl, h1.ext he, h2, fun i q1 q2 => (h3 i q1 q2).ext he, h4.kp fun _ _ h => h.ext he⟩
theorem Tryz.infoRowsR : (Tryz.prog.info? 63).map (fun i => (i.zero, i.size, i.bytes)) = some (some (.slice none 0 0), 1, 24) := by kernel_rfl
theorem run_makeRows (n : Nat) (hn : n ≤ 1000) (w : World) :
    ∃ cs : Array Value, (Instr.makeSlice 54 (.int .i64 (n : Int)) (.int .i64 (n : Int))).run Tryz.prog w = .ok (.slice (some ⟨w.heap.size, 0, none⟩) n n) (w.alloc (.cells cs 63)) ∧ ∀ i, i < n → cs[i]? = some (.slice none 0 0) := by
  obtain ⟨i0, hi, hz0, hz1, hz2⟩ := info_parts Tryz.infoRowsR
  have hr := run_make (P := Tryz.prog) w 54 63 i0 _ Tryz.underlying54 hi hz0 .i64 .i64 (n : Int) (n : Int) (by omega) (by omega) (by rw [hz2]; omega) (by omega)
  simp only [Int.toNat_natCast, hz1] at hr
  refine ⟨_, hr, fun i hi => ?_⟩
  have hlt : i < n * 1 := by omega
  simp only [madeCells, Array.getElem?_map, Array.getElem?_range, hlt]
  simp [Value.cells, Nat.mod_one]

set_option maxRecDepth 100000 in set_option maxHeartbeats 4000000 in
theorem rnew22_any (ps : List RR) (a : Option Addr) (c : Nat) (w : World) (hlen : ps.length ≤ 1000) :
    Calls Tryz.prog 17 #[.slice a ps.length c] w fun e w' => ∃ ta tc, e = .returned (.agg #[.slice a ps.length c, .slice ta ps.length tc]) ∧ RT w' (.slice ta ps.length tc) ps T0 ∧ Ext w w' := by
  obtain ⟨cs, hmk, hcs⟩ := run_makeRows ps.length hlen (w.alloc (.cells #[.slice none 0 0, .slice none 0 0] 56))
  have HCS := Hid.mk' hcs
  clear hcs
  go_enter Tryz.func17, Tryz.ntmps17
  go_wp2
  have hB : Blk ((w.alloc (.cells #[.slice a ps.length c, .slice (some ⟨w.heap.size + 1, 0, none⟩) ps.length ps.length] 56)).alloc (.cells cs 63)) (w.heap.size + 1) cs 63 := Blk.new' _ _ (by simp)
  simp [bodyPost, results, Tryz.results17, go_sem]
  refine ⟨some ⟨w.heap.size + 1, 0, none⟩, ps.length, ⟨rfl, rfl⟩, ⟨_, _, List.replicate ps.length (.slice none 0 0), rfl, ⟨some ⟨w.heap.size + 1, 0, none⟩, ps.length, by simp, ?_⟩, by simp, (fun i h1 h2 => by rw [List.getElem_replicate]; exact RwR.nil _), TagS.of hB _ _ _⟩, by exact eX⟩
  by_cases h0 : ps.length = 0
  · left; rw [h0]; rfl
  · refine .inr ⟨w.heap.size + 1, 0, rfl, hB.lt, fun i hi j hj => ?_⟩
    have hi2 : i < ps.length := by simpa using hi
    obtain rfl : j = 0 := by omega
    rw [hB.cell, Nat.mul_one, Nat.zero_add, Nat.add_zero, HCS.out i hi2, getD_map sv _ (by simpa using hi2), List.getElem_replicate]
    rfl

theorem RT.at_ {W : World} {ta : Option Addr} {n tc : Nat} {ps : List RR} {T : Tb} (h : RT W (.slice ta n tc) ps T) {i : Nat} (hi : i < ps.length) : n = ps.length ∧ ∃ b o x, ta = some ⟨b, o, none⟩ ∧ b < W.heap.size ∧ W.cell? ⟨b, o + i, none⟩ = some x ∧ RwR W x (T (ps[i]'hi).r.oid (ps[i]'hi).r.ver) := by
  obtain ⟨a, c, xs, hv, h1, h2, h3, -⟩ := h
  simp only [Value.slice.injEq] at hv
  obtain ⟨rfl, rfl, rfl⟩ := hv
  have hx : i < xs.length := by omega
  have h1' : Sl W (.slice ta ps.length tc) 1 (xs.map sv) := h1
  obtain ⟨b, o, rfl, hb, hc⟩ := Sl.at_ (i := i) h1' (by simpa using hx)
  refine ⟨rfl, b, o, _, rfl, hb, ?_, h3 i hx hi⟩
  have h4 := hc 0 (by omega)
  rw [getD_map sv _ hx, Nat.mul_one, Nat.add_zero] at h4
  exact h4
theorem plI_at {rs : List Rl} (hs : Srt rs) {i : Nat} (hi : i < rs.length) : plI rs rs[i].oid rs[i].ver = i := by
  refine idxI_at (fun j hj => ?_) ?_ hi
  · have hj2 : j < rs.length := by omega
    rw [isR_at hj2]
    refine decide_eq_false (fun e => ?_)
    have h1 := List.pairwise_iff_getElem.1 hs j i hj2 hi hj
    unfold Rl.lt aheadP at h1
    omega
  · rw [isR_at hi]
    exact decide_eq_true ⟨rfl, rfl⟩
theorem plI_cases (rs : List Rl) (o v : Int) : (plI rs o v = -1 ∧ hasR o v rs = false) ∨ ∃ k, ∃ h : k < rs.length, plI rs o v = (k : Int) ∧ rs[k].oid = o ∧ rs[k].ver = v := by
  rcases idxI_cases (fun i => isR o v (rs.getD i ⟨0, 0, ⟨#[]⟩, 0, []⟩)) rs.length with ⟨h1, h2⟩ | ⟨k, h1, -, h3, h4⟩
  · refine .inl ⟨h1, ?_⟩
    rw [Bool.eq_false_iff]
    intro h
    obtain ⟨x, hx, h3⟩ := List.any_eq_true.1 h
    obtain ⟨j, hj, rfl⟩ := List.getElem_of_mem hx
    have h4 := h2 j hj
    rw [isR_at hj] at h4
    exact absurd (of_decide_eq_true h3) (of_decide_eq_false h4)
  · refine .inr ⟨k, h1, h4, ?_⟩
    rw [isR_at h1] at h3
    exact of_decide_eq_true h3

/-- The rows of a ref: none, where there is no such relation. -/
def rowsOf (rs : List Rl) (T : Tb) (o v : Int) : List (List K) := if hasR o v rs = true then T o v else []
set_option maxRecDepth 100000 in set_option maxHeartbeats 4000000 in
theorem rrows22_any (ps : List RR) (T : Tb) (a : Option Addr) (c : Nat) (ta : Option Addr) (n tc : Nat) (o v : Int) (w : World) (hl : RL w (.slice a ps.length c) ps) (hlen : ps.length ≤ 1000) (ht : RT w (.slice ta n tc) ps T) :
    Calls Tryz.prog 19 #[.agg #[.slice a ps.length c, .slice ta n tc], .agg #[.int .u32 o, .int .u32 v]] w fun e w' => ∃ x, e = .returned x ∧ RwR w' x (rowsOf (ps.map RR.r) T o v) ∧ Ext w w' := by
  have HPL := Hid.mk' (fun W (h : Ext w W) => rplace_any ps a c ta n tc o v W (hl.ext h) hlen)
  have HT := Hid.mk' ht
  clear hl ht
  rcases plI_cases (ps.map RR.r) o v with ⟨h1, h2⟩ | ⟨k, hk, h1, h2, h3⟩
  · rw [h1] at HPL
    have HRO := Hid.mk' (show rowsOf (ps.map RR.r) T o v = [] from by unfold rowsOf; rw [h2, if_neg (by simp)])
    clear h1 h2
    go_enter Tryz.func19, Tryz.ntmps19
    go_wp2_with (go_at_call 47; refine (HPL.out _ (by exact eX)).mono ?_; rintro e w2 ⟨rfl, hb2⟩; have HB2 := Hid.mk' (show Ext w w2 by exact eX); clear hb2)
    go_ret
    exact ⟨_, rfl, by rw [HRO.out]; exact RwR.nil _, HB2.out⟩
  · rw [h1] at HPL
    have hkp : k < ps.length := by simpa using hk
    obtain ⟨rfl, b, q, x, rfl, hb, hx, hr⟩ := HT.out.at_ hkp
    rw [List.getElem_map] at h2 h3
    rw [h2, h3] at hr
    have HRO := Hid.mk' (show rowsOf (ps.map RR.r) T o v = T o v from by
      unfold rowsOf
      rw [if_pos]
      unfold hasR
      refine List.any_eq_true.2 ⟨_, List.mem_map_of_mem (List.getElem_mem hkp), ?_⟩
      exact decide_eq_true ⟨h2, h3⟩)
    have HRX := Hid.mk' hr
    have HF := Hid.mk' (fun W (h : Ext w W) => (show W.cell? ⟨b, q + k, none⟩ = some x ∧ b < W.heap.size from ⟨(h.cells.1 b _ hb).trans hx, Nat.lt_of_lt_of_le hb h.size⟩))
    have i1 : (k : Int) < (ps.length : Int) := by omega
    have hd1 : decide (ps.length ≤ k) = false := decide_eq_false (by omega)
    have hd2 : decide ((ps.length : Int) ≤ (k : Int)) = false := decide_eq_false (by omega)
    have hd3 : decide ((k : Int) < 0) = false := decide_eq_false (by omega)
    have HKP := Hid.mk' hkp
    clear h1 h2 h3 hr hx hb hk
    go_enter Tryz.func19, Tryz.ntmps19
    have HX := Hid.mk' ((Blk.new w #[.slice a ps.length c, .slice (some ⟨b, q, none⟩) ps.length tc] 56).alloc (.cells #[.int .u32 o, .int .u32 v] 44))
    go_upto_region 2 with (go_at_call 47; refine (HPL.out _ (by exact eX)).mono ?_; rintro e w2 ⟨rfl, hb2⟩; have HB2 := Hid.mk' (show Ext w w2 by exact eX); have HX2 := Hid.mk' (HX.out.ext hb2); clear hb2)
    obtain ⟨f0, hbw⟩ := HF.out _ HB2.out
    have gX := HX2.out.cell
    have zX := HX2.out.lt
    go_wp2
    go_ret
    exact ⟨_, rfl, by rw [HRO.out]; exact HRX.out.ext HB2.out, HB2.out⟩

end Go.Proofs.YtdgalkljngigeaaGreat

/-
The reference's rows of all relations in a block of the call's own.
-/
namespace Go.Proofs.YtdgalkljngigeaaGreat
open Go.RowKit

/-- The rows of all relations in a block that is known. -/
def RTo (W : World) (M : Nat) (ps : List RR) (T : Tb) : Prop := ∃ cs : Array Value, Blk W M cs 63 ∧ ∀ i (h : i < ps.length), ∃ x, cs[i]? = some x ∧ RwR W x (T (ps[i]'h).r.oid (ps[i]'h).r.ver)
section
variable {W W' : World} {M : Nat} {ps : List RR} {T : Tb} {v u : Value} {ls : List (List K)}
theorem RwR.isSl (h : RwR W v ls) : ∃ a n c, v = .slice a n c := by
  obtain ⟨a, c, qs, rfl, -⟩ := h
  exact ⟨_, _, _, rfl⟩
/-- Rows stand where a slice of the outer block is overwritten by another. -/
theorem RwR.over {cs : Array Value} {i n c : Nat} {x : Option Addr} (h : RwR W v ls) (hb : Blk W M cs 63) (hi : cs[i]? = some (.slice x n c)) : RwR (W.setCell ⟨M, i, none⟩ u) v ls := by
  obtain ⟨a, c', qs, rfl, h1, h2, h3, h4, h5⟩ := h
  have hk : Kp (fun x => x = M) W (W.setCell ⟨M, i, none⟩ u) := Kp.set _ _ rfl
  have hne : ∀ b cs', Blk W b cs' 45 → ¬ b = M := fun b cs' h e => by
    subst e
    unfold Blk at h hb
    rw [hb] at h
    simp only [Option.some.injEq, Obj.cells.injEq] at h
    exact absurd h.2.1 (by decide)
  refine ⟨a, c', qs, rfl, h1.kp hk (fun h0 b o e => ?_), fun q hq => (h2 q hq).overR (by rw [hb.cell]; exact hi), h3, h4, h5.kp (fun b cs' h => h.kp hk (hne b cs' h))⟩
  obtain ⟨cs', h6⟩ := h5 b o qs.length c' (by rw [e]) (by
    rcases Nat.eq_zero_or_pos qs.length with h | h
    · exact absurd (by rw [List.length_eq_zero_iff.1 h]; rfl) h0
    · exact h)
  exact hne b cs' h6
theorem RTo.lt (h : RTo W M ps T) : M < W.heap.size := by obtain ⟨cs, h1, -⟩ := h; exact h1.lt
theorem RTo.frozen (h : RTo W M ps T) (o : Nat) : W.frozen? ⟨M, o, none⟩ = false := by obtain ⟨cs, h1, -⟩ := h; exact h1.frozen o
theorem RTo.ext (h : RTo W M ps T) (he : Ext W W') : RTo W' M ps T := by
  obtain ⟨cs, h1, h2⟩ := h
  refine ⟨cs, h1.ext he, fun i hi => ?_⟩
  obtain ⟨x, h3, h4⟩ := h2 i hi
  exact ⟨x, h3, h4.ext he⟩
theorem RTo.at_ (h : RTo W M ps T) {i : Nat} (hi : i < ps.length) : ∃ a n c, W.cell? ⟨M, i, none⟩ = some (.slice a n c) ∧ RwR W (.slice a n c) (T (ps[i]'hi).r.oid (ps[i]'hi).r.ver) := by
  obtain ⟨cs, h1, h2⟩ := h
  obtain ⟨x, h3, h4⟩ := h2 i hi
  obtain ⟨a, n, c, rfl⟩ := h4.isSl
  exact ⟨a, n, c, by rw [h1.cell, h3], h4⟩
theorem RTo.set (h : RTo W M ps T) (hs : Srt (ps.map RR.r)) {i : Nat} (hi : i < ps.length) (hx : RwR W v ls) : RTo (W.setCell ⟨M, i, none⟩ v) M ps (T.put (ps[i]'hi).r.oid (ps[i]'hi).r.ver ls) := by
  obtain ⟨cs, h1, h2⟩ := h
  obtain ⟨y, hy, hy2⟩ := h2 i hi
  obtain ⟨a, n, c, rfl⟩ := hy2.isSl
  have hsz : i < cs.size := by
    rcases Nat.lt_or_ge i cs.size with q | q
    · exact q
    · rw [Array.getElem?_eq_none q] at hy; cases hy
  refine ⟨_, h1.set i v, fun j hj => ?_⟩
  by_cases e : j = i
  · subst e
    refine ⟨v, Array.getElem?_setIfInBounds_self_of_lt hsz, ?_⟩
    unfold Tb.put
    rw [if_pos ⟨rfl, rfl⟩]
    exact hx.over h1 hy
  · obtain ⟨x, h3, h4⟩ := h2 j hj
    refine ⟨x, by rw [Array.getElem?_setIfInBounds_ne (Ne.symm e)]; exact h3, ?_⟩
    unfold Tb.put
    rw [if_neg]
    · exact h4.over h1 hy
    · rintro ⟨q1, q2⟩
      have hj' : j < (ps.map RR.r).length := by simpa using hj
      have hi' : i < (ps.map RR.r).length := by simpa using hi
      have h5 := plI_at hs hj'
      have h6 := plI_at hs hi'
      rw [List.getElem_map] at h5 h6
      rw [q1, q2, h6] at h5
      omega
theorem RTo.rt (h : RTo W M ps T) (c : Nat) : RT W (.slice (some ⟨M, 0, none⟩) ps.length c) ps T := by
  obtain ⟨cs, h1, h2⟩ := h
  have hsz : ∀ i, i < ps.length → i < cs.size := fun i hi => by
    obtain ⟨x, h3, -⟩ := h2 i hi
    rcases Nat.lt_or_ge i cs.size with q | q
    · exact q
    · rw [Array.getElem?_eq_none q] at h3; cases h3
  have hl : (cs.toList.take ps.length).length = ps.length := by
    rw [List.length_take, show cs.toList.length = cs.size from Array.length_toList]
    refine Nat.min_eq_left ?_
    rcases Nat.eq_zero_or_pos ps.length with q | q
    · rw [q]; exact Nat.zero_le _
    · have := hsz (ps.length - 1) (by omega); omega
  have hg : ∀ i (q1 : i < (cs.toList.take ps.length).length) (q2 : i < ps.length), cs[i]? = some ((cs.toList.take ps.length)[i]'q1) := fun i q1 q2 => by
    rw [List.getElem_take, Array.getElem_toList, Array.getElem?_eq_getElem]
  refine ⟨_, c, cs.toList.take ps.length, rfl, ⟨some ⟨M, 0, none⟩, c, by rw [List.length_map, hl], .inr ⟨M, 0, rfl, h1.lt, fun i hi j hj => ?_⟩⟩, hl, fun i q1 q2 => ?_, TagS.of h1 _ _ _⟩
  · obtain rfl : j = 0 := by omega
    rw [List.length_map] at hi
    rw [getD_map sv _ hi, Nat.mul_one, Nat.zero_add, Nat.add_zero, h1.cell, hg i hi (by omega)]
    rfl
  · obtain ⟨x, h3, h4⟩ := h2 i q2
    rw [hg i q1 q2] at h3
    injection h3 with h3
    rw [h3]; exact h4
theorem RTo.of_owns {base n cap : Nat} {xs : List Value} (h : W.ownsRow base 63 1 (.slice (some ⟨M, 0, none⟩) n cap) n xs) (hn : n = ps.length) (hl : xs.length = ps.length) (hx : ∀ i (q1 : i < xs.length) (q2 : i < ps.length), RwR W (xs[i]'q1) (T (ps[i]'q2).r.oid (ps[i]'q2).r.ver)) : RTo W M ps T := by
  obtain ⟨h1, h2⟩ := h
  rcases h2 with ⟨h3, _⟩ | ⟨g', cap', cur, hv, hg, hh, hnc, hcap, hsz, htake⟩
  · cases h3
  · simp only [Value.slice.injEq, Option.some.injEq, Addr.mk.injEq] at hv
    obtain ⟨⟨rfl, -, -⟩, -, rfl⟩ := hv
    refine ⟨cur, hh, fun i hi => ⟨xs[i]'(by omega), ?_, hx i (by omega) hi⟩⟩
    rw [Nat.mul_one] at htake
    have h3 := congrArg (fun z => z[i]?) htake
    simp only [List.getElem?_eq_getElem (show i < xs.length by omega)] at h3
    rw [List.getElem?_take_of_lt (by omega), Array.getElem?_toList] at h3
    exact h3
end
theorem sv_flat (xs : List Value) : (xs.map sv).flatten = xs := by
  induction xs with
  | nil => rfl
  | cons x r ih => rw [List.map_cons, List.flatten_cons, ih]; rfl
/-- A copy of the rows of all relations. -/
theorem RTo.made {W : World} {N B B' : Nat} {ps : List RR} {T : Tb} {v : Value} {xs : List Value} (h : W.ownsRow N 63 1 v (0 + (xs.map sv).length) ([] ++ (xs.map sv).flatten)) (hat : v.ownBlock = some B ∨ v.ownBlock = some B') (hl : xs.length = ps.length) (hx : ∀ i (q1 : i < xs.length) (q2 : i < ps.length), RwR W (xs[i]'q1) (T (ps[i]'q2).r.oid (ps[i]'q2).r.ver)) :
    ∃ M c9, v = .slice (some ⟨M, 0, none⟩) ps.length c9 ∧ N ≤ M ∧ RTo W M ps T := by
  rw [Nat.zero_add, List.length_map, List.nil_append, sv_flat, hl] at h
  obtain ⟨a', c', rfl⟩ := owns_shape h
  have hM : ∃ M, a' = some ⟨M, 0, none⟩ := by
    rcases h.2 with ⟨h3, _⟩ | ⟨g', cap', cur, hv, -⟩
    · rw [h3] at hat
      rcases hat with hat | hat <;> cases hat
    · simp only [Value.slice.injEq] at hv
      exact ⟨g', hv.1⟩
  obtain ⟨M, rfl⟩ := hM
  refine ⟨M, c', rfl, (owns_lt3 h (g := M) rfl).1, RTo.of_owns h rfl hl hx⟩
/-- What stands when the block of the call's own is turned. -/
theorem Ext.own {w W : World} {M i : Nat} (he : Ext w W) (hM : w.heap.size ≤ M) (v : Value) : Ext w (W.setCell ⟨M, i, none⟩ v) :=
  Kp.ext he (fun x hx _ => by rw [hx]; exact hM) (Kp.set (S := fun x => x = M) ⟨M, i, none⟩ v rfl)
/-- The relation of a ref, and where it stands. -/
theorem pl_rel {ps : List RR} (hs : Srt (ps.map RR.r)) {o v : Int} {r : Rl} (h : getR o v (ps.map RR.r) = some r) : ∃ k, ∃ hk : k < ps.length, plI (ps.map RR.r) o v = (k : Int) ∧ (ps[k]'hk).r = r ∧ r.oid = o ∧ r.ver = v := by
  obtain ⟨h1, h2, h3⟩ := getR_some h
  obtain ⟨k, hk, e⟩ := List.getElem_of_mem h1
  have hk2 : k < ps.length := by simpa using hk
  refine ⟨k, hk2, ?_, by rw [List.getElem_map] at e; exact e, h2, h3⟩
  have h4 := plI_at hs hk
  rw [e, h2, h3] at h4
  exact h4
theorem pl_has {ps : List RR} {o v : Int} (h : hasR o v (ps.map RR.r) = true) : ∃ k, ∃ hk : k < ps.length, plI (ps.map RR.r) o v = (k : Int) ∧ (ps[k]'hk).r.oid = o ∧ (ps[k]'hk).r.ver = v := by
  rcases plI_cases (ps.map RR.r) o v with ⟨-, h2⟩ | ⟨k, hk, h1, h2, h3⟩
  · rw [h] at h2; cases h2
  · exact ⟨k, by simpa using hk, h1, by rw [List.getElem_map] at h2; exact h2, by rw [List.getElem_map] at h3; exact h3⟩

end Go.Proofs.YtdgalkljngigeaaGreat

/-
slices.Clone of a row.
-/
namespace Go.Proofs.YtdgalkljngigeaaGreat
open Go.RowKit

theorem flatK_len (l : List K) : (l.map K.pc).flatten.length = l.length * 5 := by
  have := flat_length 5 (l.map K.pc) (fun xs hxs => by simp at hxs; obtain ⟨c, _, rfl⟩ := hxs; rfl)
  rwa [List.length_map] at this
theorem news_row {w : World} {b o : Nat} {l : List K} (h : ∀ i, i < l.length → ∀ j, j < 5 → w.cell? ⟨b, o + i * 5 + j, none⟩ = ((l.map K.pc).getD i [])[j]?) : ∀ j u, ((l.map K.pc).flatten)[j]? = some u → w.cell? ((⟨b, o, none⟩ : Addr).add j) = some u := by
  intro j u hj
  have hjl : j < l.length * 5 := by
    rcases Nat.lt_or_ge j (l.length * 5) with h | h
    · exact h
    · rw [List.getElem?_eq_none (by rw [flatK_len]; exact h)] at hj; cases hj
  have hplain : (⟨b, o, none⟩ : Addr).add j = ⟨b, o + j, none⟩ := by unfold Addr.add; split <;> simp_all
  have hi : j / 5 < l.length := by omega
  have hq := flat_get 5 (l.map K.pc) (fun xs hxs => by simp at hxs; obtain ⟨c, _, rfl⟩ := hxs; rfl) (j / 5) (by simpa using hi) (j % 5) (Nat.mod_lt _ (by decide))
  have hm : j / 5 * 5 + j % 5 = j := by omega
  rw [hm] at hq
  rw [hplain, ← hj, hq, ← h (j / 5) hi (j % 5) (Nat.mod_lt _ (by decide)), Nat.add_assoc, hm]

set_option maxRecDepth 100000 in set_option maxHeartbeats 1600000 in
theorem clonek_any (l : List K) (a : Option Addr) (cap : Nat) (w : World) (hl : Sl w (.slice a l.length cap) 5 (l.map K.pc)) (hlen : l.length ≤ 1000) :
    Calls Tryz.prog 49 #[.slice a l.length cap] w fun e w' => ∃ a' cap', e = .returned (.slice a' l.length cap') ∧ w'.ownsRow w.heap.size 124 5 (.slice a' l.length cap') l.length ((l.map K.pc).flatten) ∧ Ext w w' := by
  obtain ⟨i0, hi, hz0, hz1, hz2⟩ := info_parts Tryz.infoCellP
  have HL := Hid.mk' hl
  clear hl
  cases a with
  | none =>
    have h0 : l = [] := by
      obtain ⟨a, c, hv, h⟩ := HL.out
      simp only [Value.slice.injEq] at hv
      rcases h with h | ⟨b, o, ha, _⟩
      · simpa using h
      · rw [← hv.1] at ha; cases ha
    obtain ⟨a, c, hv, -⟩ := HL.out
    subst h0
    clear HL hv
    go_enter Tryz.func49, Tryz.ntmps49
    go_wp2
    go_ret
    exact ⟨_, _, rfl, World.ownsRow_nil _ _ _ _, by exact eX⟩
  | some ad =>
    have hnews : ∀ j u, ((l.map K.pc).flatten)[j]? = some u → (w.alloc (.cells #[] 124)).cell? (ad.add j) = some u := by
      obtain ⟨a, c, hv, h⟩ := HL.out
      simp only [Value.slice.injEq] at hv
      obtain ⟨rfl, -, -⟩ := hv
      rcases h with h | ⟨b, o, ha, hb, hc⟩
      · have h0 : l = [] := by simpa using h
        subst h0; intro j u hj; simp at hj
      · cases ha
        refine news_row fun i hi j hj => ?_
        have hE : Ext w (w.alloc (.cells #[] 124)) := (Ext.refl w).alloc _
        rw [hE.cells.1 b _ hb]
        exact hc i (by simpa using hi) j hj
    have HN := Hid.mk' hnews
    clear HL hnews
    go_enter Tryz.func49, Tryz.ntmps49
    go_wp2_with (at_builtin; refine wpList_append_own _ rfl _ _ 71 rfl w.heap.size 124 i0 _ 5 56 Tryz.underlying71 hi hz0 hz1 hz2 rfl (by decide) (.slice (some ⟨w.heap.size, 0, none⟩) 0 0) 0 [] rfl ?c0 _ l.length _ ((l.map K.pc).flatten) rfl (flatK_len l) HN.out ?c2 ?c3 ?c4 ?c5 ?_)
    case c0 => exact ⟨rfl, .inr ⟨_, 0, #[], rfl, Nat.le_refl _, Blk.new w #[] _, Nat.le_refl _, Nat.zero_le _, rfl, rfl⟩⟩
    case c2 => intro u hu; rw [List.mem_flatten] at hu; obtain ⟨xs, hxs, hu⟩ := hu; rw [List.mem_map] at hxs; obtain ⟨c, _, rfl⟩ := hxs; simp [K.pc] at hu; rcases hu with rfl | rfl | rfl | rfl | rfl <;> rfl
    case c3 => unfold maxLen; omega
    case c4 => omega
    case c5 => simp
    intro v' w2 hown hgrow _
    have hown : w2.ownsRow w.heap.size 124 5 v' l.length ((l.map K.pc).flatten) := by simpa using hown
    have hE2 : Ext w w2 := ((Ext.refl w).alloc (.cells #[] 124)).grown (v := .slice (some ⟨w.heap.size, 0, none⟩) 0 0) (e := 124) (size := 5) (n := 0) (xs := []) ⟨rfl, .inr ⟨_, 0, #[], rfl, Nat.le_refl _, Blk.new w #[] _, Nat.le_refl _, Nat.zero_le _, rfl, rfl⟩⟩ hgrow
    obtain ⟨a', c', rfl⟩ := owns_shape hown
    have HO := Hid.mk' hown
    have HE2 := Hid.mk' hE2
    clear hown hE2 hgrow
    go_wp2
    go_ret
    exact ⟨a', c', rfl, HO.out, HE2.out⟩

end Go.Proofs.YtdgalkljngigeaaGreat

/-
A new image with what was the same: the program's image.Merge, the reference's.
-/
namespace Go.Proofs.YtdgalkljngigeaaGreat
open Go.RowKit

/-- The first k of a row merged. -/
def mergeTo (b l : List K) (k : Nat) : List K := l.mapIdx fun i c => if i < k ∧ c.k = 1 then (b[i]?).getD c else c
theorem mergeTo_len {b l : List K} {k : Nat} : (mergeTo b l k).length = l.length := by simp [mergeTo]
theorem mergeTo_get {b l : List K} {k i : Nat} (h : i < (mergeTo b l k).length) : (mergeTo b l k)[i] = if i < k ∧ (l[i]'(by rw [mergeTo_len] at h; exact h)).k = 1 then (b[i]?).getD (l[i]'(by rw [mergeTo_len] at h; exact h)) else l[i]'(by rw [mergeTo_len] at h; exact h) := by simp [mergeTo]
theorem mergeTo_zero {b l : List K} : mergeTo b l 0 = l := by
  apply List.ext_getElem
  · rw [mergeTo_len]
  · intro i h1 h2; rw [mergeTo_get, if_neg (by omega)]
theorem mergeTo_all {b l : List K} : mergeTo b l l.length = mergeK b l := by
  apply List.ext_getElem
  · rw [mergeTo_len, mergeK_len]
  · intro i h1 h2
    have hi : i < l.length := by rwa [mergeTo_len] at h1
    rw [mergeTo_get, mergeK_get]
    by_cases h : l[i].k = 1
    · rw [if_pos ⟨hi, h⟩, if_pos h]
    · rw [if_neg (fun q => h q.2), if_neg h]
theorem mergeTo_at {b l : List K} {k : Nat} (h : k < (mergeTo b l k).length) : (mergeTo b l k)[k] = l[k]'(by rwa [mergeTo_len] at h) := by rw [mergeTo_get, if_neg (by omega)]
theorem mergeTo_skip {b l : List K} {k : Nat} (hk : k < l.length) (h : ¬ (l[k].k = 1 ∧ k < b.length)) : mergeTo b l (k + 1) = mergeTo b l k := by
  apply List.ext_getElem
  · rw [mergeTo_len, mergeTo_len]
  · intro i h1 h2
    rw [mergeTo_get, mergeTo_get]
    by_cases e : i = k
    · subst e
      rw [if_neg (fun q : i < i ∧ _ => by omega)]
      by_cases h1 : l[i].k = 1
      · rw [if_pos ⟨by omega, h1⟩, List.getElem?_eq_none (by have : ¬ i < b.length := fun q => h ⟨h1, q⟩; omega)]; rfl
      · rw [if_neg (fun q => h1 q.2)]
    · by_cases h3 : i < k ∧ (l[i]'(by rwa [mergeTo_len] at h1)).k = 1
      · rw [if_pos h3, if_pos ⟨by omega, h3.2⟩]
      · rw [if_neg h3, if_neg (fun q => h3 ⟨by omega, q.2⟩)]
theorem mergeTo_set {b l : List K} {k : Nat} (hk : k < l.length) (h : l[k].k = 1) (hb : k < b.length) : mergeTo b l (k + 1) = (mergeTo b l k).set k b[k] := by
  apply List.ext_getElem
  · rw [mergeTo_len, List.length_set, mergeTo_len]
  · intro i h1 h2
    rw [mergeTo_get]
    by_cases e : i = k
    · subst e
      rw [if_pos ⟨by omega, h⟩, List.getElem_set_self, List.getElem?_eq_getElem hb]; rfl
    · rw [List.getElem_set_ne (Ne.symm e), mergeTo_get]
      by_cases h3 : i < k ∧ (l[i]'(by rwa [mergeTo_len] at h1)).k = 1
      · rw [if_pos h3, if_pos ⟨by omega, h3.2⟩]
      · rw [if_neg h3, if_neg (fun q => h3 ⟨by omega, q.2⟩)]

set_option maxRecDepth 100000 in set_option maxHeartbeats 4000000 in
theorem merge_any (lb l : List K) (ab a : Option Addr) (cb cap : Nat) (w : World) (hb : Sl w (.slice ab lb.length cb) 5 (lb.map K.pc)) (hl : Sl w (.slice a l.length cap) 5 (l.map K.pc)) (hlb : lb.length ≤ 1000) (hlen : l.length ≤ 1000) :
    Calls Tryz.prog 71 #[.slice ab lb.length cb, .slice a l.length cap] w fun e w' => ∃ a' cap', e = .returned (.slice a' l.length cap') ∧ l.length ≤ cap' ∧ Sl w' (.slice a' l.length cap') 5 ((mergeK lb l).map K.pc) ∧ Ext w w' := by
  have HC := Hid.mk' (fun W (h : Ext w W) => clonek_any l a cap W (hl.ext h) hlen)
  have HB := Hid.mk' hb
  clear hb hl
  by_cases h0 : l.length = 0
  · have hl0 : l = [] := List.length_eq_zero_iff.1 h0
    subst hl0
    clear h0
    go_enter Tryz.func71, Tryz.ntmps71
    go_wp2_with (go_at_call 49; refine (HC.out _ (by exact eX)).mono ?_; rintro e w1 ⟨a', c', rfl, ho, hb1⟩; clear ho)
    go_loopw [12] (fun i wr => i = .int .i64 0 ∧ Hid (Ext w wr)) (fun _ _ => 0)
    case atStart => exact ⟨rfl, Hid.mk' (by exact eX)⟩
    case round =>
      obtain ⟨rfl, hE⟩ := hrel
      go_wp2
      go_ret
      exact ⟨a', c', rfl, Nat.zero_le _, ⟨a', c', rfl, .inl rfl⟩, hE.out⟩
  go_enter Tryz.func71, Tryz.ntmps71
  go_wp2_with (go_at_call 49; refine (HC.out _ (by exact eX)).mono ?_; rintro e w1 ⟨a', c', rfl, ho, hb1⟩; have HO := Hid.mk' ho; clear ho)
  obtain ⟨g, rfl, hg, hcap⟩ : ∃ g, a' = some ⟨g, 0, none⟩ ∧ w.heap.size ≤ g ∧ l.length ≤ c' := by
    rcases HO.out.2 with ⟨-, h1⟩ | ⟨g, cap', cur, hv, hg, -, hn, -⟩
    · exact absurd h1 h0
    · simp only [Value.slice.injEq] at hv
      exact ⟨g, hv.1, hg, owns_cap HO.out⟩
  have HR0 := Hid.mk' (RowAt.of_owns HO.out rfl)
  clear HO
  go_loopw [12] (fun i wr => ∃ k : Nat, k ≤ l.length ∧ i = .int .i64 k ∧ Hid (RowAt wr g (mergeTo lb l k)) ∧ Hid (Ext w wr)) (fun i _ => l.length - (intOf i).toNat)
  case atStart => exact ⟨0, Nat.zero_le _, rfl, Hid.mk' (by rw [mergeTo_zero]; exact HR0.out), Hid.mk' (by exact eX)⟩
  case round =>
    obtain ⟨k, hk, rfl, hr, hE⟩ := hrel
    by_cases hlt : k < l.length
    · have hkm : k < (mergeTo lb l k).length := by rw [mergeTo_len]; exact hlt
      obtain ⟨f0, f1, f2, f3, f4⟩ := hr.out.cells hkm
      rw [mergeTo_at] at f0 f1 f2 f3 f4
      have hgw := hr.out.lt
      have hfz := hr.out.frozen
      have HSK := Hid.mk' (fun h => mergeTo_skip (b := lb) hlt h)
      have HST := Hid.mk' (fun h h2 => mergeTo_set (b := lb) hlt h h2)
      obtain ⟨c, hc⟩ : ∃ c, c = l[k] := ⟨_, rfl⟩
      rw [← hc] at f0 f1 f2 f3 f4 HSK HST
      clear hc
      by_cases h1 : c.k = 1
      · have h1' : (c.k == 1) = true := by simpa using h1
        by_cases h2 : k < lb.length
        · obtain ⟨b, o, rfl, hbb, hx⟩ := HB.out.at_ (i := k) (by simpa using h2)
          obtain ⟨p0, p1, p2, p3, p4⟩ := K.pcAt h2 hx hbb hE.out
          have hbw : b < wr.heap.size := Nat.lt_of_lt_of_le hbb hE.out.size
          have HS2 := Hid.mk' (HST.out h1 h2)
          obtain ⟨d, hd⟩ : ∃ d, d = lb[k] := ⟨_, rfl⟩
          rw [← hd] at p0 p1 p2 p3 p4 HS2
          clear hd hx h1 HSK HST
          go_wp2
          go_roundw
          case rel => exact ⟨k + 1, by omega, by go_num, Hid.mk' (by rw [HS2.out]; exact (hr.out.set hkm d).alloc _), Hid.mk' (by have hE := hE.out; exact eX)⟩
          case measure => simp [intOf]; omega
        · have HS2 := Hid.mk' (HSK.out (fun q => h2 q.2))
          have h2' : lb.length ≤ k := by omega
          clear HSK HST h1
          go_wp2
          go_roundw
          case rel => exact ⟨k + 1, by omega, by go_num, Hid.mk' (by rw [HS2.out]; exact hr.out.alloc _), Hid.mk' (by have hE := hE.out; exact eX)⟩
          case measure => simp [intOf]; omega
      · have h1' : (c.k == 1) = false := by simpa using h1
        have HS2 := Hid.mk' (HSK.out (fun q => h1 q.1))
        clear HSK HST h1
        go_wp2
        go_roundw
        case rel => exact ⟨k + 1, by omega, by go_num, Hid.mk' (by rw [HS2.out]; exact hr.out.alloc _), Hid.mk' (by have hE := hE.out; exact eX)⟩
        case measure => simp [intOf]; omega
    · have hkk : k = l.length := by omega
      subst hkk
      go_wp2
      go_ret
      have hr := hr.out
      rw [mergeTo_all] at hr
      have := hr.sl c'
      rw [mergeK_len] at this
      exact ⟨_, c', rfl, hcap, this, hE.out⟩

end Go.Proofs.YtdgalkljngigeaaGreat
