/-
A message of the program as the document's: the laws' Back.
-/
import Derived.Test.YtihldginolbooaaGreatDoorP38
import Derived.Test.YtihldginolbooaaGreatDoorP5
import Derived.Test.YtihldginolbooaaGreatDoorP9
import Derived.Test.YtihldginolbooaaGreatDoorP21
namespace Go.Proofs.YtihldginolbooaaGreatDoor
open Go.RowKit

set_option maxRecDepth 20000 in
theorem res_lback20 {W : World} {b : Nat} {v0 v1 v2 v3 v4 v5 v6 v7 v8 v9 v10 v11 v12 v13 v14 v15 v16 : Value} {tm : Array Value} (h : Blk W b #[v0, v1, v2, v3, v4, v5, v6, v7, v8, v9, v10, v11, v12, v13, v14, v15, v16] 35) (ht : tm.getD 2 undef = .pointer (some ⟨b, 0, none⟩)) :
    (results Tryz.f14 tm).run Tryz.prog W = .ok (.agg #[v0, v1, v2, v3, v4, v5, v6, v7, v8, v9, v10, v11, v12, v13, v14, v15, v16]) W := by
  have c := h.cell
  have c0 := c 0
  have c1 := c 1
  have c2 := c 2
  have c3 := c 3
  have c4 := c 4
  have c5 := c 5
  have c6 := c 6
  have c7 := c 7
  have c8 := c 8
  have c9 := c 9
  have c10 := c 10
  have c11 := c 11
  have c12 := c 12
  have c13 := c 13
  have c14 := c 14
  have c15 := c 15
  have c16 := c 16
  clear c h
  simp at c0 c1 c2 c3 c4 c5 c6 c7 c8 c9 c10 c11 c12 c13 c14 c15 c16
  rw [Array.getD_eq_getD_getElem?] at ht
  simp [results, Tryz.results14, go_sem, ht, c0, c1, c2, c3, c4, c5, c6, c7, c8, c9, c10, c11, c12, c13, c14, c15, c16]

set_option maxRecDepth 100000 in set_option maxHeartbeats 8000000 in
theorem lback20_any (p : ML) (w : World) (hp : p.at 5 K.pc w) (hlen : p.r.r.cols.length ≤ 1000) (hs : p.e.e.small) :
    Calls Tryz.prog 14 #[p.agg] w fun e w' => ∃ q : ML, e = .returned q.agg ∧ q.m = p.m ∧ q.at 6 K.rc w' ∧ Ext w w' := by
  have HO8 := Hid.mk' (fun W (h : Ext w W) => back8_any p.r.r.oid p.r.r.ver p.r.r.nm p.r.r.id p.r.r.cols p.r.a p.r.c W (hp.1.ext h) (by omega))
  have HO13 := Hid.mk' (fun W (h : Ext w W) => eback_any p.e.e.kind p.e.e.ao p.e.e.av p.e.e.old p.e.e.b p.e.e.a p.e.e.rs p.e.e.fl p.e.ba p.e.aa p.e.ra p.e.bc p.e.ac p.e.rc W (hp.2.b.ext h) (hp.2.a.ext h) (hp.2.r.ext h) hs.b hs.a hs.r)
  clear hp hlen hs
  obtain ⟨k, x, st, n, ⟨⟨o, v, nm, id, cols⟩, ca, cc⟩, ⟨⟨kd, ao, av, old, b, aa, rs, fl⟩, ba, bc, aad, ac, ra, rc⟩⟩ := p
  rw [show (ML.agg (⟨k, x, st, n, ⟨⟨o, v, nm, id, cols⟩, ca, cc⟩, ⟨⟨kd, ao, av, old, b, aa, rs, fl⟩, ba, bc, aad, ac, ra, rc⟩⟩ : ML)) = .agg #[.int .u8 k, .int .u32 x, .int .u64 st, .int .u32 n, .int .u32 o, .int .u32 v, .string nm, .int .u8 id, .slice ca cols.length cc, .int .u8 kd, .int .u32 ao, .int .u32 av, .int .u8 old, .slice ba b.length bc, .slice aad aa.length ac, .slice ra rs.length rc, .int .u8 fl] from rfl]
  dsimp only at HO8 HO13
  go_enter Tryz.func14, Tryz.ntmps14
  go_upto_region 1 with (fail)
  obtain ⟨w1, hw1⟩ : ∃ W, W = (w.alloc (.cells #[.int .u8 k, .int .u32 x, .int .u64 st, .int .u32 n, .int .u32 o, .int .u32 v, .string nm, .int .u8 id, .slice ca cols.length cc, .int .u8 kd, .int .u32 ao, .int .u32 av, .int .u8 old, .slice ba b.length bc, .slice aad aa.length ac, .slice ra rs.length rc, .int .u8 fl] 56)).alloc (.cells #[.int .u8 0, .int .u32 0, .int .u64 0, .int .u32 0, .int .u32 0, .int .u32 0, .string ⟨#[]⟩, .int .u8 0, .slice none 0 0, .int .u8 0, .int .u32 0, .int .u32 0, .int .u8 0, .slice none 0 0, .slice none 0 0, .slice none 0 0, .int .u8 0] 35) := ⟨_, rfl⟩
  have HX := Hid.mk' (show Blk w1 w.heap.size #[.int .u8 k, .int .u32 x, .int .u64 st, .int .u32 n, .int .u32 o, .int .u32 v, .string nm, .int .u8 id, .slice ca cols.length cc, .int .u8 kd, .int .u32 ao, .int .u32 av, .int .u8 old, .slice ba b.length bc, .slice aad aa.length ac, .slice ra rs.length rc, .int .u8 fl] 56 by rw [hw1]; exact (Blk.new _ _ _).alloc _)
  have HZ := Hid.mk' (show Blk w1 (w.heap.size + 1) #[.int .u8 0, .int .u32 0, .int .u64 0, .int .u32 0, .int .u32 0, .int .u32 0, .string ⟨#[]⟩, .int .u8 0, .slice none 0 0, .int .u8 0, .int .u32 0, .int .u32 0, .int .u8 0, .slice none 0 0, .slice none 0 0, .slice none 0 0, .int .u8 0] 35 by rw [hw1]; exact Blk.new' (w := w.alloc (.cells #[.int .u8 k, .int .u32 x, .int .u64 st, .int .u32 n, .int .u32 o, .int .u32 v, .string nm, .int .u8 id, .slice ca cols.length cc, .int .u8 kd, .int .u32 ao, .int .u32 av, .int .u8 old, .slice ba b.length bc, .slice aad aa.length ac, .slice ra rs.length rc, .int .u8 fl] 56)) _ _ (by simp))
  have HE1 := Hid.mk' (show Ext w w1 by rw [hw1]; exact ((Ext.refl w).alloc _).alloc _)
  rw [← hw1]
  clear hw1
  have gX := HX.out.cell
  have zX := HX.out.lt
  obtain ⟨X, hX⟩ : ∃ X, X = w.heap.size := ⟨_, rfl⟩
  rw [← hX] at gX zX HZ ⊢
  have HXE := Hid.mk' hX
  clear hX
  have hA0 : Hid ((fun w' => Ext (w1) w' ∧ (∀ b o, b < (w1).heap.size → w'.cell? ⟨b, o, none⟩ = (w1).cell? ⟨b, o, none⟩) ∧ (∀ b o, b < (w1).heap.size → w'.frozen? ⟨b, o, none⟩ = (w1).frozen? ⟨b, o, none⟩)) w1.drew) := held_of (by exact eX)
  refine wp_region_head 15 (fun w' => Ext (w1) w' ∧ (∀ b o, b < (w1).heap.size → w'.cell? ⟨b, o, none⟩ = (w1).cell? ⟨b, o, none⟩) ∧ (∀ b o, b < (w1).heap.size → w'.frozen? ⟨b, o, none⟩ = (w1).frozen? ⟨b, o, none⟩)) (by kernel_rfl) (by decide) ?_
  refine HG.on 0 3 hA0.out ?_
  try simp only [Act.put, List.setIfInBounds_toArray, List.set_cons_zero, List.set_cons_succ]
  refine HG.on 1 4 hA0.out ?_
  try simp only [Act.put, List.setIfInBounds_toArray, List.set_cons_zero, List.set_cons_succ]
  refine HG.on 2 5 hA0.out ?_
  try simp only [Act.put, List.setIfInBounds_toArray, List.set_cons_zero, List.set_cons_succ]
  refine HG.on 3 6 hA0.out ?_
  try simp only [Act.put, List.setIfInBounds_toArray, List.set_cons_zero, List.set_cons_succ]
  refine HG.on 4 7 hA0.out ?_
  try simp only [Act.put, List.setIfInBounds_toArray, List.set_cons_zero, List.set_cons_succ]
  refine HG.on 5 8 hA0.out ?_
  try simp only [Act.put, List.setIfInBounds_toArray, List.set_cons_zero, List.set_cons_succ]
  refine HG.on 6 9 hA0.out ?_
  try simp only [Act.put, List.setIfInBounds_toArray, List.set_cons_zero, List.set_cons_succ]
  refine HG.on 7 10 hA0.out ?_
  try simp only [Act.put, List.setIfInBounds_toArray, List.set_cons_zero, List.set_cons_succ]
  refine HG.on 8 11 hA0.out ?_
  try simp only [Act.put, List.setIfInBounds_toArray, List.set_cons_zero, List.set_cons_succ]
  refine HG.on 9 12 hA0.out ?_
  try simp only [Act.put, List.setIfInBounds_toArray, List.set_cons_zero, List.set_cons_succ]
  refine HG.on 11 14 hA0.out ?_
  try simp only [Act.put, List.setIfInBounds_toArray, List.set_cons_zero, List.set_cons_succ]
  refine HG.on 12 15 hA0.out ?_
  try simp only [Act.put, List.setIfInBounds_toArray, List.set_cons_zero, List.set_cons_succ]
  refine wpHd_one (i := 10) rfl rfl (by kernel_rfl) (fun KK hK => ?_)
  go_simp
  refine (HO8.out _ (HE1.out.trans (by exact eX))).mono ?_
  rintro e w3 ⟨a', c', rfl, hc8, ho8, hb3⟩
  have HB3 := Hid.mk' (show Ext w1 w3 by exact eX)
  have HO := Hid.mk' ho8
  refine hK.out _ _ (held_of HB3.out) (fun hA => ?_)
  clear hK KK hA hA0 hb3 ho8
  refine wpHd_one (i := 13) rfl rfl (by kernel_rfl) (fun KK hK => ?_)
  go_simp
  refine (HO13.out _ (HE1.out.trans HB3.out)).mono ?_
  rintro e w4 ⟨b1, c1, a1, d1, r1, e1, rfl, hat, hon, hb4⟩
  have HB4 := Hid.mk' (show Ext w1 w4 from HB3.out.trans hb4)
  have HO4 := Hid.mk' (owns_ext HO.out hb4)
  have HAT := Hid.mk' hat
  have HON := Hid.mk' hon
  refine hK.out _ _ (held_of HB4.out) (fun hA => ?_)
  clear hK KK hA hb4 hat hon HO
  have hA0 : Hid ((fun w' => Ext (w1) w' ∧ (∀ b o, b < (w1).heap.size → w'.cell? ⟨b, o, none⟩ = (w1).cell? ⟨b, o, none⟩) ∧ (∀ b o, b < (w1).heap.size → w'.frozen? ⟨b, o, none⟩ = (w1).frozen? ⟨b, o, none⟩)) w4) := held_of HB4.out
  refine HG.on 14 17 hA0.out ?_
  try simp only [Act.put, List.setIfInBounds_toArray, List.set_cons_zero, List.set_cons_succ]
  clear hA0 gX zX
  refine wpHd_tail (by kernel_rfl) ?_
  simp only [List.drop_succ_cons, List.drop_zero]
  have HZ4 := Hid.mk' (HZ.out.ext HB4.out)
  have HLT := Hid.mk' HZ.out.lt
  have HS17 := Hid.mk' (show (Instr.storeAt 35 (.pointer (some ⟨X + 1, 0, none⟩)) (.agg #[.int .u8 k, .int .u32 x, .int .u64 st, .int .u32 n, .int .u32 o, .int .u32 v, .string nm, .int .u8 id, .slice a' cols.length c', .int .u8 kd, .int .u32 ao, .int .u32 av, .int .u8 old, .slice b1 b.length c1, .slice a1 aa.length d1, .slice r1 rs.length e1, .int .u8 fl])).run Tryz.prog w4 = .ok () _ from rstore17 HZ4.out)
  go_wp2_with (refine wpList_store_to rfl 35 (.tmp 2) (.tmp 17) rfl _ _ ?e1 ?e2 HS17.out ?_; (case e1 => go_simp); (case e2 => go_simp))
  refine bodyPost_ret (res_lback20 (Blk.c17 HZ4.out) rfl) rfl ⟨⟨k, x, st, n, ⟨⟨o, v, nm, id, cols⟩, a', c'⟩, ⟨⟨kd, ao, av, old, b, aa, rs, fl⟩, b1, c1, a1, d1, r1, e1⟩⟩, rfl, rfl, ⟨?_, ?_⟩, ?_⟩
  · refine Sl.kp (Sl.of_owns (base := w1.drew.heap.size) (by rw [List.length_map]; exact HO4.out) (by intro xs hxs; simp at hxs; obtain ⟨_, _, rfl⟩ := hxs; rfl)) Kp.c17 (fun _ b' o' e h => ?_)
    have h1 := HO4.out.lt b' (by rw [show a' = some ⟨b', o', none⟩ from e]; rfl)
    have h2 := HLT.out
    have h3 : w1.drew.heap.size = w1.heap.size := rfl
    have h : b' = X + 1 := h
    omega
  · refine EL.at.kp HAT.out Kp.c17 (HON.out.mono (fun b' hb h => ?_))
    have h1 := HB3.out.size
    have h2 := HLT.out
    have h : b' = X + 1 := h
    omega
  · exact Ext.c17 (HE1.out.trans HB4.out) (by have := HXE.out; omega)

end Go.Proofs.YtihldginolbooaaGreatDoor

/-
slices.Clone of a row.
-/
namespace Go.Proofs.YtihldginolbooaaGreatDoor
open Go.RowKit

theorem flatK_len (l : List K) : (l.map K.pc).flatten.length = l.length * 5 := by
  have := flat_length 5 (l.map K.pc) (fun xs hxs => by simp at hxs; obtain ⟨c, _, rfl⟩ := hxs; rfl)
  rwa [List.length_map] at this
theorem news_row {w : World} {b o : Nat} {l : List K} (h : ∀ i, i < l.length → ∀ j, j < 5 → w.cell? ⟨b, o + i * 5 + j, none⟩ = ((l.map K.pc).getD i [])[j]?) : ∀ j u, ((l.map K.pc).flatten)[j]? = some u → w.cell? ((⟨b, o, none⟩ : Addr).add j) = some u := by
  intro j u hj
  have hjl : j < l.length * 5 := by
    rcases Nat.lt_or_ge j (l.length * 5) with h | h
    · exact h
    · rw [List.getElem?_eq_none (by rw [flatK_len]; exact h)] at hj; cases hj
  have hplain : (⟨b, o, none⟩ : Addr).add j = ⟨b, o + j, none⟩ := by unfold Addr.add; split <;> simp_all
  have hi : j / 5 < l.length := by omega
  have hq := flat_get 5 (l.map K.pc) (fun xs hxs => by simp at hxs; obtain ⟨c, _, rfl⟩ := hxs; rfl) (j / 5) (by simpa using hi) (j % 5) (Nat.mod_lt _ (by decide))
  have hm : j / 5 * 5 + j % 5 = j := by omega
  rw [hm] at hq
  rw [hplain, ← hj, hq, ← h (j / 5) hi (j % 5) (Nat.mod_lt _ (by decide)), Nat.add_assoc, hm]

set_option maxRecDepth 100000 in set_option maxHeartbeats 1600000 in
theorem clonek_any (l : List K) (a : Option Addr) (cap : Nat) (w : World) (hl : Sl w (.slice a l.length cap) 5 (l.map K.pc)) (hlen : l.length ≤ 1000) :
    Calls Tryz.prog 74 #[.slice a l.length cap] w fun e w' => ∃ a' cap', e = .returned (.slice a' l.length cap') ∧ w'.ownsRow w.heap.size 142 5 (.slice a' l.length cap') l.length ((l.map K.pc).flatten) ∧ Ext w w' := by
  obtain ⟨i0, hi, hz0, hz1, hz2⟩ := info_parts Tryz.infoCellP
  have HL := Hid.mk' hl
  clear hl
  cases a with
  | none =>
    have h0 : l = [] := by
      obtain ⟨a, c, hv, h⟩ := HL.out
      simp only [Value.slice.injEq] at hv
      rcases h with h | ⟨b, o, ha, _⟩
      · simpa using h
      · rw [← hv.1] at ha; cases ha
    obtain ⟨a, c, hv, -⟩ := HL.out
    subst h0
    clear HL hv
    go_enter Tryz.func74, Tryz.ntmps74
    go_wp2
    go_ret
    exact ⟨_, _, rfl, World.ownsRow_nil _ _ _ _, by exact eX⟩
  | some ad =>
    have hnews : ∀ j u, ((l.map K.pc).flatten)[j]? = some u → (w.alloc (.cells #[] 142)).cell? (ad.add j) = some u := by
      obtain ⟨a, c, hv, h⟩ := HL.out
      simp only [Value.slice.injEq] at hv
      obtain ⟨rfl, -, -⟩ := hv
      rcases h with h | ⟨b, o, ha, hb, hc⟩
      · have h0 : l = [] := by simpa using h
        subst h0; intro j u hj; simp at hj
      · cases ha
        refine news_row fun i hi j hj => ?_
        have hE : Ext w (w.alloc (.cells #[] 142)) := (Ext.refl w).alloc _
        rw [hE.cells.1 b _ hb]
        exact hc i (by simpa using hi) j hj
    have HN := Hid.mk' hnews
    clear HL hnews
    go_enter Tryz.func74, Tryz.ntmps74
    go_wp2_with (at_builtin; refine wpList_append_own _ rfl _ _ 51 rfl w.heap.size 142 i0 _ 5 56 Tryz.underlying51 hi hz0 hz1 hz2 rfl (by decide) (.slice (some ⟨w.heap.size, 0, none⟩) 0 0) 0 [] rfl ?c0 _ l.length _ ((l.map K.pc).flatten) rfl (flatK_len l) HN.out ?c2 ?c3 ?c4 ?c5 ?_)
    case c0 => exact ⟨rfl, .inr ⟨_, 0, #[], rfl, Nat.le_refl _, Blk.new w #[] _, Nat.le_refl _, Nat.zero_le _, rfl, rfl⟩⟩
    case c2 => intro u hu; rw [List.mem_flatten] at hu; obtain ⟨xs, hxs, hu⟩ := hu; rw [List.mem_map] at hxs; obtain ⟨c, _, rfl⟩ := hxs; simp [K.pc] at hu; rcases hu with rfl | rfl | rfl | rfl | rfl <;> rfl
    case c3 => unfold maxLen; omega
    case c4 => omega
    case c5 => simp
    intro v' w2 hown hgrow _
    have hown : w2.ownsRow w.heap.size 142 5 v' l.length ((l.map K.pc).flatten) := by simpa using hown
    have hE2 : Ext w w2 := ((Ext.refl w).alloc (.cells #[] 142)).grown (v := .slice (some ⟨w.heap.size, 0, none⟩) 0 0) (e := 142) (size := 5) (n := 0) (xs := []) ⟨rfl, .inr ⟨_, 0, #[], rfl, Nat.le_refl _, Blk.new w #[] _, Nat.le_refl _, Nat.zero_le _, rfl, rfl⟩⟩ hgrow
    obtain ⟨a', c', rfl⟩ := owns_shape hown
    have HO := Hid.mk' hown
    have HE2 := Hid.mk' hE2
    clear hown hE2 hgrow
    go_wp2
    go_ret
    exact ⟨a', c', rfl, HO.out, HE2.out⟩

end Go.Proofs.YtihldginolbooaaGreatDoor


/-
A copy of an event; the refs that an event uses, the program's answer and the reference's.
-/
namespace Go.Proofs.YtihldginolbooaaGreatDoor
open Go.RowKit

/-- All that it has is the call's own, from N on. -/
structure EL.owned (N : Nat) (W : World) (y : EL) : Prop where
  b : W.ownsRow N 142 5 (.slice y.ba y.e.b.length y.bc) y.e.b.length ((y.e.b.map K.pc).flatten)
  a : W.ownsRow N 142 5 (.slice y.aa y.e.a.length y.ac) y.e.a.length ((y.e.a.map K.pc).flatten)
  r : W.ownsRow N 46 2 (.slice y.ra y.e.rs.length y.rc) y.e.rs.length ((y.e.rs.map Rf.cells).flatten)
set_option maxRecDepth 100000 in set_option maxHeartbeats 4000000 in
theorem ecopy_any (x : EL) (w : World) (hx : x.at 5 K.pc w) (hs : x.e.small) :
    Calls Tryz.prog 43 #[x.agg] w fun e w' => ∃ y : EL, e = .returned y.agg ∧ y.e = x.e ∧ y.owned w.heap.size w' ∧ Ext w w' := by
  obtain ⟨⟨k1, ao1, av1, old1, b1, a1, r1, fl1⟩, ba1, bc1, aa1, ac1, ra1, rc1⟩ := x
  have HCB := Hid.mk' (fun W (h : Ext w W) => clonek_any b1 ba1 bc1 W (hx.b.ext h) hs.b)
  have HCA := Hid.mk' (fun W (h : Ext w W) => clonek_any a1 aa1 ac1 W (hx.a.ext h) hs.a)
  have HCR := Hid.mk' (fun W (h : Ext w W) => clonef_any r1 ra1 rc1 W (hx.r.ext h) hs.r)
  unfold EL.agg
  simp only
  clear hx hs
  go_enter Tryz.func43, Tryz.ntmps43
  go_upto_region 1 with (fail)
  have hV : Blk ((w.alloc (.cells #[.int .u8 k1, .int .u32 ao1, .int .u32 av1, .int .u8 old1, .slice ba1 b1.length bc1, .slice aa1 a1.length ac1, .slice ra1 r1.length rc1, .int .u8 fl1] 54)).alloc (.cells #[.int .u8 0, .int .u32 0, .int .u32 0, .int .u8 0, .slice none 0 0, .slice none 0 0, .slice none 0 0, .int .u8 0] 54)) w.heap.size #[.int .u8 k1, .int .u32 ao1, .int .u32 av1, .int .u8 old1, .slice ba1 b1.length bc1, .slice aa1 a1.length ac1, .slice ra1 r1.length rc1, .int .u8 fl1] 54 := (Blk.new w #[.int .u8 k1, .int .u32 ao1, .int .u32 av1, .int .u8 old1, .slice ba1 b1.length bc1, .slice aa1 a1.length ac1, .slice ra1 r1.length rc1, .int .u8 fl1] 54).alloc _
  have hZ : Blk ((w.alloc (.cells #[.int .u8 k1, .int .u32 ao1, .int .u32 av1, .int .u8 old1, .slice ba1 b1.length bc1, .slice aa1 a1.length ac1, .slice ra1 r1.length rc1, .int .u8 fl1] 54)).alloc (.cells #[.int .u8 0, .int .u32 0, .int .u32 0, .int .u8 0, .slice none 0 0, .slice none 0 0, .slice none 0 0, .int .u8 0] 54)) (w.heap.size + 1) #[.int .u8 0, .int .u32 0, .int .u32 0, .int .u8 0, .slice none 0 0, .slice none 0 0, .slice none 0 0, .int .u8 0] 54 := Blk.new' (w := w.alloc (.cells #[.int .u8 k1, .int .u32 ao1, .int .u32 av1, .int .u8 old1, .slice ba1 b1.length bc1, .slice aa1 a1.length ac1, .slice ra1 r1.length rc1, .int .u8 fl1] 54)) _ _ (by simp)
  have hE : Ext w ((w.alloc (.cells #[.int .u8 k1, .int .u32 ao1, .int .u32 av1, .int .u8 old1, .slice ba1 b1.length bc1, .slice aa1 a1.length ac1, .slice ra1 r1.length rc1, .int .u8 fl1] 54)).alloc (.cells #[.int .u8 0, .int .u32 0, .int .u32 0, .int .u8 0, .slice none 0 0, .slice none 0 0, .slice none 0 0, .int .u8 0] 54)) := by exact eX
  obtain ⟨w0, hw0⟩ : ∃ w0, w0 = (w.alloc (.cells #[.int .u8 k1, .int .u32 ao1, .int .u32 av1, .int .u8 old1, .slice ba1 b1.length bc1, .slice aa1 a1.length ac1, .slice ra1 r1.length rc1, .int .u8 fl1] 54)).alloc (.cells #[.int .u8 0, .int .u32 0, .int .u32 0, .int .u8 0, .slice none 0 0, .slice none 0 0, .slice none 0 0, .int .u8 0] 54) := ⟨_, rfl⟩
  have hz0 : w0.heap.size = w.heap.size + 1 + 1 := by rw [hw0]; simp
  rw [← hw0] at hV hZ hE ⊢
  have HV := Hid.mk' hV
  have HZ := Hid.mk' hZ
  have HE := Hid.mk' hE
  have HZ0 := Hid.mk' hz0
  clear hw0 hV hZ hE hz0
  have gv := HV.out.cell
  have gvf := HV.out.frozen
  have zv := HV.out.lt
  have hA0 : Hid ((fun w' => Ext (w0) w' ∧ (∀ b o, b < (w0).heap.size → w'.cell? ⟨b, o, none⟩ = (w0).cell? ⟨b, o, none⟩) ∧ (∀ b o, b < (w0).heap.size → w'.frozen? ⟨b, o, none⟩ = (w0).frozen? ⟨b, o, none⟩)) w0.drew) := held_of (by exact eX)
  refine wp_region_head 10 (fun w' => Ext (w0) w' ∧ (∀ b o, b < (w0).heap.size → w'.cell? ⟨b, o, none⟩ = (w0).cell? ⟨b, o, none⟩) ∧ (∀ b o, b < (w0).heap.size → w'.frozen? ⟨b, o, none⟩ = (w0).frozen? ⟨b, o, none⟩)) (by kernel_rfl) (by decide) ?_
  (refine wpHd_take (i := 0) (v := ?_) rfl (by kernel_rfl) (by kernel_rfl) (by kernel_rfl) (fun _ _ _ h => h) (Or.inl ⟨by rfl, ?_⟩) hA0.out ?_; rotate_left 1; · (intro w' hS'; (obtain ⟨hEs', hcs', hfs'⟩ := hS'); go_simp; try with_reducible rfl))
  (refine wpHd_take (i := 1) (v := ?_) rfl (by kernel_rfl) (by kernel_rfl) (by kernel_rfl) (fun _ _ _ h => h) (Or.inl ⟨by rfl, ?_⟩) hA0.out ?_; rotate_left 1; · (intro w' hS'; (obtain ⟨hEs', hcs', hfs'⟩ := hS'); go_simp; try with_reducible rfl))
  (refine wpHd_take (i := 3) (v := ?_) rfl (by kernel_rfl) (by kernel_rfl) (by kernel_rfl) (fun _ _ _ h => h) (Or.inl ⟨by rfl, ?_⟩) hA0.out ?_; rotate_left 1; · (intro w' hS'; (obtain ⟨hEs', hcs', hfs'⟩ := hS'); go_simp; try with_reducible rfl))
  (refine wpHd_take (i := 4) (v := ?_) rfl (by kernel_rfl) (by kernel_rfl) (by kernel_rfl) (fun _ _ _ h => h) (Or.inl ⟨by rfl, ?_⟩) hA0.out ?_; rotate_left 1; · (intro w' hS'; (obtain ⟨hEs', hcs', hfs'⟩ := hS'); go_simp; try with_reducible rfl))
  (refine wpHd_take (i := 6) (v := ?_) rfl (by kernel_rfl) (by kernel_rfl) (by kernel_rfl) (fun _ _ _ h => h) (Or.inl ⟨by rfl, ?_⟩) hA0.out ?_; rotate_left 1; · (intro w' hS'; (obtain ⟨hEs', hcs', hfs'⟩ := hS'); go_simp; try with_reducible rfl))
  (refine wpHd_take (i := 7) (v := ?_) rfl (by kernel_rfl) (by kernel_rfl) (by kernel_rfl) (fun _ _ _ h => h) (Or.inl ⟨by rfl, ?_⟩) hA0.out ?_; rotate_left 1; · (intro w' hS'; (obtain ⟨hEs', hcs', hfs'⟩ := hS'); go_simp; try with_reducible rfl))
  refine wpHd_one (i := 2) rfl rfl (by kernel_rfl) (fun K hK => ?_)
  go_simp
  refine (HCB.out _ (by have := HE.out; exact eX)).mono ?_
  rintro e w2 ⟨b', bc', rfl, ho2, hb2⟩
  have HB2 := Hid.mk' (show Ext w0 w2 by exact eX)
  have HO2 := Hid.mk' ho2
  refine hK.out _ _ (held_of HB2.out) (fun hA => ?_)
  clear hK K hA ho2 hb2 hA0
  have hA0 : Hid ((fun w' => Ext (w0) w' ∧ (∀ b o, b < (w0).heap.size → w'.cell? ⟨b, o, none⟩ = (w0).cell? ⟨b, o, none⟩) ∧ (∀ b o, b < (w0).heap.size → w'.frozen? ⟨b, o, none⟩ = (w0).frozen? ⟨b, o, none⟩)) w2) := held_of HB2.out
  (refine wpHd_take (i := 9) (v := ?_) rfl (by kernel_rfl) (by kernel_rfl) (by kernel_rfl) (fun _ _ _ h => h) (Or.inl ⟨by rfl, ?_⟩) hA0.out ?_; rotate_left 1; · (intro w' hS'; (obtain ⟨hEs', hcs', hfs'⟩ := hS'); go_simp; try with_reducible rfl))
  refine wpHd_one (i := 5) rfl rfl (by kernel_rfl) (fun K hK => ?_)
  go_simp
  refine (HCA.out _ (HE.out.trans HB2.out)).mono ?_
  rintro e w5 ⟨a', ac', rfl, ho5, hb5⟩
  have HB5 := Hid.mk' hb5
  have HO5 := Hid.mk' ho5
  refine hK.out _ _ (held_of (HB2.out.trans HB5.out)) (fun hA => ?_)
  clear hK K hA ho5 hb5 hA0
  refine wpHd_one (i := 8) rfl rfl (by kernel_rfl) (fun K hK => ?_)
  go_simp
  refine (HCR.out _ (HE.out.trans (HB2.out.trans HB5.out))).mono ?_
  rintro e w8 ⟨r', rc', rfl, ho8, hb8⟩
  have HB8 := Hid.mk' hb8
  have HO8 := Hid.mk' ho8
  refine hK.out _ _ (held_of (HB2.out.trans (HB5.out.trans HB8.out))) (fun hA => ?_)
  clear hK K hA ho8 hb8
  refine wpHd_tail (by kernel_rfl) ?_
  simp only [List.drop_succ_cons, List.drop_zero]
  have HV8 := Hid.mk' (HV.out.ext (HB2.out.trans (HB5.out.trans HB8.out)))
  have HZ8 := Hid.mk' (HZ.out.ext (HB2.out.trans (HB5.out.trans HB8.out)))
  have HE8 := Hid.mk' (HE.out.trans (HB2.out.trans (HB5.out.trans HB8.out)))
  clear gv gvf zv
  have gv := HV8.out.cell
  have gvf := HV8.out.frozen
  have zv := HV8.out.lt
  have gz := HZ8.out.cell
  have gzf := HZ8.out.frozen
  have zz := HZ8.out.lt
  go_wp2
  simp [bodyPost, results, Tryz.results43, go_sem, *]
  have h0 := HZ0.out
  have h2 := HB2.out.size
  have h5 := HB5.out.size
  have hE8 := HE8.out
  refine ⟨⟨⟨k1, ao1, av1, old1, b1, a1, r1, fl1⟩, b', bc', a', ac', r', rc'⟩, ⟨rfl, rfl, rfl, rfl, ⟨rfl, rfl, rfl⟩, ⟨rfl, rfl, rfl⟩, ⟨rfl, rfl, rfl⟩, rfl⟩, rfl, ⟨?_, ?_, ?_⟩, by exact eX⟩
  · refine owns_base (base := w0.heap.size) ?_ (by omega)
    repeat (with_reducible refine owns_set ?_ (by dsimp only; omega) _)
    exact owns_ext HO2.out (HB5.out.trans HB8.out)
  · refine owns_base (base := w2.heap.size) ?_ (by omega)
    repeat (with_reducible refine owns_set ?_ (by dsimp only; omega) _)
    exact owns_ext HO5.out HB8.out
  · refine owns_base (base := w5.heap.size) ?_ (by omega)
    repeat (with_reducible refine owns_set ?_ (by dsimp only; omega) _)
    exact HO8.out

end Go.Proofs.YtihldginolbooaaGreatDoor
