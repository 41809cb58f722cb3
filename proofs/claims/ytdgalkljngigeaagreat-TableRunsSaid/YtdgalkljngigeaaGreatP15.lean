/-
A table's rows, copied: the program's Rows.
-/
import Derived.Sort.MapsRangeIn
import Derived.RangeFuncMany
import Derived.RangeFuncFrom
import Derived.RangeFuncLeaves
import Derived.RangeFuncBox
import Derived.RangeFuncOne
import Derived.TacticsInMore
import Derived.OwnWalkIn
import Derived.LoopIn
import Derived.Test.YtdgalkljngigeaaGreatP14
namespace Go.Proofs.YtdgalkljngigeaaGreat
open Go.RowKit Go.Maps

/-- Rows of the call's own, in a row of its own. -/
structure OwnP (W : World) (N : Nat) (ls : List (List K)) (v : Value) (qs : List PR) : Prop where
  own : W.ownsRow N 71 1 v qs.length (qs.map PR.cell).flatten
  l : qs.map PR.l = ls
  sl : ∀ q ∈ qs, Sl W q.val 5 (q.l.map K.pc)
  ne : ∀ q ∈ qs, q.l ≠ [] → ∀ b o, q.a = some ⟨b, o, none⟩ → v.ownBlock ≠ some b ∧ b < W.heap.size
theorem OwnP.nil (W : World) (N : Nat) : OwnP W N [] (.slice none 0 0) [] := ⟨World.ownsRow_nil _ _ _ _, rfl, (fun q h => by cases h), (fun q h => by cases h)⟩
theorem OwnP.len {W : World} {N : Nat} {ls : List (List K)} {v : Value} {qs : List PR} (h : OwnP W N ls v qs) : qs.length = ls.length := by rw [← h.l, List.length_map]
theorem OwnP.ext {W W' : World} {N : Nat} {ls : List (List K)} {v : Value} {qs : List PR} (h : OwnP W N ls v qs) (he : Ext W W') : OwnP W' N ls v qs :=
  ⟨owns_ext h.own he, h.l, fun q hq => (h.sl q hq).ext he, fun q hq h0 b o e => ⟨(h.ne q hq h0 b o e).1, Nat.lt_of_lt_of_le (h.ne q hq h0 b o e).2 he.size⟩⟩
theorem OwnP.push {W W' : World} {N : Nat} {ls : List (List K)} {v v' : Value} {qs : List PR} {q : PR} (h : OwnP W N ls v qs) (hs : Sl W q.val 5 (q.l.map K.pc)) (hn : q.l ≠ [] → ∀ b o, q.a = some ⟨b, o, none⟩ → v.ownBlock ≠ some b ∧ b < W.heap.size)
    (hg : W.grownBy W' v.ownBlock) (hat : v'.ownBlock = v.ownBlock ∨ v'.ownBlock = some W.heap.size) (ho : W'.ownsRow N 71 1 v' (qs.length + 1) ((qs.map PR.cell).flatten ++ q.cell)) : OwnP W' N (ls ++ [q.l]) v' (qs ++ [q]) := by
  have hne : ∀ x ∈ qs ++ [q], x.l ≠ [] → ∀ b o, x.a = some ⟨b, o, none⟩ → v.ownBlock ≠ some b ∧ b < W.heap.size := fun x hx => by
    rcases List.mem_append.1 hx with hx | hx
    · exact h.ne x hx
    · obtain rfl : x = q := by simpa using hx
      exact hn
  refine ⟨by simpa using ho, by rw [List.map_append, h.l]; rfl, fun x hx => ?_, fun x hx h0 b o e => ?_⟩
  · have h1 : Sl W x.val 5 (x.l.map K.pc) := by
      rcases List.mem_append.1 hx with hx | hx
      · exact h.sl x hx
      · obtain rfl : x = q := by simpa using hx
        exact hs
    exact Sl.grown1 h1 hg fun h0 b o e => (hne x hx (fun h2 => h0 (by rw [h2]; rfl)) b o e).1
  · obtain ⟨h1, h2⟩ := hne x hx h0 b o e
    refine ⟨?_, Nat.lt_of_lt_of_le h2 hg.size⟩
    rcases hat with h3 | h3
    · rw [h3]; exact h1
    · rw [h3]; intro h4; injection h4 with h4; omega
theorem OwnP.rs {W : World} {N : Nat} {ls : List (List K)} {v : Value} {qs : List PR} (h : OwnP W N ls v qs) : RS 5 K.pc W v qs := ⟨Sl.of_owns (base := N) (e := 71) (by rw [List.length_map]; exact h.own) (PR.len qs), h.sl, Tag.owns h.own⟩

set_option maxRecDepth 100000 in set_option maxHeartbeats 8000000 in
theorem brows_any (N g : Nat) (ps : List RR) (T : Tb) (ao av : Int) (w : World) (hb : Bs w N g ps T) (ho : B32 ao) (hv : B32 av) (hT : TbOk T 1000) :
    Calls Tryz.prog 21 #[.pointer (some ⟨g, 0, none⟩), .agg #[.int .u32 ao, .int .u32 av]] w fun e w' => ∃ a' c' qs, e = .returned (.slice a' qs.length c') ∧ OwnP w' w.heap.size (T ao av) (.slice a' qs.length c') qs ∧ Ext w w' := by
  obtain ⟨i0, hi, hz0, hz1, hz2⟩ := info_parts Tryz.infoRowP
  obtain ⟨cat, cv, m, hat, hca, hmp⟩ := hb
  obtain ⟨xv, hrv, hlk0⟩ := hmp.look ho hv
  obtain ⟨a5, c5, qs, rfl, hrs5, hqs5⟩ := hrv
  have hlen : qs.length ≤ 1000 := by
    have h1 := hT.n ao av
    rwa [← hqs5, List.length_map] at h1
  have HM := Hid.mk' (fun q (hq : q ∈ qs) => hT.r ao av q.l (by rw [← hqs5]; exact List.mem_map_of_mem hq))
  have HRS := Hid.mk' hrs5
  have HLS := Hid.mk' hqs5
  have hlk : ∀ W', Ext (w.alloc (.cells #[.int .u32 ao, .int .u32 av] 68)) W' → (Instr.lookup 91 (.map (some m)) (.agg #[.int .u32 ao, .int .u32 av]) false).run Tryz.prog W' = .ok (.slice a5 qs.length c5) W' := fun W' h => hlk0 W' (((Ext.refl w).alloc _).trans h)
  have l0 := hat.cell0
  have l1 := hat.cell1
  have lz : g < w.heap.size := Blk.lt hat
  clear hat hca hmp hrs5 hqs5 hT hlk0
  go_enter Tryz.func21, Tryz.ntmps21
  go_wp2
  go_region_held3 (fun w' => Ext (w.alloc (.cells #[.int .u32 ao, .int .u32 av] 68)) w' ∧ (∀ b o, b < (w.alloc (.cells #[.int .u32 ao, .int .u32 av] 68)).heap.size → w'.cell? ⟨b, o, none⟩ = (w.alloc (.cells #[.int .u32 ao, .int .u32 av] 68)).cell? ⟨b, o, none⟩) ∧ (∀ b o, b < (w.alloc (.cells #[.int .u32 ao, .int .u32 av] 68)).heap.size → w'.frozen? ⟨b, o, none⟩ = (w.alloc (.cells #[.int .u32 ao, .int .u32 av] 68)).frozen? ⟨b, o, none⟩)) ((exact held_of (by exact eX))) (fail)
  go_wp2
  have HE0 := Hid.mk' (show Ext w ((w.alloc (.cells #[.int .u32 ao, .int .u32 av] 68)).drew) by exact eX)
  obtain ⟨w0, hw0⟩ : ∃ w0, w0 = (w.alloc (.cells #[.int .u32 ao, .int .u32 av] 68)).drew := ⟨_, rfl⟩
  rw [← hw0] at HE0
  try rw [← hw0]
  clear hw0 hlk l0 l1 lz ho hv
  go_loopw [5, 15] (fun v i wr => ∃ (k : Nat) (va : Option Addr) (vc : Nat) (ks : List PR), k ≤ qs.length ∧ i = .int .i64 k ∧ v = .slice va ks.length vc ∧ Hid (OwnP wr w.heap.size ((qs.take k).map PR.l) (.slice va ks.length vc) ks) ∧ Hid (Ext w wr)) (fun _ i _ => qs.length - (intOf i).toNat)
  case atStart => exact ⟨0, none, 0, [], Nat.zero_le _, rfl, rfl, Hid.mk' (OwnP.nil _ _), HE0⟩
  case round =>
    obtain ⟨k, va, vc, ks, hk, rfl, rfl, hown, hE⟩ := hrel
    by_cases hlt : k < qs.length
    · obtain ⟨b, o, rfl, hb, hx⟩ := HRS.out.row.at_ (i := k) (by simpa using hlt)
      have f0 := PR.at_ hlt hx hb hE.out
      have hbw : b < wr.heap.size := Nat.lt_of_lt_of_le hb hE.out.size
      have HCK := Hid.mk' (fun W (h : Ext w W) => clonek_any qs[k].l qs[k].a qs[k].c W (PR.row HRS.out hlt h) (HM.out _ (List.getElem_mem hlt)))
      have HTS := Hid.mk' (show (qs.take (k + 1)).map PR.l = (qs.take k).map PR.l ++ [qs[k].l] by rw [List.take_succ_eq_append_getElem hlt, List.map_append]; rfl)
      have hkl : ks.length = k := by have h1 := hown.out.len; rw [List.length_map, List.length_take] at h1; omega
      have hks : ks.length ≤ 1000 := by omega
      obtain ⟨q, hq⟩ : ∃ q, q = qs[k] := ⟨_, rfl⟩
      rw [← hq] at f0 HCK HTS
      have HLT := Hid.mk' hlt
      obtain ⟨ql, qa, qc⟩ := q
      simp only at f0 HCK HTS
      clear hq hx hb hkl
      go_wp2_with (first
        | (go_at_call 49; refine (HCK.out _ hE.out).mono ?_; rintro e w3 ⟨a', c', rfl, ho3, hb3⟩; have HO3 := Hid.mk' ho3; have HE3 := Hid.mk' (show Ext wr w3 by exact eX); clear ho3 hb3)
        | (at_builtin; refine wpList_append_own_at _ rfl _ _ 66 rfl w.heap.size 71 i0 _ 1 24 Tryz.underlying66 hi hz0 hz1 hz2 rfl (by decide) _ _ _ rfl (owns_ext hown.out.own (HE3.out.alloc _)) ⟨_, 0, none⟩ 1 1 (PR.cell ⟨ql, a', c'⟩) rfl rfl ?c1 ?c2 ?c3 ?c4 ?c5 ?_))
      case c1 => exact cells_new _ #[.slice a' ql.length c'] _
      case c2 => exact PR.one _
      case c3 => unfold maxLen; omega
      case c4 => omega
      case c5 => have := hE.out.size; have := HE3.out.size; simp at *; omega
      intro v' w4 hown' hgrow _ hat
      have hE3' : Ext w (w3.alloc (.cells #[.slice a' ql.length c'] 71)) := (hE.out.trans HE3.out).alloc _
      have HE4 := Hid.mk' (Ext.grown hE3' (owns_ext hown.out.own (HE3.out.alloc _)) hgrow)
      have HSL3 := Hid.mk' (show Sl w3 (.slice a' ql.length c') 5 (ql.map K.pc) from Sl.of_owns (base := wr.heap.size) (e := 124) (by rw [List.length_map]; exact HO3.out) (by intro xs hxs; simp at hxs; obtain ⟨_, _, rfl⟩ := hxs; rfl))
      have HOK := Hid.mk' ((hown.out.ext (HE3.out.alloc (.cells #[.slice a' ql.length c'] 71))).push (q := ⟨ql, a', c'⟩) (HSL3.out.ext ((Ext.refl w3).alloc _)) (fun h0 b o e => by
        have e2 : a' = some ⟨b, o, none⟩ := e
        obtain ⟨g6, e6, hg6, -⟩ := owns_pos HO3.out (List.length_pos_iff.2 h0)
        rw [e6] at e2; cases e2
        refine ⟨fun h4 => ?_, ?_⟩
        · have h5 := owns_lt3 hown.out.own h4
          omega
        · have h5 := Sl.lt (by rw [← e6]; exact HSL3.out) (fun h => h0 (by simpa using h))
          simp; omega) hgrow (by rw [World.size_alloc]; exact hat) hown')
      obtain ⟨va', vc', rfl⟩ := owns_shape hown'
      clear hown' hgrow hat hown
      have hlt2 : k < qs.length := HLT.out
      go_wp2
      go_roundw
      case rel => exact ⟨k + 1, va', vc', ks ++ [⟨ql, a', c'⟩], by omega, by go_num, by rw [List.length_append]; rfl, Hid.mk' (by rw [HTS.out, List.length_append]; exact HOK.out), HE4⟩
      case measure => simp [intOf]; omega
    · obtain rfl : k = qs.length := by omega
      rw [List.take_length] at hown
      go_wp2
      go_ret
      exact ⟨va, vc, ks, rfl, by rw [← HLS.out]; exact hown.out, hE.out⟩

end Go.Proofs.YtdgalkljngigeaaGreat

/-
The row of a key: the program's Find.
-/
namespace Go.Proofs.YtdgalkljngigeaaGreat
open Go.RowKit Go.Maps

/-- The row of a key. -/
noncomputable def findP (rs : List Rl) (T : Tb) (o v : Int) (key : List K) : Option (List K) := match getR o v rs with
  | none => none
  | some r => if key.length ≠ r.cols.length ∨ rkey r.cols = false then none else if byKeyI r.cols (T o v) key (-1) < 0 then none else some ((T o v).getD (byKeyI r.cols (T o v) key (-1)).toNat [])
def FindPost (r : Option (List K)) (w : World) (e : Ending) (w' : World) : Prop := ∃ a' c', e = .returned (.tuple #[.slice a' (r.getD []).length c', .bool r.isSome]) ∧ Sl w' (.slice a' (r.getD []).length c') 5 ((r.getD []).map K.pc) ∧ Ext w w'
theorem FindPost.no {r : Option (List K)} {w w' : World} (h : r = none) (he : Ext w w') : FindPost r w (.returned (.tuple #[.slice none 0 0, .bool false])) w' := by
  subst h
  exact ⟨none, 0, rfl, ⟨none, 0, rfl, .inl rfl⟩, he⟩

set_option maxRecDepth 100000 in set_option maxHeartbeats 8000000 in
theorem bfind_any (N g : Nat) (ps : List RR) (T : Tb) (ao av : Int) (key : List K) (ka : Option Addr) (kc : Nat) (w : World) (hb : Bs w N g ps T) (hB : ∀ p ∈ ps, B32 p.r.oid ∧ B32 p.r.ver) (hT : TbOk T 1000) (hk : Sl w (.slice ka key.length kc) 5 (key.map K.pc)) (hkn : key.length ≤ 1000) :
    Calls Tryz.prog 23 #[.pointer (some ⟨g, 0, none⟩), .agg #[.int .u32 ao, .int .u32 av], .slice ka key.length kc] w (FindPost (findP (ps.map RR.r) T ao av key) w) := by
  have HBS := Hid.mk' hb
  have HB := Hid.mk' hB
  have HK := Hid.mk' hk
  have HT := Hid.mk' hT
  obtain ⟨cat, cv, m, hat, hca, hmp⟩ := hb
  have HGC := Hid.mk' (fun W (h : Ext w W) => cget_any N cat cv ps ao av W (hca.ext h))
  have HC16 := Hid.mk' (fun r (hg : getR ao av (ps.map RR.r) = some r) => show r.cols.length ≤ 1000 by
    obtain ⟨p, hp, rfl⟩ := List.mem_map.1 (getR_some hg).1
    have := hca.n16 hp; omega)
  have HMP := Hid.mk' hmp
  have HAT := Hid.mk' hat
  have l0 := hat.cell0
  have l1 := hat.cell1
  have lz : g < w.heap.size := Blk.lt hat
  have HGP : Hid ((getP ao av ps).map RR.r = getR ao av (ps.map RR.r)) := Hid.mk' (getP_map ao av ps)
  clear hB hk hT hat hca hmp
  obtain ⟨res, hres⟩ : ∃ r, r = findP (ps.map RR.r) T ao av key := ⟨_, rfl⟩
  rw [← hres]
  have HRES := Hid.mk' hres
  clear hres
  obtain ⟨H, hH⟩ : ∃ H, H = hasR ao av (ps.map RR.r) := ⟨_, rfl⟩
  obtain ⟨R, hR⟩ : ∃ R, R = ((getP ao av ps).getD RR.zero).r := ⟨_, rfl⟩
  rw [← hH, ← hR] at HGC
  have HH := Hid.mk' hH
  have HRR := Hid.mk' hR
  clear hH hR
  go_enter Tryz.func23, Tryz.ntmps23
  go_upto_region 1 with (fail)
  obtain ⟨w1, hw1⟩ : ∃ w1, w1 = w.alloc (.cells #[.int .u32 ao, .int .u32 av] 68) := ⟨_, rfl⟩
  have HE1 := Hid.mk' (show Ext w w1 by rw [hw1]; exact (Ext.refl w).alloc _)
  have HX1 := Hid.mk' (show Blk w1 w.heap.size #[.int .u32 ao, .int .u32 av] 68 by rw [hw1]; exact Blk.new _ _ _)
  rw [← hw1]
  have g0 := HX1.out.cell
  have z0 := HX1.out.lt
  have k0 : w1.cell? ⟨g, 0, none⟩ = _ := (HE1.out.cells.1 g 0 lz).trans l0
  have kz : g < w1.heap.size := Nat.lt_of_lt_of_le lz HE1.out.size
  have k1 : w1.cell? ⟨g, 1, none⟩ = _ := (HE1.out.cells.1 g 1 lz).trans l1
  clear hw1
  go_cut [8, 9] (fun p i wx => ∃ X, ∃ q : RR, p = .pointer (some ⟨X, 0, none⟩) ∧ i = .bool H ∧ Hid (q.r = R) ∧ Hid (Blk wx X #[.int .u32 q.r.oid, .int .u32 q.r.ver, .string q.r.nm, .int .u8 q.r.id, .slice q.a q.r.cols.length q.c] 99) ∧ Hid (q.in wx) ∧ Hid (Ext w1 wx))
  case first =>
    have hA0 : Hid ((fun w' => Ext (w1) w' ∧ (∀ b o, b < (w1).heap.size → w'.cell? ⟨b, o, none⟩ = (w1).cell? ⟨b, o, none⟩) ∧ (∀ b o, b < (w1).heap.size → w'.frozen? ⟨b, o, none⟩ = (w1).frozen? ⟨b, o, none⟩)) w1.drew) := held_of (by exact eX)
    refine wp_region_head 11 (fun w' => Ext (w1) w' ∧ (∀ b o, b < (w1).heap.size → w'.cell? ⟨b, o, none⟩ = (w1).cell? ⟨b, o, none⟩) ∧ (∀ b o, b < (w1).heap.size → w'.frozen? ⟨b, o, none⟩ = (w1).frozen? ⟨b, o, none⟩)) (by kernel_rfl) (by decide) ?_
    refine HG.on 0 12 hA0.out ?_
    try simp only [Act.put, List.setIfInBounds_toArray, List.set_cons_zero, List.set_cons_succ]
    refine HG.on 1 13 hA0.out ?_
    try simp only [Act.put, List.setIfInBounds_toArray, List.set_cons_zero, List.set_cons_succ]
    refine HG.on 2 14 hA0.out ?_
    try simp only [Act.put, List.setIfInBounds_toArray, List.set_cons_zero, List.set_cons_succ]
    refine HG.on 3 15 hA0.out ?_
    try simp only [Act.put, List.setIfInBounds_toArray, List.set_cons_zero, List.set_cons_succ]
    refine HG.on 4 16 hA0.out ?_
    try simp only [Act.put, List.setIfInBounds_toArray, List.set_cons_zero, List.set_cons_succ]
    refine wpHd_two (i := 5) (j := 9) rfl rfl rfl rfl (by kernel_rfl) (fun KK hK => ?_) (fun KK hK => ?_)
    · go_simp
      refine (HGC.out _ (HE1.out.trans (by exact eX))).mono ?_
      rintro e w6 ⟨q, rfl, hqr, hqo, hb6⟩
      have HQR := Hid.mk' hqr
      have HQO := Hid.mk' hqo
      have HB6 := Hid.mk' (show Ext w1 w6 by exact eX)
      refine hK.out _ _ (held_of HB6.out) (fun hA => ?_)
      clear hK KK hA hqo hqr hb6 hA0
      have hA0 : Hid ((fun w' => Ext (w1) w' ∧ (∀ b o, b < (w1).heap.size → w'.cell? ⟨b, o, none⟩ = (w1).cell? ⟨b, o, none⟩) ∧ (∀ b o, b < (w1).heap.size → w'.frozen? ⟨b, o, none⟩ = (w1).frozen? ⟨b, o, none⟩)) w6) := held_of HB6.out
      refine HG.on 6 11 hA0.out ?_
      try simp only [Act.put, List.setIfInBounds_toArray, List.set_cons_zero, List.set_cons_succ]
      refine HG.on 7 18 hA0.out ?_
      try simp only [Act.put, List.setIfInBounds_toArray, List.set_cons_zero, List.set_cons_succ]
      refine HG.on 8 19 hA0.out ?_
      try simp only [Act.put, List.setIfInBounds_toArray, List.set_cons_zero, List.set_cons_succ]
      refine wpHd_one (i := 9) rfl rfl (by kernel_rfl) (fun KK hK => ?_)
      go_simp
      refine hK.out _ _ (held_of (by have := HB6.out; exact eX)) (fun hA => ?_)
      clear hK KK hA
      refine wpHd_one (i := 10) rfl rfl (by kernel_rfl) (fun KK hK => ?_)
      unfold RR.agg
      go_simp
      refine hK.out _ _ (held_of (by have := HB6.out; exact eX)) (fun hA => ?_)
      clear hK KK hA hA0
      refine wpHd_tail (by kernel_rfl) ?_
      simp only [List.drop_succ_cons, List.drop_zero]
      go_wp2
      go_meet
      case rel => exact ⟨_, q, rfl, rfl, HQR, Hid.mk' (Blk.new _ _ _), Hid.mk' ((RR.owned.in HQO.out).ext (by exact eX)), Hid.mk' (by have := HB6.out; exact eX)⟩
    · go_simp
      refine hK.out _ _ (held_of (by exact eX)) (fun hA => ?_)
      clear hK KK hA
      refine wpHd_one (i := 5) rfl rfl (by kernel_rfl) (fun KK hK => ?_)
      go_simp
      refine (HGC.out _ (HE1.out.trans (by exact eX))).mono ?_
      rintro e w6 ⟨q, rfl, hqr, hqo, hb6⟩
      have HQR := Hid.mk' hqr
      have HQO := Hid.mk' (RR.owned.mono hqo (show w1.heap.size + 1 ≤ _ by simp))
      have HB6 := Hid.mk' (show Ext w1 w6 by exact eX)
      have HX6 := Hid.mk' (show Blk w6 w1.heap.size #[.int .u32 0, .int .u32 0, .string ⟨#[]⟩, .int .u8 0, .slice none 0 0] 99 from (Blk.drew (Blk.new w1 _ _)).ext hb6)
      have gX6 := HX6.out.cell
      have gX6f := HX6.out.frozen
      have zX6 := HX6.out.lt
      refine hK.out _ _ (held_of HB6.out) (fun hA => ?_)
      clear hK KK hA hqo hqr hb6 hA0
      have hA0 : Hid ((fun w' => Ext (w1) w' ∧ (∀ b o, b < (w1).heap.size → w'.cell? ⟨b, o, none⟩ = (w1).cell? ⟨b, o, none⟩) ∧ (∀ b o, b < (w1).heap.size → w'.frozen? ⟨b, o, none⟩ = (w1).frozen? ⟨b, o, none⟩)) w6) := held_of HB6.out
      refine HG.on 6 11 hA0.out ?_
      try simp only [Act.put, List.setIfInBounds_toArray, List.set_cons_zero, List.set_cons_succ]
      refine HG.on 7 18 hA0.out ?_
      try simp only [Act.put, List.setIfInBounds_toArray, List.set_cons_zero, List.set_cons_succ]
      refine HG.on 8 19 hA0.out ?_
      try simp only [Act.put, List.setIfInBounds_toArray, List.set_cons_zero, List.set_cons_succ]
      refine wpHd_one (i := 10) rfl rfl (by kernel_rfl) (fun KK hK => ?_)
      unfold RR.agg
      go_simp
      refine hK.out _ _ (held_of (by have := HB6.out; exact eX)) (fun hA => ?_)
      clear hK KK hA hA0
      refine wpHd_tail (by kernel_rfl) ?_
      simp only [List.drop_succ_cons, List.drop_zero]
      go_wp2
      go_meet
      case rel =>
        refine ⟨_, q, rfl, rfl, HQR, Hid.mk' (Blk.fiveT HX6.out), Hid.mk' ?_, Hid.mk' (by have := HB6.out; exact eX)⟩
        refine RR.owned.in (N := w1.heap.size + 1) (q := q) ?_
        unfold RR.owned
        repeat (with_reducible refine owns_set ?_ (by dsimp only; omega) _)
        exact HQO.out
  case rest =>
    obtain ⟨X, ⟨qr, a2, c2⟩, rfl, rfl, hqr, hbx, hqi, HEX⟩ := hcut
    have HQR := Hid.mk' (show qr = R from hqr.out)
    have HBX := Hid.mk' hbx.out
    have HQI := Hid.mk' hqi.out
    clear hqr hbx hqi k0 k1 kz g0 z0 l0 l1
    simp only at HBX HQI
    have HEC := Hid.mk' (HE1.out.trans HEX.out)
    cases hg : getR ao av (ps.map RR.r) with
    | none =>
      have HR := Hid.mk' (show res = none from by rw [HRES.out]; unfold findP; rw [hg])
      obtain rfl : H = false := HH.out.trans (getR_none.1 hg)
      clear hg
      go_wp2
      go_ret2
      exact FindPost.no HR.out HEC.out
    | some r =>
      have hin : hasR ao av (ps.map RR.r) = true := by
        cases hh : hasR ao av (ps.map RR.r) with
        | true => rfl
        | false => rw [getR_none.2 hh] at hg; cases hg
      obtain rfl : H = true := HH.out.trans hin
      obtain ⟨ho, hv⟩ := hasR_b32 HB.out hin
      have hrr : R = r := by
        have h1 := HGP.out.trans hg
        obtain ⟨p, hp, hpx⟩ := Option.map_eq_some_iff.1 h1
        rw [HRR.out, hp, Option.getD_some, hpx]
      have HC := Hid.mk' (HC16.out r hg)
      have HFP : Hid (res = if key.length ≠ r.cols.length ∨ rkey r.cols = false then none else if byKeyI r.cols (T ao av) key (-1) < 0 then none else some ((T ao av).getD (byKeyI r.cols (T ao av) key (-1)).toNat [])) := Hid.mk' (by rw [HRES.out]; unfold findP; rw [hg])
      have hq2 : qr = r := HQR.out.trans hrr
      subst hq2
      clear hg hin hrr HQR HRR HGP HGC HC16 HH
      obtain ⟨oid, ver, nm, id, cols⟩ := qr
      simp only at HBX HQI HC HFP
      have HQI2 := Hid.mk' (show Sl wc (.slice a2 cols.length c2) 3 (cols.map Col.cells) from HQI.out)
      have gX := HBX.out.cell
      have zX := HBX.out.lt
      by_cases hlen : key.length = cols.length
      case neg =>
        have HR := Hid.mk' (HFP.out.trans (if_pos (.inl hlen)))
        have hl1 : (((key.length : Nat) : Int) != ((cols.length : Nat) : Int)) = true := by simp; omega
        clear hlen HFP
        go_wp2
        go_ret2
        exact FindPost.no HR.out (HEC.out.trans (by exact eX))
      have hl1 : (((key.length : Nat) : Int) != ((cols.length : Nat) : Int)) = false := by simp; omega
      have HKD := Hid.mk' (fun W (h : Ext wc W) => tkeyed_any oid ver nm id cols a2 c2 W (HQI2.out.ext h) HC.out)
      have HRK : Hid (cols.any Col.key = rkey cols) := Hid.mk' rfl
      rw [HRK.out] at HKD
      cases hr : rkey cols with
      | false =>
        rw [hr] at HKD
        have HR := Hid.mk' (HFP.out.trans (if_pos (.inr hr)))
        clear hlen HFP hr HRK
        go_wp2_with (go_at_call 50; refine (HKD.out _ (by exact eX)).mono ?_; rintro e w7 ⟨rfl, hb7⟩)
        go_ret2
        exact FindPost.no HR.out (HEC.out.trans (by exact eX))
      | true =>
        rw [hr] at HKD
        have HR := Hid.mk' (HFP.out.trans (if_neg (fun q => q.elim (fun h => h hlen) (fun h => by rw [hr] at h; cases h))))
        clear hlen HFP hr HRK
        go_upto_region 4 with (go_at_call 50; refine (HKD.out _ (by exact eX)).mono ?_; rintro e w7 ⟨rfl, hb7⟩; have HB7 := Hid.mk' (show Ext wc w7 by exact eX); clear hb7)
        have HE7 := Hid.mk' (HEC.out.trans HB7.out)
        obtain ⟨xv, hrv, hlk⟩ := (HMP.out.ext HE7.out).look ho hv
        obtain ⟨a5, c5, qs, rfl, hrs5, hqs5⟩ := hrv
        have HBK := Hid.mk' (fun W (h : Ext w7 W) => byKey_any oid ver nm id cols a2 c2 key ka kc a5 c5 qs W (HQI2.out.ext (HB7.out.trans h)) HC.out (HK.out.ext (HE7.out.trans h)) hkn (hrs5.ext h) (by
            have h1 := HT.out.n ao av
            rwa [← hqs5, List.length_map] at h1) (fun q hq => HT.out.r ao av _ (by rw [← hqs5]; exact List.mem_map_of_mem hq)))
        have HIL := Hid.mk' (idxI_lt (fun i => decide ((i : Int) ≠ -1) && keyQ cols ((T ao av).getD i []) key) (T ao av).length)
        have HIL2 : Hid (byKeyI cols (T ao av) key (-1) < (T ao av).length) := Hid.mk' HIL.out.2
        rw [hqs5] at HBK
        have HRS5 := Hid.mk' hrs5
        have HQL := Hid.mk' hqs5
        have hm5 := fun q (hq : q ∈ qs) => HT.out.r ao av q.l (by rw [← hqs5]; exact List.mem_map_of_mem hq)
        have HM5 := Hid.mk' hm5
        generalize byKeyI cols (T ao av) key (-1) = I at HBK HR HIL2
        clear gX zX hrs5 hqs5 HIL hm5
        have gX := (HBX.out.ext HB7.out).cell
        have zX := (HBX.out.ext HB7.out).lt
        have g0 := (HX1.out.ext (HEX.out.trans HB7.out)).cell
        have z0 := (HX1.out.ext (HEX.out.trans HB7.out)).lt
        have k0 := (HAT.out.ext HE7.out).cell0
        have k1 := (HAT.out.ext HE7.out).cell1
        have kz : g < w7.heap.size := Nat.lt_of_lt_of_le lz HE7.out.size
        by_cases hI : I < 0
        · have HR2 := Hid.mk' (HR.out.trans (if_pos hI))
          clear HR
          go_region_held3 (fun w' => Ext (w7) w' ∧ (∀ b o, b < (w7).heap.size → w'.cell? ⟨b, o, none⟩ = (w7).cell? ⟨b, o, none⟩) ∧ (∀ b o, b < (w7).heap.size → w'.frozen? ⟨b, o, none⟩ = (w7).frozen? ⟨b, o, none⟩)) ((exact held_of (by exact eX))) (first | (go_at_call 51; refine (HBK.out _ (by exact eX)).mono ?_; rintro e w8 ⟨rfl, hb8⟩; have hE_w8 : Ext (w7) w8 := (by exact eX); obtain ⟨hc_w8, hf_w8⟩ := hE_w8.cells; have hz_w8 := hE_w8.size))
          go_wp2
          go_ret2
          exact FindPost.no HR2.out (HE7.out.trans (by exact eX))
        · have HR2 := Hid.mk' (HR.out.trans (if_neg hI))
          obtain ⟨k, rfl⟩ := Int.eq_ofNat_of_zero_le (show 0 ≤ I by omega)
          have hkq : k < qs.length := by have h1 := HIL2.out; rw [← HQL.out, List.length_map] at h1; omega
          rw [Int.toNat_natCast, ← HQL.out] at HR2
          have HR3 := Hid.mk' (show res = some qs[k].l from HR2.out.trans (by simp [hkq]))
          obtain ⟨b, o, rfl, hb, hx⟩ := HRS5.out.row.at_ (i := k) (by simpa using hkq)
          have f0 := PR.at_ hkq hx hb (Ext.refl w7)
          have HCK := Hid.mk' (fun W (h : Ext w7 W) => clonek_any qs[k].l qs[k].a qs[k].c W (PR.row HRS5.out hkq h) (HM5.out _ (List.getElem_mem hkq)))
          obtain ⟨q, hq⟩ : ∃ q, q = qs[k] := ⟨_, rfl⟩
          rw [← hq] at f0 HCK HR3
          obtain ⟨ql, qa, qc⟩ := q
          simp only at f0 HCK HR3
          clear HR HR2 hI hx hq
          go_region_held3 (fun w' => Ext (w7) w' ∧ (∀ b o, b < (w7).heap.size → w'.cell? ⟨b, o, none⟩ = (w7).cell? ⟨b, o, none⟩) ∧ (∀ b o, b < (w7).heap.size → w'.frozen? ⟨b, o, none⟩ = (w7).frozen? ⟨b, o, none⟩)) ((exact held_of (by exact eX))) (first | (go_at_call 51; refine (HBK.out _ (by exact eX)).mono ?_; rintro e w8 ⟨rfl, hb8⟩; have hE_w8 : Ext (w7) w8 := (by exact eX); obtain ⟨hc_w8, hf_w8⟩ := hE_w8.cells; have hz_w8 := hE_w8.size))
          go_wp2
          have hlk2 : ∀ W', Ext w8 W' → (Instr.lookup 91 (.map (some m)) (.agg #[.int .u32 ao, .int .u32 av]) false).run Tryz.prog W' = .ok (.slice (some ⟨b, o, none⟩) qs.length c5) W' := fun W' h => hlk W' (hE_w8.trans h)
          have f8 := (hc_w8 b (o + k) hb).trans f0
          have b8 : b < w8.heap.size := Nat.lt_of_lt_of_le hb hz_w8
          have j0 := (HAT.out.ext (HE7.out.trans hE_w8)).cell0
          have j1 := (HAT.out.ext (HE7.out.trans hE_w8)).cell1
          have jz : g < w8.heap.size := Nat.lt_of_lt_of_le lz (HE7.out.trans hE_w8).size
          have i0 := (HX1.out.ext (HEX.out.trans (HB7.out.trans hE_w8))).cell
          have iz := (HX1.out.ext (HEX.out.trans (HB7.out.trans hE_w8))).lt
          have HE8 := Hid.mk' (HE7.out.trans hE_w8)
          have HCK8 := Hid.mk' (fun W h => HCK.out W (hE_w8.trans h))
          clear hlk k0 k1 kz gX zX g0 z0 f0 hb HCK hE_w8 hc_w8 hf_w8 hz_w8 hb8
          go_region_held3 (fun w' => Ext (w8) w' ∧ (∀ b o, b < (w8).heap.size → w'.cell? ⟨b, o, none⟩ = (w8).cell? ⟨b, o, none⟩) ∧ (∀ b o, b < (w8).heap.size → w'.frozen? ⟨b, o, none⟩ = (w8).frozen? ⟨b, o, none⟩)) ((exact held_of (by exact eX))) (first | (go_at_call 49; refine (HCK8.out _ (by exact eX)).mono ?_; rintro e w9 ⟨a', c', rfl, ho9, hb9⟩; have HO9 := Hid.mk' ho9; clear ho9; have hE_w9 : Ext (w8) w9 := (by exact eX); obtain ⟨hc_w9, hf_w9⟩ := hE_w9.cells; have hz_w9 := hE_w9.size))
          go_wp2
          have HE9 := Hid.mk' (HE8.out.trans hE_w9)
          go_ret2
          rw [HR3.out]
          exact ⟨a', c', rfl, Sl.of_owns (e := 124) (by rw [List.length_map]; exact HO9.out) (by intro xs hxs; simp at hxs; obtain ⟨_, _, rfl⟩ := hxs; rfl), HE9.out⟩

end Go.Proofs.YtdgalkljngigeaaGreat

/-
The row of a key: the reference's Find.
-/
namespace Go.Proofs.YtdgalkljngigeaaGreat
open Go.RowKit

def FindR (r : Option (List K)) (w : World) (e : Ending) (w' : World) : Prop := ∃ a' c', e = .returned (.tuple #[.slice a' (r.getD []).length c', .bool r.isSome]) ∧ Sl w' (.slice a' (r.getD []).length c') 6 ((r.getD []).map K.rc) ∧ Ext w w'
theorem FindR.no {r : Option (List K)} {w w' : World} (h : r = none) (he : Ext w w') : FindR r w (.returned (.tuple #[.slice none 0 0, .bool false])) w' := by
  subst h
  exact ⟨none, 0, rfl, ⟨none, 0, rfl, .inl rfl⟩, he⟩

set_option maxRecDepth 100000 in set_option maxHeartbeats 8000000 in
theorem rfind22_any (ps : List RR) (T : Tb) (a : Option Addr) (c : Nat) (ta : Option Addr) (n tc : Nat) (o v : Int) (key : List K) (ka : Option Addr) (kc : Nat) (w : World) (hl : RL w (.slice a ps.length c) ps) (hlen : ps.length ≤ 1000) (hcol : ∀ p ∈ ps, p.r.cols.length ≤ 1000) (ht : RT w (.slice ta n tc) ps T) (hT : TbOk T 1000) (hk : Sl w (.slice ka key.length kc) 6 (key.map K.rc)) (hkn : key.length ≤ 1000) :
    Calls Tryz.prog 25 #[.agg #[.slice a ps.length c, .slice ta n tc], .agg #[.int .u32 o, .int .u32 v], .slice ka key.length kc] w (FindR (findP (ps.map RR.r) T o v key) w) := by
  have HGC := Hid.mk' (fun W (h : Ext w W) => rget_any ps a c o v W (hl.ext h) hlen)
  have HRS := Hid.mk' (fun W (h : Ext w W) => rrows22_any ps T a c ta n tc o v W (hl.ext h) hlen (ht.ext h))
  have HBK := Hid.mk' (fun oid ver nm id cols pa pc x (W : World) (h : Ext w W) (hc : Sl W (.slice pa cols.length pc) 3 (cols.map Col.cells)) (hcl : cols.length ≤ 1000) (hr : RwR W x (T o v)) => rbyKey_any oid ver nm id cols pa pc x (T o v) key ka kc (-1) W hc hcl hr (hT.n o v) (hT.r o v) (hk.ext h) hkn)
  have HSL := Hid.mk' hl.sl
  have HCO := Hid.mk' hcol
  have HGP := Hid.mk' (getP_map o v ps)
  obtain ⟨RES, hRES⟩ : ∃ r, r = findP (ps.map RR.r) T o v key := ⟨_, rfl⟩
  rw [← hRES]
  have HR := Hid.mk' hRES
  clear hl hcol ht hk hRES
  cases hg : getP o v ps with
  | none =>
    rw [hg] at HGC HGP
    simp only [Option.getD_none, Option.isSome_none] at HGC
    have HN := Hid.mk' (show RES = none from by rw [HR.out]; unfold findP; rw [← HGP.out]; rfl)
    clear hg HR
    unfold RR.agg at HGC
    go_enter Tryz.func25, Tryz.ntmps25
    have HX := Hid.mk' ((Blk.new w #[.slice a ps.length c, .slice ta n tc] 56).alloc (.cells #[.int .u32 o, .int .u32 v] 44))
    go_wp2_with (go_at_call 53; refine (HGC.out _ (by exact eX)).mono ?_; rintro e w2 ⟨rfl, hb2⟩; have HB2 := Hid.mk' (show Ext w w2 by exact eX); clear hb2)
    go_ret2
    exact FindR.no HN.out (by have := HB2.out; exact eX)
  | some p =>
    rw [hg] at HGC HGP
    simp only [Option.getD_some, Option.isSome_some] at HGC
    have hp : p ∈ ps := List.mem_of_find?_eq_some hg
    have HRO := Hid.mk' (show rowsOf (ps.map RR.r) T o v = T o v from by
      unfold rowsOf
      rw [if_pos]
      have h1 := getP_is o v ps
      rw [hg] at h1
      exact h1.symm)
    have HIN := Hid.mk' (fun W (h : Ext w W) => RR.in.ext (HSL.out p hp) h)
    have HCL := Hid.mk' (HCO.out p hp)
    have HRE := Hid.mk' (show RES = (if key.length ≠ p.r.cols.length ∨ rkey p.r.cols = false then none else if byKeyI p.r.cols (T o v) key (-1) < 0 then none else some ((T o v).getD (byKeyI p.r.cols (T o v) key (-1)).toNat [])) from by
      rw [HR.out]; unfold findP; rw [← HGP.out]; rfl)
    clear hg HR HSL HCO hp HGP
    obtain ⟨⟨oid, ver, nm, id, cols⟩, pa, pc⟩ := p
    unfold RR.agg at HGC
    unfold RR.in at HIN
    simp only at HGC HIN HCL HRE
    have HKD := Hid.mk' (fun W (h : Ext w W) => rkd_any oid ver nm id cols pa pc W (HIN.out W h) HCL.out)
    have HX := Hid.mk' (fun W (h : Ext ((w.alloc (.cells #[.slice a ps.length c, .slice ta n tc] 56)).alloc (.cells #[.int .u32 o, .int .u32 v] 44)) W) => And.intro (((Blk.new w #[.slice a ps.length c, .slice ta n tc] 56).alloc (.cells #[.int .u32 o, .int .u32 v] 44)).ext h) ((Blk.new' (w := w.alloc (.cells #[.slice a ps.length c, .slice ta n tc] 56)) (b := w.heap.size + 1) #[.int .u32 o, .int .u32 v] 44 (by simp)).ext h))
    go_enter Tryz.func25, Tryz.ntmps25
    go_upto_region 2 with (go_at_call 53; refine (HGC.out _ (by exact eX)).mono ?_; rintro e w2 ⟨rfl, hb2⟩; have HB2 := Hid.mk' (show Ext w w2 by exact eX); have HX2 := Hid.mk' hb2; clear hb2)
    have HZ3 := Hid.mk' (Blk.new w2 #[.int .u32 oid, .int .u32 ver, .string nm, .int .u8 id, .slice pa cols.length pc] 51)
    have HE3 := Hid.mk' (show Ext w (w2.alloc (.cells #[.int .u32 oid, .int .u32 ver, .string nm, .int .u8 id, .slice pa cols.length pc] 51)) from HB2.out.alloc _)
    have HX3 := Hid.mk' (HX.out _ (HX2.out.alloc (.cells #[.int .u32 oid, .int .u32 ver, .string nm, .int .u8 id, .slice pa cols.length pc] 51)))
    obtain ⟨w3, hw3⟩ : ∃ w3, w3 = w2.alloc (.cells #[.int .u32 oid, .int .u32 ver, .string nm, .int .u8 id, .slice pa cols.length pc] 51) := ⟨_, rfl⟩
    obtain ⟨Z, hZ⟩ : ∃ Z, Z = w2.heap.size := ⟨_, rfl⟩
    rw [← hw3, ← hZ] at HZ3
    rw [← hw3] at HE3 HX3
    rw [← hw3, ← hZ]
    clear hw3 hZ HB2 HX2 HX HGC
    have gX := HX3.out.1.cell
    have zX := HX3.out.1.lt
    have gY := HX3.out.2.cell
    have zY := HX3.out.2.lt
    have gZ := HZ3.out.cell
    have zZ := HZ3.out.lt
    by_cases hlk : key.length = cols.length
    case neg =>
      have HN := Hid.mk' (show RES = none from by rw [HRE.out, if_pos (.inl hlk)])
      have hne : ((key.length : Int) != (cols.length : Int)) = true := bne_iff_ne.2 (fun e => hlk (by omega))
      have hne2 : (key.length == cols.length) = false := by simpa using hlk
      clear hlk HRE
      go_wp2
      go_ret2
      exact FindR.no HN.out HE3.out
    have HLK := Hid.mk' hlk
    have hne : ((key.length : Int) != (cols.length : Int)) = false := by rw [hlk]; exact bne_self_eq_false _
    have hne2 : (key.length == cols.length) = true := by rw [hlk]; exact beq_self_eq_true _
    cases hrk : rkey cols with
    | false =>
      have HN := Hid.mk' (show RES = none from by rw [HRE.out, if_pos (.inr hrk)])
      rw [hrk] at HKD
      clear HRE hrk
      clear hlk
      go_wp2_with (go_at_call 28; refine (HKD.out _ HE3.out).mono ?_; rintro e w4 ⟨rfl, hb4⟩; have HE4 := Hid.mk' (HE3.out.trans hb4); clear hb4)
      go_ret2
      exact FindR.no HN.out HE4.out
    | true =>
      have HRE2 := Hid.mk' (show RES = (if byKeyI cols (T o v) key (-1) < 0 then none else some ((T o v).getD (byKeyI cols (T o v) key (-1)).toNat [])) from by
        rw [HRE.out, if_neg (by rintro (h | h); exact h HLK.out; rw [hrk] at h; cases h)])
      rw [hrk] at HKD
      clear HRE hrk
      clear hlk
      go_upto_region 4 with (go_at_call 28; refine (HKD.out _ HE3.out).mono ?_; rintro e w4 ⟨rfl, hb4⟩; have HE4 := Hid.mk' (HE3.out.trans hb4); have HX4 := Hid.mk' (show Blk w4 w.heap.size #[.slice a ps.length c, .slice ta n tc] 56 ∧ Blk w4 (w.heap.size + 1) #[.int .u32 o, .int .u32 v] 44 ∧ Blk w4 Z #[.int .u32 oid, .int .u32 ver, .string nm, .int .u8 id, .slice pa cols.length pc] 51 from ⟨HX3.out.1.ext hb4, HX3.out.2.ext hb4, HZ3.out.ext hb4⟩); clear hb4)
      clear gX zX gY zY gZ zZ HX3 HZ3 HKD
      have gX := HX4.out.1.cell
      have zX := HX4.out.1.lt
      have gY := HX4.out.2.1.cell
      have zY := HX4.out.2.1.lt
      go_upto_region 5 with (go_at_call 19; refine (HRS.out _ HE4.out).mono ?_; rintro e w5 ⟨x, rfl, hx5, hb5⟩; rw [HRO.out] at hx5; have HXX := Hid.mk' hx5; have HE5 := Hid.mk' (HE4.out.trans hb5); have HZ5 := Hid.mk' (HX4.out.2.2.ext hb5); clear hb5 hx5)
      clear gX zX gY zY HX4 HRS HRO
      have gZ := HZ5.out.cell
      have zZ := HZ5.out.lt
      have HBC := Hid.mk' (HBK.out oid ver nm id cols pa pc x w5 HE5.out (HIN.out w5 HE5.out) HCL.out HXX.out)
      have HIL := Hid.mk' (show -1 ≤ byKeyI cols (T o v) key (-1) ∧ byKeyI cols (T o v) key (-1) < ((T o v).length : Int) from idxI_lt _ _)
      generalize byKeyI cols (T o v) key (-1) = I at HBC HRE2 HIL
      clear HBK HIN
      by_cases hI : I < 0
      · have HN := Hid.mk' (HRE2.out.trans (if_pos hI))
        have hd : decide (I < 0) = true := decide_eq_true hI
        clear HRE2 hI
        go_wp2_with (go_at_call 54; refine HBC.out.mono ?_; rintro e w6 ⟨rfl, hb6⟩; have HE6 := Hid.mk' (HE5.out.trans hb6); clear hb6)
        go_ret2
        exact FindR.no HN.out HE6.out
      · obtain ⟨k, rfl⟩ := Int.eq_ofNat_of_zero_le (show 0 ≤ I by omega)
        have hd : decide ((k : Int) < 0) = false := decide_eq_false hI
        have hk : k < (T o v).length := by have := HIL.out.2; omega
        have HS0 := Hid.mk' (show RES = some (T o v)[k] from by
          rw [HRE2.out, if_neg hI, Int.toNat_natCast, List.getD_eq_getElem?_getD, List.getElem?_eq_getElem hk]; rfl)
        obtain ⟨xa, xc, qs, rfl, hrow, hsl, hls, -⟩ := HXX.out
        have hkq : k < qs.length := by rw [← hls, List.length_map] at hk; exact hk
        have HQ0 := Hid.mk' (show (T o v)[k] = (qs[k]'hkq).l from by
          have h1 : (T o v)[k]? = (qs.map PR.l)[k]? := by rw [hls]
          rw [List.getElem?_eq_getElem hk, List.getElem?_map, List.getElem?_eq_getElem hkq] at h1
          simpa using h1)
        have HS := Hid.mk' (HS0.out.trans (congrArg some HQ0.out))
        have HROW := Hid.mk' hrow
        have HQS := Hid.mk' (hsl _ (List.getElem_mem hkq))
        clear HS0 HQ0
        clear HRE2 HIL hI hk hls hrow hsl HXX
        go_upto_region 6 with (go_at_call 54; refine HBC.out.mono ?_; rintro e w6 ⟨rfl, hb6⟩; have HE6 := Hid.mk' (HE5.out.trans hb6); have HB6 := Hid.mk' hb6; clear hb6)
        obtain ⟨rb, ro, rfl, hrb, hrx⟩ := HROW.out.at_ (i := k) (by simpa using hkq)
        have f0 := PR.at_ hkq hrx hrb HB6.out
        have hbw : rb < w6.heap.size := Nat.lt_of_lt_of_le hrb HB6.out.size
        obtain ⟨q, hq⟩ : ∃ q, q = qs[k]'hkq := ⟨_, rfl⟩
        rw [← hq] at f0 HS HQS
        clear hq hrx hrb gZ zZ
        obtain ⟨ql, qa, qc⟩ := q
        unfold PR.val at HQS
        simp only at f0 HS HQS
        have hd1 : decide (qs.length ≤ k) = false := decide_eq_false (by omega)
        have hd2 : decide ((qs.length : Int) ≤ (k : Int)) = false := decide_eq_false (by omega)
        have i1 : (k : Int) < (qs.length : Int) := by omega
        go_wp2
        go_ret2
        refine ⟨qa, qc, ?_, ?_, HE6.out⟩
        · rw [HS.out]; rfl
        · rw [HS.out]; exact HQS.out.ext HB6.out

end Go.Proofs.YtdgalkljngigeaaGreat

/-
Are a table's rows the document's: the laws' rows.
-/
namespace Go.Proofs.YtdgalkljngigeaaGreat
open Go.RowKit

set_option maxRecDepth 100000 in set_option maxHeartbeats 4000000 in
theorem lrows_any (a : Option Addr) (c : Nat) (qs : List PR) (v : Value) (w : World) (h1 : RS 5 K.pc w (.slice a qs.length c) qs) (h2 : RwR w v (qs.map PR.l)) (hn : qs.length ≤ 1000) (hm : ∀ q ∈ qs, q.l.length ≤ 1000) :
    Calls Tryz.prog 20 #[.slice a qs.length c, v] w fun e w' => e = .returned (.bool true) ∧ Ext w w' := by
  obtain ⟨a2, c2, rs, rfl, hrow2, hsl2, hls, -⟩ := h2
  have hrl : rs.length = qs.length := by have := congrArg List.length hls; simpa using this
  have HR1 := Hid.mk' h1.row
  have HR2 := Hid.mk' hrow2
  have HRL := Hid.mk' hrl
  have HBK := Hid.mk' (fun q (hq : q ∈ qs) W (h : Ext w W) => backK_any q.l q.a q.c W ((h1.sl q hq).ext h) (hm q hq))
  have HSM := Hid.mk' (fun (l : List K) q (hq : q ∈ rs) (he : q.l = l) (hn : l.length ≤ 1000) W a' c' (h : Ext w W) (hs : Sl W (.slice a' l.length c') 6 (l.map K.rc)) => (show Calls Tryz.prog 26 #[.slice a' l.length c', .slice q.a l.length q.c] W (fun e w' => e = .returned (.bool true) ∧ Ext W w') from by
    subst he
    have h3 := rsame_any q.l q.l a' q.a c' q.c W hs ((hsl2 q hq).ext h) hn hn
    rw [rowB_true.2 rfl] at h3
    exact h3))
  have HEQ := Hid.mk' (fun k (h : k < qs.length) (h' : k < rs.length) => (show (rs[k]'h').l = (qs[k]'h).l from by
    have h4 := congrArg (fun z => z[k]?) hls
    simpa [h, h'] using h4))
  have HM := Hid.mk' hm
  rw [hrl]
  clear h1 hrow2 hsl2 hls hm hrl
  go_enter Tryz.func20, Tryz.ntmps20
  go_wp2
  go_loopw [5] (fun i wr => ∃ k : Nat, k ≤ qs.length ∧ i = .int .i64 k ∧ Hid (Ext w wr)) (fun i _ => qs.length - (intOf i).toNat)
  case atStart => exact ⟨0, Nat.zero_le _, rfl, Hid.mk' (Ext.refl _)⟩
  case round =>
    obtain ⟨k, hk, rfl, hE⟩ := hrel
    by_cases hlt : k < qs.length
    · have hlr : k < rs.length := by have := HRL.out; omega
      obtain ⟨b, o, rfl, hb, hx⟩ := HR1.out.at_ (i := k) (by simpa using hlt)
      have f0 := PR.at_ hlt hx hb hE.out
      have hbw : b < wr.heap.size := Nat.lt_of_lt_of_le hb hE.out.size
      obtain ⟨b2, o2, rfl, hb2, hx2⟩ := HR2.out.at_ (i := k) (by simpa using hlr)
      have g0 := PR.at_ hlr hx2 hb2 hE.out
      have hbw2 : b2 < wr.heap.size := Nat.lt_of_lt_of_le hb2 hE.out.size
      have HBC := Hid.mk' (HBK.out _ (List.getElem_mem hlt))
      have HSC := Hid.mk' (HSM.out (qs[k]'hlt).l _ (List.getElem_mem hlr) (HEQ.out k hlt hlr) (HM.out _ (List.getElem_mem hlt)))
      rw [HEQ.out k hlt hlr] at g0
      obtain ⟨q, hq⟩ : ∃ q, q = qs[k]'hlt := ⟨_, rfl⟩
      obtain ⟨r, hr⟩ : ∃ r, r = rs[k]'hlr := ⟨_, rfl⟩
      rw [← hq] at f0 g0 HBC HSC
      rw [← hr] at g0 HSC
      clear hq hr hx hx2 hb hb2
      obtain ⟨ql, qa, qc⟩ := q
      obtain ⟨rl, ra, rc⟩ := r
      simp only at f0 g0 HBC HSC
      have HLT := Hid.mk' hlt
      have i1 : (k : Int) < (qs.length : Int) := by omega
      have hd1 : decide (qs.length ≤ k) = false := decide_eq_false (by omega)
      have hd2 : decide ((qs.length : Int) ≤ (k : Int)) = false := decide_eq_false (by omega)
      go_wp2
      go_region_held3 (fun w' => Ext (wr) w' ∧ (∀ b o, b < (wr).heap.size → w'.cell? ⟨b, o, none⟩ = (wr).cell? ⟨b, o, none⟩) ∧ (∀ b o, b < (wr).heap.size → w'.frozen? ⟨b, o, none⟩ = (wr).frozen? ⟨b, o, none⟩)) ((exact held_of (by exact eX))) (first
        | (go_at_call 27; refine (HBC.out _ (hE.out.trans (by exact eX))).mono ?_; rintro e w3 ⟨a3, c3, rfl, -, hs3, hb3⟩; have HS3 := Hid.mk' hs3; have HB3 : Hid (Ext wr w3) := Hid.mk' (by exact eX); clear hs3)
        | (go_at_call 26; refine (HSC.out _ _ _ (hE.out.trans HB3.out) HS3.out).mono ?_; rintro e w4 ⟨rfl, hb4⟩; have HB4 : Hid (Ext wr w4) := Hid.mk' (HB3.out.trans hb4)))
      go_wp2
      go_roundw
      case rel => exact ⟨k + 1, HLT.out, by go_num, Hid.mk' (hE.out.trans HB4.out)⟩
      case measure => have := HLT.out; simp [intOf]; omega
    · obtain rfl : k = qs.length := by omega
      go_wp2
      go_ret
      exact ⟨rfl, hE.out⟩

end Go.Proofs.YtdgalkljngigeaaGreat

/-
The laws' own catalog of the arguments' relations; whether they make one.
-/
namespace Go.Proofs.YtdgalkljngigeaaGreat
open Go.RowKit

set_option maxRecDepth 100000 in set_option maxHeartbeats 4000000 in
theorem in16_any (ps : List RR) (a : Option Addr) (cap : Nat) (w : World) (hl : RL w (.slice a ps.length cap) ps) (hb : ∀ p ∈ ps, p.r.wb) (hlen : ps.length ≤ 9223372036854775807) :
    Calls Tryz.prog 7 #[.slice a ps.length cap] w fun e w' => e = .returned (.bool (decide (ofE (ps.map RR.r) = 0))) ∧ Ext w w' := by
  have HRA := Hid.mk' (rof_any ps a cap w hl hb hlen)
  unfold ROfPost at HRA
  obtain ⟨EA, hEA⟩ : ∃ E, E = ofE (ps.map RR.r) := ⟨_, rfl⟩
  rw [← hEA] at HRA ⊢
  clear hl hb hlen hEA
  go_enter Tryz.func7, Tryz.ntmps7
  go_wp2_with (go_at_call 16; refine HRA.out.mono ?_; rintro e w1 ⟨aw, cw, n, rfl, -, -, hb1⟩; have HB1 := Hid.mk' hb1; clear hb1)
  simp [bodyPost, results, Tryz.results7, go_sem]
  exact ⟨by first | rfl | (rw [Bool.eq_iff_iff]; simp), HB1.out⟩

def Own16Post (ps : List RR) (w : World) (e : Ending) (w' : World) : Prop := ∃ g c qs, e = .returned (.pointer (some ⟨g, 0, none⟩)) ∧ w.heap.size ≤ g ∧ Ca w' g g c qs ∧ qs.map RR.r = ofUp (ps.map RR.r) ps.length ∧ Ext w w'
set_option maxRecDepth 100000 in set_option maxHeartbeats 4000000 in
theorem own16_any (ps : List RR) (a : Option Addr) (cap : Nat) (w : World) (hl : RL w (.slice a ps.length cap) ps) (hb : ∀ p ∈ ps, p.r.wb) (hlen : ps.length ≤ 1000) (h0 : ofE (ps.map RR.r) = 0) :
    Calls Tryz.prog 8 #[.slice a ps.length cap] w (Own16Post ps w) := by
  have HOA := Hid.mk' (own9_any ps a cap w hl hlen hb)
  have HB := Hid.mk' hb
  have HEA := Hid.mk' h0
  clear hl hb h0
  go_enter Tryz.func8, Tryz.ntmps8
  go_wp2_with (first
    | (go_at_call 32; refine HOA.out.mono ?_; rintro e w3 ⟨a2', c2', qs2, rfl, ho2, hb2⟩; have HB3 := Hid.mk' hb2; have HOF := Hid.mk' (cof_any qs2 a2' c2' w3 (by rw [ho2.len]; exact ho2.rl) ho2.cap (ho2.wb HB.out) (by rw [ho2.len]; exact hlen)); rw [ho2.rs, ho2.len] at HOF; unfold COfPost at HOF; rw [HEA.out] at HOF; clear ho2 hb2)
    | (go_at_call 31; refine HOF.out.mono ?_; rintro e w4 ⟨pv, rfl, h1, -, hb3⟩; obtain ⟨rfl, cc, qc, hcc, hqc⟩ := h1 (by first | exact rfl | exact trivial); have HCC := Hid.mk' hcc; have HQC := Hid.mk' hqc; have HB4 := Hid.mk' (HB3.out.trans hb3); clear h1 hcc hqc hb3))
  have hz : w.heap.size ≤ w3.heap.size := HB3.out.size
  simp [bodyPost, results, Tryz.results8, go_sem]
  exact ⟨_, cc, qc, rfl, hz, HCC.out, by rw [HQC.out, List.length_map], HB4.out⟩

end Go.Proofs.YtdgalkljngigeaaGreat

/-
A base without rows: the program's New.
-/
namespace Go.Proofs.YtdgalkljngigeaaGreat
open Go.RowKit Go.Maps Go.Shelf
attribute [local go_sem] Oper.semAt_some

theorem stepIn_mapUpdate {F : Fence} {n : Nat} {P : Program} {ops : Array Oper} {o : Oper} {a : Act} {w : World} {K : Act → World → Prop} {Q : Exit → Act → World → Prop} {E : Prop} (hg : o.guard = none) (m x v : Operand) (t : TypeId) (hop : o.op = Op.mapUpdate t m x v)
    (mv key val : Value) (hm : a.eval m = mv) (hx : a.eval x = key) (hv : a.eval v = val) {w' : World} (hrun : (Instr.mapUpdate t mv key val).run P w = .ok () w') (hK : K (a.put o.dst undef) w') : if Region.wanted o (yielded ops a.tmps) = true then Oper.wpIn F n P o a w K Q else E := by
  rw [if_pos (by simp [Region.wanted, hg])]
  unfold Oper.wpIn
  refine ⟨?_, ?_⟩
  · simp [Oper.about, hop]
  · rw [Oper.semAt_plain F _ _ (by rw [hop]; intro c hc'; cases hc')]
    simp [execOp, hop, hm, hx, hv, hrun, Result.andThen]
    exact hK

/-- A map of empty rows, told by refs that were given. -/
def MapN (W : World) (m n : Nat) (rs : List Rl) : Prop := ∃ D : DataW Value, W.ownsMap Tryz.prog 68 RV m (Maps.size D) D ∧ Maps.size D = n ∧ (∀ o v, B32 o → B32 v → Maps.has D (litR o v) = hasR o v rs) ∧ (∀ o v, B32 o → B32 v → D.atKey (litR o v) (.held (.slice none 0 0)) = .held (.slice none 0 0))
theorem MapN.new (w : World) : MapN (w.alloc (.map #[] 0)) w.heap.size 0 [] :=
  ⟨.map [], World.ownsMap_made w _ _ _, rfl, fun _ _ _ _ => rfl, fun _ _ _ _ => rfl⟩
theorem MapN.lt {W : World} {m n : Nat} {rs : List Rl} (h : MapN W m n rs) : m < W.heap.size := by obtain ⟨D, h1, -⟩ := h; exact h1.lt
theorem MapN.kept {W W' : World} {m n : Nat} {rs : List Rl} {row : Option Nat} (h : MapN W m n rs) (hg : W.grownBy W' row) (hne : some m ≠ row) : MapN W' m n rs := by
  obtain ⟨D, h1, h2⟩ := h
  exact ⟨D, h1.kept hg hne, h2⟩
theorem MapN.kp {W W' : World} {m n : Nat} {rs : List Rl} {S : Nat → Prop} (h : MapN W m n rs) (hk : Kp S W W') (hs : ¬ S m) : MapN W' m n rs := by
  obtain ⟨D, ⟨es, cl, hb, h1⟩, h2⟩ := h
  exact ⟨D, ⟨es, cl, (hk.block m (Array.getElem?_eq_some_iff.1 hb).1 hs).trans hb, h1⟩, h2⟩
theorem MapN.map {W : World} {m n : Nat} {rs : List Rl} (h : MapN W m n rs) (hn : n ≤ 1000 ∧ n = rs.length) : MapT W m rs (fun _ _ => []) := by
  obtain ⟨D, h1, h2, h3, h4⟩ := h
  exact ⟨D, h1, by omega, h3, fun o v ho hv => ⟨_, h4 o v ho hv, RwA.nil W⟩⟩
theorem MapN.stored {W : World} {m n : Nat} {rs : List Rl} (h : MapN W m n rs) (hn : n < 1000) {r : Rl} (ho : B32 r.oid) (hv : B32 r.ver) :
    ∃ W', (Instr.mapUpdate 91 (.map (some m)) (.agg #[.int .u32 r.oid, .int .u32 r.ver]) (.slice none 0 0)).run Tryz.prog W = .ok () W' ∧ MapN W' m (if hasR r.oid r.ver rs = true then n else n + 1) (rs ++ [r]) ∧ W.grownBy W' (some m) := by
  obtain ⟨D, h1, h2, h3, h4⟩ := h
  obtain ⟨W', hrun, how, hg⟩ := h1.update Tryz.lawRef Tryz.underlying91 (val := .slice none 0 0) (d := .held (.slice none 0 0)) (ps := []) (by unfold maxLen; omega) (keyRef ho hv) rfl
  have hk := Tryz.lawRef.key (keyRef ho hv)
  have hM := h1.isMap
  refine ⟨W', hrun, ⟨_, ownsMap_size how, ?_, fun a b ha hb => ?_, fun a b ha hb => ?_⟩, hg⟩
  · rw [Maps.size_put (h1.tidy Tryz.lawRef), h3 _ _ ho hv, h2]
  · have e : hasR a b (rs ++ [r]) = (hasR a b rs || isR a b r) := by unfold hasR; rw [List.any_append]; simp
    rw [e]
    by_cases q : a = r.oid ∧ b = r.ver
    · obtain ⟨rfl, rfl⟩ := q
      rw [Maps.has_put_same hM hk]; simp [isR]
    · rw [Maps.has_put_other (fun z => q (litR_inj ha hb ho hv z)), h3 a b ha hb]
      have : isR a b r = false := decide_eq_false (fun z => q ⟨z.1.symm, z.2.symm⟩)
      rw [this, Bool.or_false]
  · by_cases q : a = r.oid ∧ b = r.ver
    · obtain ⟨rfl, rfl⟩ := q
      exact Maps.atKey_put_same hM hk _ _
    · exact (Maps.atKey_put_other (fun z => q (litR_inj ha hb ho hv z)) _ _).trans (h4 a b ha hb)

/-- The refs of relations. -/
def rfOf (l : List Rl) : List Rf := l.map fun r => ⟨r.oid, r.ver⟩
theorem cat_step {L : List Rl} (hl : CatOk L) (pre : List Rl) {r : Rl} (hr : r ∈ L) : addL (L.filter (ofRefs (rfOf pre))) r = L.filter (ofRefs (rfOf (pre ++ [r]))) := by
  have hk : pre.length < (rfOf (pre ++ [r])).length := by unfold rfOf; simp
  have e0 : (rfOf (pre ++ [r]))[pre.length] = ⟨r.oid, r.ver⟩ := by unfold rfOf; simp
  obtain ⟨i, hi, rfl⟩ := List.getElem_of_mem hr
  have hg := hl.srt.get_at hi (o := L[i].oid) (v := L[i].ver) ⟨rfl, rfl⟩
  have h1 := only_step hl hk (r := L[i]) (by rw [e0]; exact hg)
  have e1 : (rfOf (pre ++ [L[i]])).take pre.length = rfOf pre := by unfold rfOf; rw [List.map_append, List.take_left' (by simp)]
  have e2 : (rfOf (pre ++ [L[i]])).take (pre.length + 1) = rfOf (pre ++ [L[i]]) := List.take_of_length_le (by unfold rfOf; simp)
  rw [e1, e2] at h1
  exact h1
theorem cat_len {L : List Rl} (hl : CatOk L) (pre : List Rl) {r : Rl} (hr : r ∈ L) : (L.filter (ofRefs (rfOf (pre ++ [r])))).length = if hasR r.oid r.ver pre = true then (L.filter (ofRefs (rfOf pre))).length else (L.filter (ofRefs (rfOf pre))).length + 1 := by
  have hof : ∀ (l : List Rl) (x : Rl), ofRefs (rfOf l) x = hasR x.oid x.ver l := fun l x => by
    unfold ofRefs rfOf hasR
    rw [List.any_map]
    congr 1
    funext y
    simp only [Function.comp, isR]
    exact decide_eq_decide.2 ⟨fun h => ⟨h.1.symm, h.2.symm⟩, fun h => ⟨h.1.symm, h.2.symm⟩⟩
  have hap : ∀ x : Rl, hasR x.oid x.ver (pre ++ [r]) = (hasR x.oid x.ver pre || isR x.oid x.ver r) := fun x => by unfold hasR; rw [List.any_append]; simp
  rw [← cat_step hl pre hr]
  unfold addL
  cases hh : hasR r.oid r.ver pre with
  | true =>
    have hin : hasR r.oid r.ver (L.filter (ofRefs (rfOf pre))) = true := List.any_eq_true.2 ⟨r, List.mem_filter.2 ⟨hr, by rw [hof]; exact hh⟩, by simp [isR]⟩
    rw [if_neg (show addE (L.filter (ofRefs (rfOf pre))) r ≠ 0 by unfold addE; rw [if_neg (by simpa using hl.right r hr), if_pos hin]; decide), if_pos rfl]
  | false =>
    have hnin : hasR r.oid r.ver (L.filter (ofRefs (rfOf pre))) = false := by
      unfold hasR
      rw [List.any_eq_false]
      intro x hx hq
      have h2 : x.oid = r.oid ∧ x.ver = r.ver := of_decide_eq_true hq
      obtain ⟨h3, h4⟩ := List.mem_filter.1 hx
      rw [hl.srt.uniq h3 hr h2.1 h2.2, hof, hh] at h4
      cases h4
    have hlt : (L.filter (ofRefs (rfOf pre))).length < 64 := by
      rcases Nat.lt_or_ge (L.filter (ofRefs (rfOf pre))).length 64 with h | h
      · exact h
      · have h2 := List.length_filter_le (ofRefs (rfOf pre)) L
        have h3 := hl.n64
        have h4 : L.filter (ofRefs (rfOf pre)) = L := List.filter_eq_self.2 (List.length_filter_eq_length_iff.1 (by omega))
        rw [h4] at hnin
        have h5 : hasR r.oid r.ver L = true := List.any_eq_true.2 ⟨r, hr, by simp [isR]⟩
        rw [h5] at hnin; cases hnin
    rw [if_pos (show addE (L.filter (ofRefs (rfOf pre))) r = 0 by unfold addE; rw [if_neg (by simpa using hl.right r hr), if_neg (by rw [hnin]; simp), if_neg (by omega)]), if_neg (by simp), insR_len]
theorem cat_all {L : List Rl} : L.filter (ofRefs (rfOf L)) = L := by
  rw [List.filter_eq_self]
  intro x hx
  unfold ofRefs rfOf
  rw [List.any_eq_true]
  exact ⟨⟨x.oid, x.ver⟩, List.mem_map.2 ⟨x, hx, rfl⟩, by simp [isR]⟩
theorem cat_none {L : List Rl} : L.filter (ofRefs (rfOf [])) = [] := by
  rw [List.filter_eq_nil_iff]
  intro x _
  simp [ofRefs, rfOf]

/-- What is known while relations are handed out. -/
structure NwI (w W4 : World) (N C m G V : Nat) (L : List Rl) (pre : List RR) (W : World) : Prop where
  ca : ∃ cv qs, Ca W N C cv qs ∧ qs.map RR.r = L.filter (ofRefs (rfOf (pre.map RR.r)))
  mp : MapN W m (L.filter (ofRefs (rfOf (pre.map RR.r)))).length (pre.map RR.r)
  bs : BsAt W G C m
  v : Blk W V #[.pointer (some ⟨G, 0, none⟩)] 28
  w : Below w.heap.size w W
  z : W4.heap.size ≤ W.heap.size

theorem Kp.undrew {S : Nat → Prop} {W W' : World} (h : Kp S W.drew W') : Kp S W W' := ⟨h.os, h.tape, h.output, h.size, h.block⟩
theorem own_not {W : World} {N n g : Nat} {e t : TypeId} {size : Nat} {v : Value} {xs : List Value} {cs : Array Value} (h : W.ownsRow N e size v n xs) (hb : Blk W g cs t) (hne : t ≠ e) : v.ownBlock ≠ some g := fun h2 => by
  rcases h.2 with ⟨h1, -⟩ | ⟨g2, cap, cur, h1, -, h3, -⟩
  · rw [h1] at h2; cases h2
  · rw [h1] at h2
    have e3 : g2 = g := by simpa [Value.ownBlock] using h2
    rw [e3, show W.heap[g]? = _ from hb] at h3
    simp only [Option.some.injEq, Obj.cells.injEq] at h3
    exact hne h3.2.1
theorem own_no_map {W : World} {N n m : Nat} {e : TypeId} {size : Nat} {v : Value} {xs : List Value} {es : Array MapEntry} {cl : Nat} (h : W.ownsRow N e size v n xs) (hb : W.heap[m]? = some (.map es cl)) : v.ownBlock ≠ some m := fun h2 => by
  rcases h.2 with ⟨h1, -⟩ | ⟨g2, cap, cur, h1, -, h3, -⟩
  · rw [h1] at h2; cases h2
  · rw [h1] at h2
    have e3 : g2 = m := by simpa [Value.ownBlock] using h2
    rw [e3, hb] at h3; cases h3

set_option maxRecDepth 100000 in
set_option maxHeartbeats 8000000 in
theorem tnew_in (F : Fence) (n : Nat) (hFe : F = Fence.wide) (h1F : F.fn 59) (hAF : F.fn 34) (hOF : F.fn 60) (hNF : F.fn 33) (hDF : F.fn 35) (hTF : F.fn 9) (hro : F.round = none) (hn : 4 ≤ n) (N g : Nat) (c : Value) (ps : List RR) (w : World) (hc : Ca w N g c ps) (hB : ∀ p ∈ ps, B32 p.r.oid ∧ B32 p.r.ver) :
    CallsIn F n Tryz.prog 9 #[.pointer (some ⟨g, 0, none⟩)] w fun e w' => ∃ G qs, e = .returned (.pointer (some ⟨G, 0, none⟩)) ∧ w.heap.size ≤ G ∧ Bs w' w.heap.size G qs (fun _ _ => []) ∧ qs.map RR.r = ps.map RR.r ∧ Ext w w' := by
  have h1 : 1 ≤ n := by omega
  have HC := Hid.mk' hc
  have HB := Hid.mk' hB
  have HNW := Hid.mk' (fun m W => (show CallsIn F m Tryz.prog 33 #[] W _ from by rw [hFe]; exact callsIn_wide.2 (new_any W)))
  have HAD := Hid.mk' (fun m N g c ps q W h1 h2 h3 h4 => (show CallsIn F m Tryz.prog 35 #[.pointer (some ⟨g, 0, none⟩), q.agg] W (CAddPost N g c ps q W) from by rw [hFe]; exact callsIn_wide.2 (cadd_any N g c ps q W h1 h2 h3 h4)))
  have HFE := Hid.mk' hFe
  have mixed : Tryz.prog.follows .mixedOrders = true := by kernel_rfl
  have hmm := @run_makeMap Tryz.prog
  clear hc hB hFe
  refine callsIn_of_wp_marks Tryz.func9 rfl hTF ?_ hro
  simp only [Tryz.ntmps9, List.size_toArray, List.length_cons, List.length_nil, Nat.reduceAdd, Nat.reduceSub, Array.replicate_succ, Array.replicate_zero, List.push_toArray, List.append_toArray, List.nil_append, List.cons_append]
  gi_wp2_with (first
    | (gi_at_call 33; refine (HNW.out (n - 1) _).mono ?_; rintro e w' ⟨rfl, rfl⟩)
    | (gi_at_call 34; refine (all_in F (n - 1) hAF hro _ _).mono ?_; rintro e w' ⟨rfl, rfl⟩))
  obtain ⟨W4, hW4⟩ : ∃ W4, W4 = (((((w.alloc (.cells #[.slice none 0 0] 149)).alloc (.map #[] 0)).alloc (.cells #[.pointer (some ⟨w.heap.size, 0, none⟩), .map (some (w.heap.size + 1))] 93)).alloc (.cells #[.pointer (some ⟨w.heap.size + 1 + 1, 0, none⟩)] 28)).alloc (.cells #[.pointer (some ⟨g, 0, none⟩)] 26)) := ⟨_, rfl⟩
  have hz4 : W4.heap.size = w.heap.size + 1 + 1 + 1 + 1 + 1 := by rw [hW4]; simp
  have hE4 : Ext w W4 := by rw [hW4]; exact eX
  have hCA : Ca W4 w.heap.size w.heap.size (.slice none 0 0) [] := by rw [hW4]; exact (Ca.new w).ext (by exact eX)
  have hMP : MapN W4 (w.heap.size + 1) 0 [] := by
    rw [hW4]
    have h2 := MapN.new (w.alloc (.cells #[.slice none 0 0] 149))
    rw [World.size_alloc] at h2
    exact h2.kept (row := none) (ext_grown (by exact eX)) (by simp)
  have hBS : BsAt W4 (w.heap.size + 1 + 1) w.heap.size (w.heap.size + 1) := by rw [hW4]; exact ((Blk.new' _ _ (by simp)).alloc _).alloc _
  have hV : Blk W4 (w.heap.size + 1 + 1 + 1) #[.pointer (some ⟨w.heap.size + 1 + 1, 0, none⟩)] 28 := by rw [hW4]; exact (Blk.new' _ _ (by simp)).alloc _
  have hB4 : Blk W4 (w.heap.size + 1 + 1 + 1 + 1) #[.pointer (some ⟨g, 0, none⟩)] 26 := by rw [hW4]; exact Blk.new' _ _ (by simp)
  rw [← hW4]
  have HE4 := Hid.mk' hE4
  clear hW4 hE4 hmm
  have HCO := Hid.mk' HC.out.ok
  have hI : OwnFrom W4.heap.size (NwI w W4 w.heap.size w.heap.size (w.heap.size + 1) (w.heap.size + 1 + 1) (w.heap.size + 1 + 1 + 1) (ps.map RR.r)) := by
    rintro s A B row ⟨⟨cv, qs, q1, q2⟩, q3, q4, q5, q6, q7⟩ hg hr
    have hr2 : ∀ r, row = some r → ∃ o : Obj, A.heap[r]? = some o ∧ o.isCells = false := fun r e => (hr r e).2
    have hlo : ∀ r, row = some r → W4.heap.size ≤ r := fun r e => (hr r e).1
    have hk : ∀ {b : Nat} {cs : Array Value} {t : TypeId}, Blk A b cs t → Blk B b cs t := fun {b cs t} hb => hb.kp (Kp.of_grown hg) (fun e => by
      obtain ⟨ob, ho, hn⟩ := hr2 b e
      rw [show A.heap[b]? = _ from hb] at ho; cases ho; simp [Obj.isCells] at hn)
    have hkp := Kp.of_grown hg
    refine ⟨⟨cv, qs, ?_, q2⟩, q3.kept hg (fun e => by have := hlo _ e.symm; omega), hk q4, hk q5, q6.grown hg (by omega) (fun k e => by have := hlo k e; omega), Nat.le_trans q7 hg.size⟩
    refine q1.kp hkp (fun e => by have := hlo _ e; omega) (fun b e e2 => ?_) (fun p hp h0 b o e e2 => ?_)
    · obtain ⟨ob, ho, hnc⟩ := hr2 b e2
      rcases q1.own.2 with ⟨hv, -⟩ | ⟨gg, cap, cur, hv, -, hh, -⟩
      · rw [hv] at e; cases e
      · rw [hv] at e
        have : gg = b := by simpa [Value.ownBlock] using e
        rw [this, ho] at hh; cases hh; simp [Obj.isCells] at hnc
    · obtain ⟨ob, ho, hnc⟩ := hr2 b e2
      obtain ⟨b', o2, e3, hb3, hc3⟩ := Sl.at_ (q1.sl p hp) (i := 0) (by rw [List.length_map]; exact List.length_pos_iff.2 h0)
      rw [e] at e3; cases e3
      have h5 := hc3 0 (by omega)
      unfold World.cell? at h5
      rw [ho] at h5
      cases hxx : p.r.cols with
      | nil => exact h0 hxx
      | cons d ds =>
        rw [hxx] at h5
        cases ob <;> simp [Obj.isCells, Col.cells] at hnc h5
  refine wpIn_range_told hro h1 (gf := 59) (lb := #[.pointer (some ⟨w.heap.size + 1 + 1 + 1 + 1, 0, none⟩)]) rfl h1F (enters_of Tryz.func59 (by kernel_rfl) rfl)
    (allm_told F (n - 1) HFE.out h1F hOF hro (by omega) (w.heap.size + 1 + 1 + 1 + 1) w W4 N g c ps HC.out HE4.out (hB4.cell 0) hB4.lt) (by omega) (Below.refl _ _) (fun _ => rfl)
    (NwI w W4 w.heap.size w.heap.size (w.heap.size + 1) (w.heap.size + 1 + 1) (w.heap.size + 1 + 1 + 1) (ps.map RR.r)) hI
    ⟨⟨_, [], hCA, cat_none.symm⟩, (by rw [show ([] : List RR).map RR.r = [] from rfl, cat_none]; exact hMP), hBS, hV, HE4.out, Nat.le_refl _⟩
    (fun x a' W => ∃ X Y, a' = { tmps := #[.pointer (some ⟨g, 0, none⟩), undef, .pointer none, .pointer (some ⟨w.heap.size + 1 + 1 + 1, 0, none⟩), .pointer (some ⟨X, 0, none⟩), .pointer (some ⟨Y, 0, none⟩), .pointer (some ⟨w.heap.size, 0, none⟩), .map (some (w.heap.size + 1)), .agg #[.pointer (some ⟨w.heap.size, 0, none⟩), .map (some (w.heap.size + 1))], .pointer (some ⟨w.heap.size + 1 + 1, 0, none⟩), .pointer (some ⟨g, 0, none⟩), .func (.func 59) #[] #[.pointer (some ⟨w.heap.size + 1 + 1 + 1 + 1, 0, none⟩)], .agg #[.int .u32 x.r.oid, .int .u32 x.r.ver], .agg #[.int .u32 x.r.oid, .int .u32 x.r.ver, .string x.r.nm, .int .u8 x.r.id, .slice x.a x.r.cols.length x.c], undef, undef, undef, undef, undef, undef, undef, undef, undef, undef, undef, undef], defers := [] } ∧ W4.heap.size ≤ X ∧ W4.heap.size ≤ Y ∧ Blk W X #[.int .u32 x.r.oid, .int .u32 x.r.ver] 68 ∧ Blk W Y #[.int .u32 x.r.oid, .int .u32 x.r.ver, .string x.r.nm, .int .u8 x.r.id, .slice x.a x.r.cols.length x.c] 99 ∧ x.in W ∧ x.r.cols.length ≤ 1000 ∧ x.r ∈ ps.map RR.r ∧ x.r.cols.length ≤ x.c)
    ?hAx ?assign ?body ?done
  case hAx =>
    rintro x a' W l o' ⟨X, Y, q1, q2, q3, q4, q5, q6, q7, q8, q9⟩ hl ⟨ob, hob, hnc⟩
    have hg := grownBy_putObj' W l o'
    have hk : ∀ {b : Nat} {cs : Array Value} {t : TypeId}, Blk W b cs t → Blk (W.putObj l o') b cs t := fun {b cs t} hb => hb.kp (Kp.of_grown hg) (fun e => by
      injection e with e
      subst e
      rw [show W.heap[l]? = _ from hb] at hob; cases hob; simp [Obj.isCells] at hnc)
    refine ⟨X, Y, q1, q2, q3, hk q4, hk q5, Sl.kp q6 (Kp.of_grown hg) (fun h0 b o e e2 => ?_), q7, q8, q9⟩
    injection e2 with e2
    subst e2
    obtain ⟨b', o2, e3, hb3, hc3⟩ := Sl.at_ q6 (i := 0) (List.length_pos_iff.2 h0)
    rw [e] at e3; cases e3
    have h5 := hc3 0 (by omega)
    unfold World.cell? at h5
    rw [show W.heap[l]? = some ob from hob] at h5
    cases hxx : x.r.cols with
    | nil => rw [hxx] at h0; exact h0 rfl
    | cons d ds =>
      rw [hxx] at h5
      cases ob <;> simp [Obj.isCells, Col.cells] at hnc h5
  case assign =>
    rintro l pre x W K ⟨⟨cv, qs, q1, q2⟩, q3, q4, q5, q6, q7⟩ ⟨hx1, hx2, hx3, hx4⟩ hK
    unfold encA
    rw [fold_two]
    gi_wp2
    have hEW : Ext W ((W.alloc (.cells #[.int .u32 x.r.oid, .int .u32 x.r.ver] 68)).alloc (.cells #[.int .u32 x.r.oid, .int .u32 x.r.ver, .string x.r.nm, .int .u8 x.r.id, .slice x.a x.r.cols.length x.c] 99)) := by exact eX
    exact hK _ _ (((KeepsOthers.alloc _ _).trans (KeepsOthers.alloc _ _)).from _) (hEW.mono (by omega)) ⟨⟨cv, qs, q1.ext hEW, q2⟩, q3.kept (row := none) (ext_grown hEW) (by simp), q4.ext hEW, q5.ext hEW, q6.trans (hEW.mono (by omega)), by simp; omega⟩
      ⟨W.heap.size, W.heap.size + 1, rfl, q7, by omega, (Blk.new _ _ _).alloc _, Blk.new' _ _ (by simp), hx1.ext hEW, hx2, hx3, hx4⟩
  case body =>
    rintro l pre x a' W ⟨⟨cv, qs, q1, q2⟩, q3, q4, q5, q6, q7⟩ hlen ⟨X, Y, rfl, hX, hY, hbX, hbY, hxi, hxn, hxm, hxc⟩
    have h11 : 1 ≤ n - 1 - 1 := by omega
    have hn64 := HC.out.n64
    obtain ⟨p0, hp0, hpe⟩ := List.mem_map.1 hxm
    have hb32 : B32 x.r.oid ∧ B32 x.r.ver := by rw [← hpe]; exact HB.out p0 hp0
    have hwb : x.r.wb := by rw [← hpe]; exact HC.out.wb p0 hp0
    have HFIN : Hid (∀ (w5 w6 : World) (cv' : Value) (q' : RR), q'.r = x.r → Ca w5 w.heap.size w.heap.size cv' (addP qs q') → Kp (Ca.S w.heap.size cv) W w5 → MapN w6 (w.heap.size + 1) (if hasR x.r.oid x.r.ver (pre.map RR.r) = true then ((ps.map RR.r).filter (ofRefs (rfOf (pre.map RR.r)))).length else ((ps.map RR.r).filter (ofRefs (rfOf (pre.map RR.r)))).length + 1) (pre.map RR.r ++ [x.r]) → w5.grownBy w6 (some (w.heap.size + 1)) →
        goesOn W4.heap.size w.heap.size (NwI w W4 w.heap.size w.heap.size (w.heap.size + 1) (w.heap.size + 1 + 1) (w.heap.size + 1 + 1 + 1) (ps.map RR.r)) (pre ++ [x]) W .normal { tmps := #[], defers := [] } w6) := Hid.mk' (fun w5 w6 cv' q' hqr hca hkp hm hg => by
      obtain ⟨D, ⟨es, cl, hbm, -⟩, -⟩ := id q3
      have nm : ¬ Ca.S w.heap.size cv (w.heap.size + 1) := fun h => h.elim (fun e => by omega) (fun e => own_no_map q1.own hbm e)
      have ng : ¬ Ca.S w.heap.size cv (w.heap.size + 1 + 1) := fun h => h.elim (fun e => by omega) (fun e => own_not q1.own q4 (by decide) e)
      have nv : ¬ Ca.S w.heap.size cv (w.heap.size + 1 + 1 + 1) := fun h => h.elim (fun e => by omega) (fun e => own_not q1.own q5 (by decide) e)
      have k6 : Kp (fun k => k = w.heap.size + 1) w5 w6 := (Kp.of_grown hg).mono (fun x hx _ => by injection hx with hx; exact hx.symm)
      have hbm5 : w5.heap[w.heap.size + 1]? = some (.map es cl) := (hkp.block _ (Array.getElem?_eq_some_iff.1 hbm).1 nm).trans hbm
      have kall : Kp (fun k => Ca.S w.heap.size cv k ∨ k = w.heap.size + 1) W w6 := (hkp.mono (T := fun k => Ca.S w.heap.size cv k ∨ k = w.heap.size + 1) (fun x hx _ => .inl hx)).trans k6 (fun x hx _ => .inr hx)
      have hca6 : Ca w6 w.heap.size w.heap.size cv' (addP qs q') := hca.kp k6 (fun e => by omega) (fun b e e2 => by rw [e2] at e; exact own_no_map hca.own hbm5 e) (fun p hp h0 b o e e2 => by
        obtain ⟨b', o2, e3, hb3, hc3⟩ := Sl.at_ (hca.sl p hp) (i := 0) (by rw [List.length_map]; exact List.length_pos_iff.2 h0)
        rw [e] at e3; cases e3
        have h5 := hc3 0 (by omega)
        unfold World.cell? at h5
        rw [show b = _ from e2, hbm5] at h5
        cases hxx : p.r.cols with
        | nil => exact h0 hxx
        | cons d ds => rw [hxx] at h5; simp [Col.cells] at h5)
      have hS : ∀ k, (Ca.S w.heap.size cv k ∨ k = w.heap.size + 1) → w.heap.size ≤ k := fun k hk => hk.elim (fun h => q1.S_ge k h) (fun h => by omega)
      refine ⟨⟨kall.size, fun k ob hk hob hnc => (kall.block k (Array.getElem?_eq_some_iff.1 hob).1 (fun hs => ?_)).trans hob⟩, ⟨kall.os, kall.tape, kall.output, kall.size, fun k hk => kall.block k (by have := q6.size; omega) (fun hs => by have := hS k hs; omega)⟩, ⟨⟨cv', addP qs q', hca6, ?_⟩, ?_, ?_, ?_, ?_, Nat.le_trans q7 kall.size⟩⟩
      · rcases hs with (hs | hs) | hs
        · omega
        · rcases q1.own.2 with ⟨hv, -⟩ | ⟨gg, cap, cur, hv, -, hh, -⟩
          · rw [hv] at hs; cases hs
          · rw [hv] at hs
            have : gg = k := by simpa [Value.ownBlock] using hs
            subst this
            rw [hh] at hob; cases hob; simp [Obj.isCells] at hnc
        · omega
      · rw [addP_r, q2, hqr, List.map_append]
        exact cat_step HCO.out (pre.map RR.r) hxm
      · rw [List.map_append, show [x].map RR.r = [x.r] from rfl, cat_len HCO.out (pre.map RR.r) hxm]; exact hm
      · exact Blk.kp (g := w.heap.size + 1 + 1) q4 kall (fun h => h.elim ng (fun e => by omega))
      · exact q5.kp kall (fun h => h.elim nv (fun e => by omega))
      · exact Kp.ext q6 (fun x hs hx => hS x hs) kall)
    obtain ⟨⟨oid, ver, nm0, id, cols⟩, a2, c2⟩ := x
    simp only at hbX hbY hxn hxm hxc hb32 HFIN ⊢
    have HA := Hid.mk' (fun W' (h : Ext W W') => HAD.out (n - 1 - 1 - 1) w.heap.size w.heap.size cv qs (⟨⟨oid, ver, nm0, id, cols⟩, a2, c2⟩ : RR) W' (q1.ext h) (hxi.ext h) hxc hwb)
    unfold RR.agg at HA
    simp only at HA
    have g0 := q5.cell
    have gz := q5.lt
    have b0 := q4.cell0
    have bz := Blk.lt q4
    have gY := hbY.cell
    have gYz := hbY.lt
    have HX := Hid.mk' hbX
    have HQ4 := Hid.mk' q4
    have HQ5 := Hid.mk' q5
    have HQ3 := Hid.mk' q3
    have HQ1 := Hid.mk' q1.own
    have hXw : w.heap.size < X := by omega
    clear hbX hbY hxi hxm hwb hpe q4 q5 q1 q2 q3 hz4
    gi_wp2
    gi_region_with_o (first | (gi_at_call 35; refine (CallsIn.inRound l (HA.out _ (by exact eX))).mono ?_; rintro e w5 ⟨cv', q', rfl, hqr, hca, hkp, hnew⟩; have HQR := Hid.mk' hqr; have HCA := Hid.mk' hca; have HKP := Hid.mk' (Kp.undrew hkp); clear hqr hca hkp hnew))
    all_goals
      have nm : ¬ Ca.S w.heap.size cv (w.heap.size + 1) := by
        obtain ⟨D, ⟨es, cl, hbm, -⟩, -⟩ := HQ3.out
        exact fun h => h.elim (fun e => by omega) (fun e => own_no_map HQ1.out hbm e)
      have hB5 := Blk.kp (g := w.heap.size + 1 + 1) HQ4.out HKP.out (fun h => h.elim (fun e => by omega) (fun e => own_not HQ1.out HQ4.out (by decide) e))
      have hV5 := HQ5.out.kp HKP.out (fun h => h.elim (fun e => by omega) (fun e => own_not HQ1.out HQ5.out (by decide) e))
      have hX5 := HX.out.kp HKP.out (fun h => h.elim (fun e => by omega) (fun e => own_not HQ1.out HX.out (by decide) e))
      have hM5 := HQ3.out.kp HKP.out nm
      obtain ⟨w6, hrun, hm6, hg6⟩ := MapN.stored (W := w5.drew) hM5 (r := ⟨oid, ver, nm0, id, cols⟩) (by have h1 := List.length_filter_le (ofRefs (rfOf (pre.map RR.r))) (ps.map RR.r); rw [List.length_map] at h1; omega) hb32.1 hb32.2
      have HM6 := Hid.mk' hm6
      have HG6 := Hid.mk' (show w5.grownBy w6 (some (w.heap.size + 1)) from ⟨hg6.os, hg6.tape, hg6.output, hg6.size, hg6.block⟩)
      have k0 := hV5.cell
      have kz := hV5.lt
      have j0 := hB5.cell
      have jz := hB5.lt
      have i0 := hX5.cell
      have iz := hX5.lt
      simp only at hrun
      clear g0 gz b0 bz gY gYz hm6 hg6 hB5 hV5 hX5 nm
      gi_wp2
      gi_region_with_o (first | (refine stepIn_mapUpdate rfl _ _ _ 91 rfl _ _ _ (by rfl) (by rfl) (by rfl) hrun ?_))
      all_goals
        gi_wp2
        exact HFIN.out w5 w6 cv' q' HQR.out HCA.out HKP.out HM6.out HG6.out
  case done =>
    intro D xs W hD hys hall hK
    obtain ⟨⟨cv, qs, q1, q2⟩, q3, q4, q5, q6, q7⟩ := hI.putObj (.deferred none) hall hD hK rfl
    have g5 := hall.v.cell
    have g5z := hall.v.lt
    have hxl : xs.length = ps.length := by have h1 := congrArg List.length hys; simpa using h1
    have hn64 := HC.out.n64
    gi_wp2
    refine ⟨by simp, .inl ⟨_, _, rfl, run_takeDeferred hK, ?_⟩⟩
    refine ⟨.pointer (some ⟨w.heap.size + 1 + 1, 0, none⟩), ?_, w.heap.size + 1 + 1, qs, rfl, by omega, ⟨w.heap.size, cv, w.heap.size + 1, q4, q1, ?_⟩, ?_, q6⟩
    · simp [results, Tryz.f9, go_sem]
    · have h1 := q3.map (by rw [hys, cat_all, List.length_map]; omega)
      rw [hys] at h1
      rw [q2, hys, cat_all]
      exact h1
    · rw [q2, hys, cat_all]

theorem tnew_any (N g : Nat) (c : Value) (ps : List RR) (w : World) (hc : Ca w N g c ps) (hB : ∀ p ∈ ps, B32 p.r.oid ∧ B32 p.r.ver) :
    Calls Tryz.prog 9 #[.pointer (some ⟨g, 0, none⟩)] w fun e w' => ∃ G qs, e = .returned (.pointer (some ⟨G, 0, none⟩)) ∧ w.heap.size ≤ G ∧ Bs w' w.heap.size G qs (fun _ _ => []) ∧ qs.map RR.r = ps.map RR.r ∧ Ext w w' :=
  callsIn_wide.1 (tnew_in Fence.wide 4 rfl trivial trivial trivial trivial trivial trivial rfl (Nat.le_refl _) N g c ps w hc hB)

end Go.Proofs.YtdgalkljngigeaaGreat

/-
How many rows there are: the program's Len, a range over all tables of a map.
-/
namespace Go.Proofs.YtdgalkljngigeaaGreat
open Go.RowKit Go.Maps Go.Shelf
attribute [local go_sem] Oper.semAt_some

/-- A slice that comes out of the map. -/
abbrev SlV := Option Addr × Nat × Nat
def encV (x : SlV) : Array Value := #[.slice x.1 x.2.1 x.2.2]
def sumV (ys : List SlV) : Nat := (ys.map fun y => y.2.1).sum
/-- How many rows the tables have. -/
def lenT (rs : List Rl) (T : Tb) : Nat := (rs.map fun r => (T r.oid r.ver).length).sum
/-- How many rows there are in the tables that are still to come. -/
def leftT (rs : List Rl) (T : Tb) (left : Go.Lit → Bool) : Nat := lenT (rs.filter fun r => left (litR r.oid r.ver)) T
theorem leftT_none {rs : List Rl} {T : Tb} {left : Go.Lit → Bool} (h : ∀ kl, left kl = false) : leftT rs T left = 0 := by
  unfold leftT
  rw [List.filter_eq_nil_iff.2 (fun x _ => by rw [h]; simp)]; rfl
theorem leftT_all {rs : List Rl} {T : Tb} {left : Go.Lit → Bool} (h : ∀ r ∈ rs, left (litR r.oid r.ver) = true) : leftT rs T left = lenT rs T := by
  unfold leftT
  rw [List.filter_eq_self.2 h]
theorem lenT_strike {T : Tb} (p : Rl → Bool) {q : Rl → Bool} {r0 : Rl} : ∀ {l : List Rl}, Srt l → r0 ∈ l → p r0 = true → q r0 = false → (∀ r ∈ l, r ≠ r0 → q r = p r) → lenT (l.filter p) T = (T r0.oid r0.ver).length + lenT (l.filter q) T
  | [], _, h, _, _, _ => by cases h
  | a :: l, hs, h, hp, hq, hr => by
    have hs2 := List.pairwise_cons.1 hs
    have hne : ∀ x ∈ l, x ≠ a := fun x hx e => by
      have h1 := hs2.1 x hx
      rw [e] at h1
      exact ahead_irr h1
    by_cases e : a = r0
    · subst e
      rw [List.filter_cons_of_pos hp, List.filter_cons_of_neg (by rw [hq]; simp)]
      have : l.filter p = l.filter q := List.filter_congr (fun x hx => (hr x (List.mem_cons_of_mem _ hx) (hne x hx)).symm)
      rw [this]
      unfold lenT; simp
    · have h2 : r0 ∈ l := (List.mem_cons.1 h).elim (fun e2 => absurd e2.symm e) id
      have ih := lenT_strike (T := T) p hs2.2 h2 hp hq (fun r hr1 hr2 => hr r (List.mem_cons_of_mem _ hr1) hr2)
      have hqa := hr a (List.mem_cons_self ..) e
      cases hpa : p a with
      | true =>
        rw [List.filter_cons_of_pos hpa, List.filter_cons_of_pos (by rw [hqa]; exact hpa)]
        unfold lenT at ih ⊢
        rw [List.map_cons, List.map_cons, List.sum_cons, List.sum_cons, ih]; omega
      | false =>
        rw [List.filter_cons_of_neg (by rw [hpa]; simp), List.filter_cons_of_neg (by rw [hqa, hpa]; simp)]
        exact ih
theorem leftT_step {rs : List Rl} {T : Tb} {left : Go.Lit → Bool} {o v : Int} (hs : Srt rs) (hB : ∀ r ∈ rs, B32 r.oid ∧ B32 r.ver) (ho : B32 o) (hv : B32 v) (hin : hasR o v rs = true) (hl : left (litR o v) = true) :
    leftT rs T left = (T o v).length + leftT rs T (fun z => left z && !z.sameKey (litR o v)) := by
  unfold hasR at hin
  obtain ⟨r0, hr0, h1⟩ := List.any_eq_true.1 hin
  obtain ⟨rfl, rfl⟩ : r0.oid = o ∧ r0.ver = v := of_decide_eq_true h1
  have hk := WideAt.sameKey_self (Tryz.lawRef.key (keyRef ho hv))
  unfold leftT
  refine lenT_strike _ hs hr0 hl (by simp only [hk]; simp) (fun r hr hne => ?_)
  have h2 := hB r hr
  have h3 : (litR r.oid r.ver).sameKey (litR r0.oid r0.ver) = false := by
    cases h4 : (litR r.oid r.ver).sameKey (litR r0.oid r0.ver) with
    | false => rfl
    | true =>
      obtain ⟨e1, e2⟩ := litR_inj h2.1 h2.2 ho hv (WideAt.sameKey_eq h4)
      exact absurd (hs.uniq hr hr0 e1 e2) hne
  simp only [h3, Bool.not_false, Bool.and_true]
theorem has_of_at {D : DataW Value} (hD : IsMap D) {kl : Go.Lit} {c : Value} (h : ∀ zd, D.atKey kl zd = .held c) : Maps.has D kl = true := by
  obtain ⟨es, rfl⟩ := hD
  have h1 := h .nil
  unfold DataW.atKey at h1
  simp only at h1
  split at h1
  · rename_i p hp
    exact List.any_eq_true.2 ⟨p, List.mem_of_find?_eq_some hp, by have h2 := List.find?_some hp; simpa using h2⟩
  · cases h1

set_option maxRecDepth 100000 in
set_option maxHeartbeats 2000000 in
theorem values1_in (F : Fence) (n : Nat) (hF : F.fn 64) (hro : F.round = none) (hn : 1 ≤ n) (l Bm m : Nat) (rs : List Rl) (T : Tb) (J Jx : List SlV → World → Prop) (hs : Hid (Srt rs)) (hB : Hid (∀ r ∈ rs, B32 r.oid ∧ B32 r.ver))
    (hY : Hid (∀ pre x W, J pre W → pre.length < 1000 → YieldAt F (n - 1) Tryz.prog l (encV x) W fun e W' => (e = .returned (.bool true) ∧ J (pre ++ [x]) W' ∧ KeepsWalks W W') ∨ (e = .returned (.bool false) ∧ Jx (pre ++ [x]) W')))
    (W : World) (hJ : Hid (AbidesFrom W.heap.size J)) (hm : W.cell? ⟨Bm, 0, none⟩ = some (.map (some m))) (hmp : MapT W m rs T) (h0 : Hid (J [] W)) :
    CallsIn F n Tryz.prog 64 #[.func (.yield l) #[] #[], .pointer (some ⟨Bm, 0, none⟩)] W fun e W' => (∃ v, e = .returned v) ∧ ((∃ ys, sumV ys = lenT rs T ∧ J ys W') ∨ (∃ pre, True ∧ Jx pre W')) := by
  obtain ⟨D, hown, hle, hhas, hat0⟩ := hmp
  have HAS := Hid.mk' hhas
  have HAT := Hid.mk' hat0
  have HMAP := Hid.mk' hown.isMap
  have HLE := Hid.mk' hle.1
  have hbz : ∃ b, b = Bm := ⟨_, rfl⟩
  clear hhas hat0 hle hbz
  refine callsIn_of_wp Tryz.func64 rfl hF ?_ hro
  simp only [Tryz.ntmps64, List.size_toArray, List.length_cons, List.length_nil, Nat.reduceAdd, Nat.reduceSub, Array.replicate_succ, Array.replicate_zero, List.push_toArray, List.append_toArray, List.nil_append, List.cons_append]
  gi_wp2_with (first
    | (gi_at_range; refine wpListIn_range_own _ rfl _ 91 rfl 68 66 Tryz.lawRef Tryz.underlying91 RV m (Maps.size D) _ rfl hown ?_; intro w0 hrg0 hg0 hs0)
    | gi_in)
  go_frame
  gi_loopw [4] (fun _ wr => ∃ (left : Go.Lit → Bool) (cnt : Nat) (ys : List SlV), wr.ranges Tryz.prog 68 RV m W.heap.size (Maps.size D) D left cnt ∧ Hid (ys.length + cnt ≤ Maps.size D) ∧ Hid (sumV ys + leftT rs T left = lenT rs T) ∧ Hid (J ys wr))
    (fun _ wr => wr.rangeLeft m W.heap.size)
  case atStart =>
    exact ⟨_, _, [], hrg0, Hid.mk' (by simp), Hid.mk' (by
      rw [leftT_all (fun r hr => ?_)]
      · simp [sumV]
      · have h2 := hB.out r hr
        rw [HAS.out _ _ h2.1 h2.2]
        exact List.any_eq_true.2 ⟨r, hr, by simp [isR]⟩), Hid.mk' (hJ.out [] W w0 none h0.out hg0 (fun r e => by cases e))⟩
  case round =>
    obtain ⟨left, cnt, ys, hrg, hcs, hsum, hJs⟩ := hrel
    gi_wp2_with (first
      | (gi_at_next; refine wpListIn_next_ranges _ rfl _ rfl 68 Tryz.lawRef RV (fun (x : Int × Int) => Value.agg #[.int .u32 x.1, .int .u32 x.2]) (fun (v : Value) => v) (fun key kl hk => by obtain ⟨o, v, hx, _⟩ := keyRef_inv hk; exact ⟨(o, v), hx⟩) (fun v y _ => ⟨v, rfl⟩) m W.heap.size (Maps.size D) _ _ _ rfl hrg ?_ ?_)
      | gi_in)
    · intro hc0 hl0
      have HZ := Hid.mk' (leftT_none (rs := rs) (T := T) hl0)
      clear hl0 hc0
      gi_wp2
      go_end0
      exact ⟨⟨_, rfl⟩, .inl ⟨ys, by have := hsum.out; rw [HZ.out] at this; exact this, hJs.out⟩⟩
    · intro o v cv kl yd yp w2 cnt2 hkey hlk hv hat hrg2 hlt hg2 hs2 hen
      obtain ⟨o', v', ex, ho, hv', rfl⟩ := keyRef_inv hkey
      obtain ⟨rfl, rfl⟩ : o = o' ∧ v = v' := by simpa using ex
      obtain rfl : yd = .held cv := by unfold RV at hv; simp only [Option.some.injEq, Prod.mk.injEq] at hv; exact hv.1.symm
      have hh : hasR o v rs = true := by rw [← HAS.out o v ho hv']; exact has_of_at HMAP.out hat
      obtain ⟨xv, hxv, hrw⟩ := HAT.out o v ho hv'
      have hcx : cv = xv := by
        have h1 := hat (.held (.slice none 0 0))
        rw [hxv] at h1
        simpa using h1.symm
      obtain ⟨sa, sc, qs, hxs, -, hql⟩ := hrw
      rw [hxs] at hcx
      subst hcx
      have HST := Hid.mk' (leftT_step (T := T) hs.out hB.out ho hv' hh hlk)
      have HQL := Hid.mk' (show qs.length = (T o v).length by rw [← hql, List.length_map])
      have hJ2 : J ys w2 := hJ.out ys wr w2 (some W.heap.size) hJs.out hg2 (fun r e => by cases e; exact ⟨Nat.le_refl _, hrg.iter_walk⟩)
      obtain ⟨fn, tmps, assign, body, hy, hR⟩ := hY.out ys (sa, qs.length, sc) w2 hJ2 (by have := hcs.out; have := HLE.out; omega)
      dsimp only [encV] at hy
      clear hs2 hkey hlk hat hxv hh ex hql hv
      gi_wp2
      refine hR.mono ?_
      rintro e W3 (⟨rfl, hJ3, hk3⟩ | ⟨rfl, hJx3⟩)
      · have HJ3 := Hid.mk' hJ3
        clear hJ3
        gi_wp2
        have hrg3 := hrg2.of_walks hk3
        go_roundw
        case rel => exact ⟨_, cnt2, ys ++ [(sa, qs.length, sc)], hrg3, Hid.mk' (by have := hcs.out; simp; omega), Hid.mk' (by
          have h1 := hsum.out
          rw [HST.out] at h1
          unfold sumV at h1 ⊢
          rw [List.map_append, List.sum_append]
          simp only [List.map_cons, List.map_nil, List.sum_cons, List.sum_nil]
          have := HQL.out
          omega), HJ3⟩
        case measure => rw [hrg3.left_eq, hrg.left_eq]; exact hlt
      · have HJx3 := Hid.mk' hJx3
        clear hJx3
        gi_wp2
        refine bodyPost_ret (results_none rfl _ _ _) rfl ?_
        exact ⟨⟨_, rfl⟩, .inr ⟨_, trivial, HJx3.out⟩⟩

theorem values_stops (F : Fence) (n : Nat) (hF : F.fn 64) (hro : F.round = none) (hn : 1 ≤ n) (Bm m : Nat) (rs : List Rl) (T : Tb) (w : World) (hs : Srt rs) (hB : ∀ r ∈ rs, B32 r.oid ∧ B32 r.ver) (hBm : Bm < w.heap.size) (hm : w.cell? ⟨Bm, 0, none⟩ = some (.map (some m))) (hmp : MapT w m rs T) :
    SeqStopsK F n Tryz.prog 64 #[.pointer (some ⟨Bm, 0, none⟩)] encV KeepsWalks (fun ys => sumV ys = lenT rs T) (fun _ => True) 1000 w := fun l J Jx W hW hJ _ hY h0 =>
  values1_in F n hF hro hn l Bm m rs T J Jx hs hB hY W hJ ((hW.cell (p := ⟨Bm, 0, none⟩) hBm).trans hm) (hmp.ext hW) h0
set_option maxRecDepth 20000 in set_option maxHeartbeats 400000 in
theorem values_in (F : Fence) (n : Nat) (hf : F.fn 37) (hro : F.round = none) (mb : Option Nat) (w : World) :
    CallsIn F n Tryz.prog 37 #[.map mb] w fun e w' => e = .returned (.func (.func 64) #[] #[.pointer (some ⟨w.heap.size, 0, none⟩)]) ∧ w' = w.alloc (.cells #[.map mb] 91) := by
  refine callsIn_of_wp Tryz.func37 rfl hf ?_ hro
  simp only [Tryz.ntmps37, List.size_toArray, List.length_cons, List.length_nil, Nat.reduceAdd, Nat.reduceSub, Array.replicate_succ, Array.replicate_zero, List.push_toArray, List.append_toArray, List.nil_append, List.cons_append]
  gi_wp2
  go_ret
  exact ⟨rfl, rfl⟩

/-- The sum as the program adds it up. -/
def addV (ys : List SlV) : Int := ys.foldl (fun s y => wrap64 (s + (y.2.1 : Int))) 0
theorem addV_snoc (ys : List SlV) (y : SlV) : addV (ys ++ [y]) = wrap64 (addV ys + (y.2.1 : Int)) := by unfold addV; rw [List.foldl_append]; rfl
theorem addV_sum {ys : List SlV} (h : sumV ys ≤ 9223372036854775807) : addV ys = sumV ys := by
  have key : ∀ (ys : List SlV) (s : Nat), s + sumV ys ≤ 9223372036854775807 → ys.foldl (fun s y => wrap64 (s + (y.2.1 : Int))) (s : Int) = ((s + sumV ys : Nat) : Int) := by
    intro ys
    induction ys with
    | nil => intro s _; simp [sumV]
    | cons y ys ih =>
      intro s h
      have e : sumV (y :: ys) = y.2.1 + sumV ys := by unfold sumV; simp
      rw [e] at h ⊢
      have e2 : wrap64 ((s : Int) + (y.2.1 : Int)) = ((s + y.2.1 : Nat) : Int) := by unfold wrap64; omega
      rw [List.foldl_cons, e2, ih (s + y.2.1) (by omega)]
      congr 1; omega
  have := key ys 0 (by omega)
  unfold addV
  simpa using this

set_option maxRecDepth 100000 in
set_option maxHeartbeats 2000000 in
theorem blen_in (F : Fence) (n : Nat) (h1F : F.fn 64) (hVF : F.fn 37) (hLF : F.fn 11) (hro : F.round = none) (hn : 3 ≤ n) (N g : Nat) (ps : List RR) (T : Tb) (w : World) (hb : Bs w N g ps T) (hB : ∀ p ∈ ps, B32 p.r.oid ∧ B32 p.r.ver) (hs : lenT (ps.map RR.r) T ≤ 9223372036854775807) :
    CallsIn F n Tryz.prog 11 #[.pointer (some ⟨g, 0, none⟩)] w fun e w' => e = .returned (.int .i64 (lenT (ps.map RR.r) T : Nat)) ∧ Ext w w' := by
  have h1 : 1 ≤ n := by omega
  obtain ⟨cat, cv, m, hat, hca, hmp⟩ := hb
  have HSR := Hid.mk' hca.ok.srt
  have HB := Hid.mk' (show ∀ r ∈ ps.map RR.r, B32 r.oid ∧ B32 r.ver from fun r hr => by
    obtain ⟨p, hp, rfl⟩ := List.mem_map.1 hr
    exact hB p hp)
  have HMP := Hid.mk' hmp
  have HSL := Hid.mk' hs
  have l0 := hat.cell0
  have l1 := hat.cell1
  have lz : g < w.heap.size := Blk.lt hat
  clear hat hca hmp hB hs
  refine callsIn_of_wp_marks Tryz.func11 rfl hLF ?_ hro
  simp only [Tryz.ntmps11, List.size_toArray, List.length_cons, List.length_nil, Nat.reduceAdd, Nat.reduceSub, Array.replicate_succ, Array.replicate_zero, List.push_toArray, List.append_toArray, List.nil_append, List.cons_append]
  gi_wp2_with (gi_at_call 37; refine (values_in F (n - 1) hVF hro _ _).mono ?_; rintro e w' ⟨rfl, rfl⟩)
  obtain ⟨W0, hW0⟩ : ∃ W0, W0 = (w.alloc (.cells #[.int .i64 0] 3)).alloc (.cells #[.map (some m)] 91) := ⟨_, rfl⟩
  have hz0 : W0.heap.size = w.heap.size + 2 := by rw [hW0]; simp
  have hE0 : Ext w W0 := by rw [hW0]; exact eX
  have hB0 : Blk W0 w.heap.size #[.int .i64 0] 3 := by rw [hW0]; exact (Blk.new _ _ _).alloc _
  have hB1 : Blk W0 (w.heap.size + 1) #[.map (some m)] 91 := by rw [hW0]; exact Blk.new' _ _ (by simp)
  have hBW : Below w.heap.size w W0 := hE0
  rw [← hW0]
  clear hW0 l0 l1
  refine wpIn_rangeFunc_ownF hro h1 (gf := 64) (lb := #[.pointer (some ⟨w.heap.size + 1, 0, none⟩)]) rfl h1F (enters_of Tryz.func64 (by kernel_rfl) rfl)
    (values_stops F (n - 1) h1F hro (by omega) (w.heap.size + 1) m (ps.map RR.r) T W0 HSR.out HB.out hB1.lt (hB1.cell 0) (HMP.out.ext hE0)) walksK_t walksK_b (Below.refl _ _) (fun _ => rfl)
    (fun pre W => (W.cell? ⟨w.heap.size, 0, none⟩ = some (.int .i64 (addV pre)) ∧ W.frozen? ⟨w.heap.size, 0, none⟩ = false ∧ w.heap.size < W.heap.size) ∧ Below w.heap.size w W)
    (fun _ _ _ => False)
    (OwnFrom.and (Own.from (fun s A B row hs hg hr => ⟨cell_kept hs.1 hg hr, (frozen_kept hs.1 hg hr).trans hs.2.1, Nat.lt_of_lt_of_le hs.2.2 hg.size⟩) _) (ownFrom_below (Nat.le_refl _) (by omega)))
    (fun c => fun s A B row hs hg hr => hs)
    ⟨⟨hB0.cell 0, hB0.frozen 0, hB0.lt⟩, hBW⟩
    (fun x => { tmps := #[.pointer (some ⟨g, 0, none⟩), undef, .int .i64 0, .pointer (some ⟨w.heap.size, 0, none⟩), .slice x.1 x.2.1 x.2.2, .pointer (some ⟨g, 0, none⟩), .pointer (some ⟨g, 0, none⟩), .pointer (some ⟨g, 1, none⟩), .map (some m), .func (.func 64) #[] #[.pointer (some ⟨w.heap.size + 1, 0, none⟩)], .slice x.1 x.2.1 x.2.2, undef, undef, undef, undef, undef], defers := [] }) ?assign ?body ?done ?stop
  case assign =>
    intro l x W K hK
    unfold encV
    gi_wp2
    exact hK
  case body =>
    rintro l pre x W ⟨⟨hc, hf, hz⟩, hB⟩ _
    gi_wp2
    exact ⟨KeepsOthers.setCell _ _ _, (KeepsOthers.setCell _ _ _).walks, ⟨by rw [addV_snoc]; exact World.cell?_setCell_same' _ _ _ (by rw [hc]; rfl), by simpa using hf, by simpa using hz⟩, hB.setCell (p := ⟨w.heap.size, 0, none⟩) (Nat.le_refl _) _⟩
  case done =>
    rintro D ys W hD hys ⟨⟨hc, hf, hz⟩, hB⟩ hK
    gi_wp2
    refine ⟨by simp, .inl ⟨_, _, rfl, run_takeDeferred hK, ?_⟩⟩
    refine ⟨.int .i64 (addV ys), ?_, by rw [addV_sum (by rw [hys]; exact HSL.out), hys], hB.trans (belowK_b (w := w) (Nat.le_refl _) _ D _ _ (by omega) hK rfl rfl)⟩
    simp [results, Tryz.f11, go_sem]
  case stop => exact fun _ _ _ _ _ _ h _ => h.elim

theorem blen_any (N g : Nat) (ps : List RR) (T : Tb) (w : World) (hb : Bs w N g ps T) (hB : ∀ p ∈ ps, B32 p.r.oid ∧ B32 p.r.ver) (hs : lenT (ps.map RR.r) T ≤ 9223372036854775807) :
    Calls Tryz.prog 11 #[.pointer (some ⟨g, 0, none⟩)] w fun e w' => e = .returned (.int .i64 (lenT (ps.map RR.r) T : Nat)) ∧ Ext w w' :=
  callsIn_wide.1 (blen_in Fence.wide 3 trivial trivial trivial rfl (Nat.le_refl _) N g ps T w hb hB hs)

end Go.Proofs.YtdgalkljngigeaaGreat
