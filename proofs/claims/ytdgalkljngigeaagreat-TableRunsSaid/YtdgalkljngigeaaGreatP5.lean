/-
slices.Insert of one relation into a row of the call's own.
-/
import Derived.Laws.CopyOwn
import Derived.Lib.Overlaps
import Derived.Lib.AppendZerosOnto
import Derived.Maps.AppendAt
import Derived.Shelf.Spec.SlicesInsert
import Derived.Test.YtdgalkljngigeaaGreatP4
namespace Go.Proofs.YtdgalkljngigeaaGreat
open Go.RowKit Go.Lib Go.Shelf

theorem Tryz.infoRel : (Tryz.prog.info? 99).map (fun i => (i.zero, i.size, i.bytes)) = some (some (.agg #[.int .u32 0, .int .u32 0, .string ByteArray.empty, .int .u8 0, .slice none 0 0]), 5, 56) := by kernel_rfl

/-- copy of elements of k cells into a row that is known whole. -/
theorem run_copy_rowK {P : Program} (w : World) (dT sT ty elem : TypeId) (k g o dLen dCap : Nat) (a : Addr) (sLen sCap m : Nat) (cur : Array Value) (t : TypeId) (cs : List Value)
    (hu : P.underlying dT = some (.slice elem)) (hs : (P.info? elem).map (·.size) = some k)
    (hg : w.heap[g]? = some (.cells cur t (0, 0))) (hm : Nat.min sLen dLen = m) (hn : cs.length = m * k)
    (hsrc : ∀ j v, cs[j]? = some v → w.cell? (a.add j) = some v) (hfit : o + cs.length ≤ cur.size) (h1 : ∀ v ∈ cs, v.oneCell' = true) :
    (Builtin.copy_ #[dT, sT] ty #[.slice (some ⟨g, o, none⟩) dLen dCap, .slice (some a) sLen sCap]).run P w = .ok (goInt m) (w.setRow g (splice cur.toList o cs).toArray) := by
  have hl := run_loadCells_list (P := P) w a cs hsrc
  rw [hn] at hl
  have hst := run_storeCells_at P g o t cs 0 cur w hg (by simpa using hfit) h1
  cases hq : P.info? elem with
  | none => simp [hq] at hs
  | some i =>
    have hi : i.size = k := by simpa [hq] using hs
    simp [Builtin.copy_, run_underlying hu, Builtin.lenOf, Builtin.firstCells, sizeOf, typeInfo, hq, hi, hm, hl, hst, splice]

theorem owns_parts {w : World} {N n cap : Nat} {g o : Nat} {sp : Option _} {xs : List Value} (h : w.ownsRow N 99 5 (.slice (some ⟨g, o, sp⟩) n cap) n xs) :
    o = 0 ∧ sp = none ∧ xs.length = n * 5 ∧ N ≤ g ∧ n ≤ cap ∧ cap ≤ maxLen ∧ ∃ cur : Array Value, Blk w g cur 99 ∧ cur.size = cap * 5 ∧ cur.toList.take (n * 5) = xs := by
  obtain ⟨h1, h2 | ⟨g', cap', cur, hv, hg, hh, hn, hm, hs, ht⟩⟩ := h
  · cases h2.1
  · simp only [Value.slice.injEq, Option.some.injEq, Addr.mk.injEq] at hv
    obtain ⟨⟨rfl, rfl, rfl⟩, -, rfl⟩ := hv
    exact ⟨rfl, rfl, h1, hg, hn, hm, cur, hh, hs, ht⟩

theorem own_slice (a : Option Addr) (n c : Nat) : (Value.slice a n c).ownBlock = a.map Addr.block := by cases a <;> rfl
def InsPost (N n : Nat) (v : Value) (zs : List Value) (w : World) (e : Ending) (w' : World) : Prop :=
  ∃ v', e = .returned v' ∧ w'.ownsRow N 99 5 v' (n + 1) zs ∧ w.grownBy w' v.ownBlock ∧ (v'.ownBlock = v.ownBlock ∨ ∃ b, v'.ownBlock = some b ∧ w.heap.size ≤ b)

set_option maxRecDepth 100000 in set_option maxHeartbeats 4000000 in
theorem ins_end (N n : Nat) (a : Option Addr) (cap vb : Nat) (xs ys : List Value) (w : World) (hown : w.ownsRow N 99 5 (.slice a n cap) n xs) (hyl : ys.length = 5) (hy : ∀ j u, ys[j]? = some u → w.cell? ((⟨vb, 0, none⟩ : Addr).add j) = some u) (h1 : ∀ u ∈ ys, u.oneCell' = true) (hn : n ≤ 1000) (hN : N ≤ w.heap.size) :
    Calls Tryz.prog 63 #[.slice a n cap, .int .i64 n, .slice (some ⟨vb, 0, none⟩) 1 1] w (InsPost N n (.slice a n cap) (xs ++ ys) w) := by
  obtain ⟨i0, hi, hz0, hz1, hz2⟩ := info_parts Tryz.infoRel
  have HO := Hid.mk' hown
  have hcap : n ≤ cap := owns_cap hown
  clear hown
  go_enter Tryz.func63, Tryz.ntmps63
  go_wp2_with (at_builtin; refine wpList_append_own_at _ rfl _ _ 88 rfl N 99 i0 _ 5 56 Tryz.underlying88 hi hz0 hz1 hz2 rfl (by decide) (.slice a n cap) n xs rfl HO.out _ 1 1 ys rfl (by simpa using hyl) hy h1 (by unfold maxLen; omega) (by omega) hN ?_)
  all_goals
    intro v' w2 hown' hgrow _ hat
    rw [own_slice] at hgrow hat
    have H1 := Hid.mk' hown'
    have H2 := Hid.mk' hgrow
    have H3 := Hid.mk' hat
    clear hown' hgrow hat
    go_wp2
    go_ret
    exact ⟨v', rfl, H1.out, by rw [own_slice]; exact H2.out, by rw [own_slice]; exact H3.out.imp id (fun h => ⟨_, h, Nat.le_refl _⟩)⟩

/-- The row behind the insertion. -/
theorem splice_ins (cur : Array Value) (xs ys : List Value) (i n cap : Nat) (hc : cur.size = cap * 5) (hx : cur.toList.take (n * 5) = xs) (hyl : ys.length = 5) (hi : i < n) (hr : n + 1 ≤ cap) :
    (splice (splice cur.toList ((i + 1) * 5) (xs.drop (i * 5))) (i * 5) ys).take ((n + 1) * 5) = xs.take (i * 5) ++ (ys ++ xs.drop (i * 5)) ∧ (splice (splice cur.toList ((i + 1) * 5) (xs.drop (i * 5))) (i * 5) ys).length = cap * 5 := by
  have hcl : cur.toList.length = cap * 5 := by simpa using hc
  have hxl : xs.length = n * 5 := by rw [← hx, List.length_take, hcl]; omega
  have hdl : (xs.drop (i * 5)).length = (n - i) * 5 := by rw [List.length_drop, hxl]; omega
  have h1 : (splice cur.toList ((i + 1) * 5) (xs.drop (i * 5))).length = cap * 5 := by rw [length_splice _ _ _ (by rw [hdl, hcl]; omega), hcl]
  refine ⟨?_, by rw [length_splice _ _ _ (by rw [hyl, h1]; omega), h1]⟩
  have e1 : splice cur.toList ((i + 1) * 5) (xs.drop (i * 5)) = cur.toList.take ((i + 1) * 5) ++ (xs.drop (i * 5) ++ cur.toList.drop ((n + 1) * 5)) := by
    unfold splice; rw [hdl]; congr 3; omega
  have e2 : (cur.toList.take ((i + 1) * 5) ++ (xs.drop (i * 5) ++ cur.toList.drop ((n + 1) * 5))).take (i * 5) = xs.take (i * 5) := by
    rw [List.take_append_of_le_length (by rw [List.length_take]; omega), List.take_take, ← hx, List.take_take]
    congr 1; omega
  have e3 : (cur.toList.take ((i + 1) * 5) ++ (xs.drop (i * 5) ++ cur.toList.drop ((n + 1) * 5))).drop (i * 5 + ys.length) = xs.drop (i * 5) ++ cur.toList.drop ((n + 1) * 5) := by
    have : (cur.toList.take ((i + 1) * 5)).length = i * 5 + ys.length := by rw [List.length_take]; omega
    exact List.drop_left' this
  rw [e1]
  unfold splice
  rw [e2, e3, ← List.append_assoc, ← List.append_assoc, List.append_assoc (xs.take (i * 5)) ys, List.take_append_of_le_length (by simp only [List.length_append, List.length_take, hdl, hyl]; omega), List.take_of_length_le (by simp only [List.length_append, List.length_take, hdl, hyl]; omega)]

set_option maxRecDepth 100000 in set_option maxHeartbeats 4000000 in
theorem ins_mid (N n i g cap vb : Nat) (xs ys : List Value) (w : World) (hown : w.ownsRow N 99 5 (.slice (some ⟨g, 0, none⟩) n cap) n xs) (hyl : ys.length = 5) (hvb : Blk w vb ys.toArray 99) (h1 : ∀ u ∈ ys, u.oneCell' = true) (h1x : ∀ u ∈ xs, u.oneCell' = true)
    (hn : n ≤ 1000) (hi : i < n) (hne : vb ≠ g) (hr : n + 1 ≤ cap) :
    Calls Tryz.prog 63 #[.slice (some ⟨g, 0, none⟩) n cap, .int .i64 i, .slice (some ⟨vb, 0, none⟩) 1 1] w (InsPost N n (.slice (some ⟨g, 0, none⟩) n cap) (xs.take (i * 5) ++ (ys ++ xs.drop (i * 5))) w) := by
  obtain ⟨-, -, hxl, hNg, hnc, hcm, cur, hB, hcs, hct⟩ := owns_parts hown
  have hsz : (Tryz.prog.info? 99).map (·.size) = some 5 := by
    obtain ⟨i0, hi, hz0, hz1, hz2⟩ := info_parts Tryz.infoRel
    rw [hi]; simp [hz1]
  have hcap : cap ≤ 9223372036854775807 := by unfold maxLen at hcm; omega
  have hov : ∀ lb cb W o, Blk W g cur 99 → Blk W vb ys.toArray 99 → (callFunc 90 #[.slice (some ⟨vb, 0, none⟩) 1 1, .slice (some ⟨g, o, none⟩) lb cb]).run Tryz.prog W = .ok (.value (.bool false)) W := fun lb cb W o q1 q2 => by
    rw [run_callFunc_extern Tryz.func90 (by kernel_rfl) (by kernel_rfl) (by kernel_rfl) (e := Extern.SlicesOverlaps.overlaps #[88, 88] #[4]) (by kernel_rfl),
      Lib.run_overlaps_apart W 88 4 99 Tryz.underlying88 5 (fun w => by obtain ⟨i0, hi, hz0, hz1, hz2⟩ := info_parts Tryz.infoRel; simp [sizeOf, typeInfo, hi, hz1]) ⟨vb, 0, none⟩ ⟨g, o, none⟩ 1 1 lb cb hne 99 99 ys.toArray.size cur.size (by unfold World.shape?; rw [show W.heap[vb]? = _ from q2]) (by unfold World.shape?; rw [show W.heap[g]? = _ from q1]) (by omega) (q2.frozen _) (q2.frozen _)]
    rfl
  have hz1 : ¬ ((1 : Int) = 0) := by omega
  have hz2 : ((i : Int) == (n : Int)) = false := by simp; omega
  have hw1 : IntKind.i64.wrap ((i : Int) + 1) = (i : Int) + 1 := by rw [IntKind.wrap_i64]; omega
  have hw2 : IntKind.i64.wrap ((n : Int) + 1) = (n : Int) + 1 := by rw [IntKind.wrap_i64]; omega
  have hin : i ≤ n := by omega
  have htn : ((i : Int) + 1).toNat = i + 1 := by omega
  have htn2 : ((n : Int) + 1).toNat = n + 1 := by omega
  have hb1 : (0 : Int) ≤ (i : Int) + 1 := by omega
  have hb3 : (i : Int) ≤ (n : Int) + 1 := by omega
  have hb5 : (0 : Int) ≤ (n : Int) + 1 := by omega
  have hb2 : ¬ (cap = i + 1) := by omega
  have hb4 : ¬ (cap = i) := by omega
  have HB := Hid.mk' hB
  have HV := Hid.mk' hvb
  have HOV := Hid.mk' hov
  clear hB hvb hov hown
  have mixed : Tryz.prog.follows .mixedOrders = true := by kernel_rfl
  have hcl : cur.toList.length = cap * 5 := by simpa using hcs
  have hdl : (xs.drop (i * 5)).length = (n - i) * 5 := by rw [List.length_drop, hxl]; omega
  have HCP1 : Hid (∀ ty dc sc, (Builtin.copy_ #[88, 88] ty #[.slice (some ⟨g, (i + 1) * 5, none⟩) (n - i) dc, .slice (some ⟨g, i * 5, none⟩) (n + 1 - i) sc]).run Tryz.prog w.drew = .ok (goInt ((n - i : Nat) : Int)) (w.drew.setRow g (splice cur.toList ((i + 1) * 5) (xs.drop (i * 5))).toArray)) := Hid.mk' (fun ty dc sc =>
    run_copy_rowK w.drew 88 88 ty 99 5 g ((i + 1) * 5) (n - i) dc ⟨g, i * 5, none⟩ (n + 1 - i) sc (n - i) cur 99 (xs.drop (i * 5)) Tryz.underlying88 hsz HB.out.drew (by simp only [Nat.min_def]; split <;> omega) hdl
      (fun j v hj => by
        rw [Addr.add_lit]
        rw [List.getElem?_drop, ← hct, List.getElem?_take] at hj
        split at hj
        · rw [HB.out.drew.cell]; simpa using hj
        · cases hj)
      (by rw [hdl, hcs]; omega) (fun v hv => h1x v (List.mem_of_mem_drop hv)))
  go_enter Tryz.func63, Tryz.ntmps63
  go_upto_region 15 with (simp only [HOV.out _ _ _ _ HB.out HV.out])
  go_region_law_o (refine step_copy_runI rfl _ _ 88 88 rfl _ _ (by simp [Act.eval, Act.put]) (by simp [Act.eval, Act.put]) (HCP1.out _ (cap - (i + 1)) (cap - i)) ?_)
  obtain ⟨W1, hW1⟩ : ∃ W1, W1 = w.drew.setRow g (splice cur.toList ((i + 1) * 5) (xs.drop (i * 5))).toArray := ⟨_, rfl⟩
  rw [← hW1]
  obtain ⟨hsp1, hsp2⟩ := splice_ins cur xs ys i n cap hcs hct hyl hi hr
  have hl1 : (splice cur.toList ((i + 1) * 5) (xs.drop (i * 5))).length = cap * 5 := by rw [length_splice _ _ _ (by rw [hdl, hcl]; omega), hcl]
  have hl1s : (splice cur.toList ((i + 1) * 5) (xs.drop (i * 5))).toArray.size = cap * 5 := by simpa using hl1
  have hB1 : Blk W1 g (splice cur.toList ((i + 1) * 5) (xs.drop (i * 5))).toArray 99 := by rw [hW1]; exact setRow_heap w.drew g _ _ _ _ HB.out.drew
  have hV1 : Blk W1 vb ys.toArray 99 := by rw [hW1]; exact (setRow_other w.drew g vb _ hne).trans HV.out.drew
  have HK1 : Hid (w.grownBy W1 (some g)) := Hid.mk' ⟨by rw [hW1]; rfl, by rw [hW1]; rfl, by rw [hW1]; rfl, by rw [hW1]; simp, fun k hk hkg => by rw [hW1]; exact setRow_other w.drew g k _ (fun e => hkg (by rw [e]))⟩
  have HCP2 : Hid (∀ ty dc, (Builtin.copy_ #[88, 88] ty #[.slice (some ⟨g, i * 5, none⟩) (n + 1 - i) dc, .slice (some ⟨vb, 0, none⟩) 1 1]).run Tryz.prog W1 = .ok (goInt ((1 : Nat) : Int)) (W1.setRow g (splice (splice cur.toList ((i + 1) * 5) (xs.drop (i * 5))) (i * 5) ys).toArray)) := Hid.mk' (fun ty dc =>
    run_copy_rowK W1 88 88 ty 99 5 g (i * 5) (n + 1 - i) dc ⟨vb, 0, none⟩ 1 1 1 (splice cur.toList ((i + 1) * 5) (xs.drop (i * 5))).toArray 99 ys Tryz.underlying88 hsz hB1 (by simp only [Nat.min_def]; split <;> omega) (by rw [hyl])
      (fun j v hj => by rw [Addr.add_lit, hV1.cell]; simpa using hj) (by rw [hl1s, hyl]; omega) h1)
  obtain ⟨L2, hL2⟩ : ∃ L2, L2 = splice (splice cur.toList ((i + 1) * 5) (xs.drop (i * 5))) (i * 5) ys := ⟨_, rfl⟩
  rw [← hL2] at hsp1 hsp2 HCP2
  have HS1 := Hid.mk' hsp1
  have HS2 := Hid.mk' hsp2
  have HB1 := Hid.mk' hB1
  clear hW1 hB1 hV1 hsp1 hsp2 HCP1 hl1 hL2
  obtain ⟨W2, hW2⟩ : ∃ W2, W2 = W1.setRow g L2.toArray := ⟨_, rfl⟩
  have hcp2 := HCP2.out 3 (cap - i)
  rw [← hW2] at hcp2
  have HB2 : Hid (Blk W2 g L2.toArray 99) := Hid.mk' (by rw [hW2]; exact setRow_heap W1 g _ _ _ _ HB1.out)
  have HK2 : Hid (w.grownBy W2 (some g)) := Hid.mk' ⟨by rw [hW2]; exact HK1.out.os, by rw [hW2]; exact HK1.out.tape, by rw [hW2]; exact HK1.out.output, by rw [hW2]; simp; exact HK1.out.size, fun k hk hkg => by rw [hW2, setRow_other W1 g k _ (fun e => hkg (by rw [e]))]; exact HK1.out.block k hk hkg⟩
  clear hW2 HCP2
  go_wp2
  go_ret
  refine ⟨_, rfl, ⟨?_, .inr ⟨g, cap, L2.toArray, rfl, hNg, HB2.out, hr, hcm, by simpa using HS2.out, by simpa using HS1.out⟩⟩, HK2.out, .inl rfl⟩
  rw [List.length_append, List.length_append, List.length_take, List.length_drop, hxl, hyl]; omega

theorem splice_new (R xs ys : List Value) (i n G : Nat) (hR : R.length = G * 5) (hx : R.take (i * 5) = xs.take (i * 5)) (hxl : xs.length = n * 5) (hyl : ys.length = 5) (hi : i < n) (hr : n + 1 ≤ G) :
    (splice (splice R (i * 5) ys) ((i + 1) * 5) (xs.drop (i * 5))).take ((n + 1) * 5) = xs.take (i * 5) ++ (ys ++ xs.drop (i * 5)) ∧ (splice (splice R (i * 5) ys) ((i + 1) * 5) (xs.drop (i * 5))).length = G * 5 ∧ (splice R (i * 5) ys).length = G * 5 := by
  have hdl : (xs.drop (i * 5)).length = (n - i) * 5 := by rw [List.length_drop, hxl]; omega
  have h1 : (splice R (i * 5) ys).length = G * 5 := by rw [length_splice _ _ _ (by rw [hyl, hR]; omega), hR]
  refine ⟨?_, by rw [length_splice _ _ _ (by rw [hdl, h1]; omega), h1], h1⟩
  have e1 : (splice R (i * 5) ys).take ((i + 1) * 5) = xs.take (i * 5) ++ ys := by
    unfold splice
    rw [hx, ← List.append_assoc]
    have : (xs.take (i * 5) ++ ys).length = (i + 1) * 5 := by rw [List.length_append, List.length_take, hyl]; omega
    exact List.take_left' this
  unfold splice at e1 ⊢
  rw [e1, ← List.append_assoc, List.take_append_of_le_length (by simp only [List.length_append, List.length_take, hdl, hyl]; omega), List.take_of_length_le (by simp only [List.length_append, List.length_take, hdl, hyl]; omega), List.append_assoc]

set_option maxRecDepth 100000 in set_option maxHeartbeats 4000000 in
theorem ins_grow (N n i g cap vb : Nat) (xs ys : List Value) (w : World) (hown : w.ownsRow N 99 5 (.slice (some ⟨g, 0, none⟩) n cap) n xs) (hyl : ys.length = 5) (hvb : Blk w vb ys.toArray 99) (h1 : ∀ u ∈ ys, u.oneCell' = true) (h1x : ∀ u ∈ xs, u.oneCell' = true)
    (hn : n ≤ 1000) (hi : i < n) (hr : cap < n + 1) (hN : N ≤ w.heap.size) :
    Calls Tryz.prog 63 #[.slice (some ⟨g, 0, none⟩) n cap, .int .i64 i, .slice (some ⟨vb, 0, none⟩) 1 1] w (InsPost N n (.slice (some ⟨g, 0, none⟩) n cap) (xs.take (i * 5) ++ (ys ++ xs.drop (i * 5))) w) := by
  obtain ⟨-, -, hxl, hNg, hnc, hcm, cur, hB, hcs, hct⟩ := owns_parts hown
  obtain ⟨i0, hi0, hz0, hzs, hzb⟩ := info_parts Tryz.infoRel
  have hsz : (Tryz.prog.info? 99).map (·.size) = some 5 := by rw [hi0]; simp [hzs]
  have hcn : cap = n := by omega
  subst hcn
  have hbw := hB.lt
  have hvw := hvb.lt
  have hz1 : ¬ ((1 : Int) = 0) := by omega
  have hz2 : ((i : Int) == (cap : Int)) = false := by simp; omega
  have hw1 : IntKind.i64.wrap ((i : Int) + 1) = (i : Int) + 1 := by rw [IntKind.wrap_i64]; omega
  have hw2 : IntKind.i64.wrap ((cap : Int) + 1) = (cap : Int) + 1 := by rw [IntKind.wrap_i64]; omega
  have hw3 : IntKind.i64.wrap ((cap : Int) + 1 - (i : Int)) = ((cap + 1 - i : Nat) : Int) := by rw [IntKind.wrap_i64]; omega
  have hin : i ≤ cap := by omega
  have htn : ((i : Int) + 1).toNat = i + 1 := by omega
  have hb1 : (0 : Int) ≤ (i : Int) + 1 := by omega
  have hb3 : (i : Int) ≤ (cap : Int) + 1 := by omega
  have hb4 : ¬ (cap = i) := by omega
  have hik : i + (cap + 1 - i) = cap + 1 := by omega
  have mixed : Tryz.prog.follows .mixedOrders = true := by kernel_rfl
  have hold : (Builtin.firstCells i0.size i (.slice (some ⟨g, 0, none⟩) i cap)).run Tryz.prog w.drew = .ok (xs.take (i * 5)).toArray w.drew := by
    rw [hzs]
    exact run_firstCells_some w.drew 5 i ⟨g, 0, none⟩ i cap (xs.take (i * 5)) (by rw [List.length_take]; omega) (fun j v hj => by
      rw [Addr.add_lit, hB.drew.cell]
      rw [List.getElem?_take] at hj
      split at hj
      · rw [← hct, List.getElem?_take] at hj
        split at hj
        · simpa using hj
        · cases hj
      · cases hj)
  have hrz : ∀ ty, (Builtin.append_ #[88, 3] ty #[.slice (some ⟨g, 0, none⟩) i cap, .int .i64 ((cap + 1 - i : Nat) : Int)]).run Tryz.prog w =
      .ok (.slice (some ⟨w.heap.size, 0, none⟩) (cap + 1) (grownCap w (cap + 1) cap 99)) _ := fun ty => by
    have h := Lib.run_append_grow_zeros w 88 3 ty 99 i0 _ .i64 .i64 Tryz.underlying88 Tryz.underlying3 hi0 hz0 (some ⟨g, 0, none⟩) i cap (xs.take (i * 5)) hold (cap + 1 - i) (by omega) (by omega) (by omega) (by omega) (by rw [hzb]; omega) (by rw [hzb, hik]; exact growslice_fits hr (by omega))
    rw [hik] at h
    exact h
  obtain ⟨G, hG⟩ : ∃ G, G = grownCap w (cap + 1) cap 99 := ⟨_, rfl⟩
  have hG1 : cap + 1 ≤ G := by rw [hG]; exact grownCap_ge _ _ _ _
  have hG2 : G ≤ maxLen := by rw [hG]; exact grownCap_le_maxLen _ _ _ _ (by unfold maxLen; omega)
  have hG63 : G ≤ 9223372036854775807 := by unfold maxLen at hG2; omega
  rw [← hG] at hrz
  obtain ⟨ROW, hROW⟩ : ∃ ROW : Array Value, ROW = (xs.take (i * 5)).toArray ++ Builtin.zeroCells (Value.agg #[.int .u32 0, .int .u32 0, .string ByteArray.empty, .int .u8 0, .slice none 0 0]).cells (cap + 1 - i) ++ Builtin.zeroCells (Value.agg #[.int .u32 0, .int .u32 0, .string ByteArray.empty, .int .u8 0, .slice none 0 0]).cells (G - (cap + 1)) := ⟨_, rfl⟩
  rw [← hROW] at hrz
  have hRl : ROW.toList.length = G * 5 := by
    rw [hROW]
    simp [Builtin.zeroCells, Value.cells]
    omega
  have hRt : ROW.toList.take (i * 5) = xs.take (i * 5) := by
    rw [hROW]
    have e : (xs.take (i * 5)).length = i * 5 := by rw [List.length_take]; omega
    simp only [Array.toList_append, List.append_assoc]
    exact List.take_left' e
  obtain ⟨hsp1, hsp2, hsp3⟩ := splice_new ROW.toList xs ys i cap G hRl hRt hxl hyl hi hG1
  obtain ⟨W1, hW1⟩ : ∃ W1, W1 = w.drew.alloc (.cells ROW 99) := ⟨_, rfl⟩
  rw [← hW1] at hrz
  have hB1 : Blk W1 w.heap.size ROW 99 := by rw [hW1]; exact Blk.new' _ _ rfl
  have hV1 : Blk W1 vb ys.toArray 99 := by rw [hW1]; exact hvb.drew.alloc _
  have hG1B : Blk W1 g cur 99 := by rw [hW1]; exact hB.drew.alloc _
  have HX1 : Hid (Ext w W1) := Hid.mk' (by rw [hW1]; exact eX)
  obtain ⟨L1, hL1⟩ : ∃ L1, L1 = splice ROW.toList (i * 5) ys := ⟨_, rfl⟩
  obtain ⟨L2, hL2⟩ : ∃ L2, L2 = splice (splice ROW.toList (i * 5) ys) ((i + 1) * 5) (xs.drop (i * 5)) := ⟨_, rfl⟩
  rw [← hL2] at hsp1 hsp2
  rw [← hL1] at hsp3 hL2
  obtain ⟨W2, hW2⟩ : ∃ W2, W2 = W1.setRow w.heap.size L1.toArray := ⟨_, rfl⟩
  have hcpA : (Builtin.copy_ #[88, 88] 3 #[.slice (some ⟨w.heap.size, i * 5, none⟩) (cap + 1 - i) (G - i), .slice (some ⟨vb, 0, none⟩) 1 1]).run Tryz.prog W1 = .ok (goInt ((1 : Nat) : Int)) W2 := by
    rw [hW2, hL1]
    exact run_copy_rowK W1 88 88 _ 99 5 w.heap.size (i * 5) (cap + 1 - i) _ ⟨vb, 0, none⟩ 1 1 1 ROW 99 ys Tryz.underlying88 hsz hB1 (by simp only [Nat.min_def]; split <;> omega) (by rw [hyl])
      (fun j v hj => by rw [Addr.add_lit, hV1.cell]; simpa using hj) (by have h9 : ROW.size = G * 5 := (by simpa using hRl); rw [hyl]; omega) h1
  have hB2 : Blk W2 w.heap.size L1.toArray 99 := by rw [hW2]; exact setRow_heap W1 w.heap.size _ _ _ _ hB1
  have hG2B : Blk W2 g cur 99 := by rw [hW2]; exact (setRow_other W1 w.heap.size g _ (by omega)).trans hG1B
  have HX2 : Hid (Ext w W2) := Hid.mk' (by rw [hW2]; exact below_setRow HX1.out (Nat.le_refl _) _)
  obtain ⟨W3, hW3⟩ : ∃ W3, W3 = W2.drew.setRow w.heap.size L2.toArray := ⟨_, rfl⟩
  have hdl : (xs.drop (i * 5)).length = (cap - i) * 5 := by rw [List.length_drop, hxl]; omega
  have HCPB : Hid ((Builtin.copy_ #[88, 88] 3 #[.slice (some ⟨w.heap.size, (i + 1) * 5, none⟩) (cap - i) (G - (i + 1)), .slice (some ⟨g, i * 5, none⟩) (cap - i) (cap - i)]).run Tryz.prog W2.drew = .ok (goInt ((cap - i : Nat) : Int)) W3) := Hid.mk' (by
    rw [hW3, hL2]
    exact run_copy_rowK W2.drew 88 88 _ 99 5 w.heap.size ((i + 1) * 5) (cap - i) _ ⟨g, i * 5, none⟩ (cap - i) _ (cap - i) L1.toArray 99 (xs.drop (i * 5)) Tryz.underlying88 hsz hB2.drew (by simp only [Nat.min_def]; split <;> omega) hdl
      (fun j v hj => by
        rw [Addr.add_lit]
        rw [List.getElem?_drop, ← hct, List.getElem?_take] at hj
        split at hj
        · rw [hG2B.drew.cell]; simpa using hj
        · cases hj)
      (by rw [hdl]; have : L1.toArray.size = G * 5 := by simpa using hsp3
          omega) (fun v hv => h1x v (List.mem_of_mem_drop hv)))
  have hB3 : Blk W3 w.heap.size L2.toArray 99 := by rw [hW3]; exact setRow_heap W2.drew w.heap.size _ _ _ _ hB2.drew
  have HX3 : Hid (Ext w W3) := Hid.mk' (by rw [hW3]; exact below_setRow HX2.out.drew (Nat.le_refl _) _)
  have HR : Hid (w.grownBy W3 (some g)) := Hid.mk' ⟨HX3.out.os, HX3.out.tape, HX3.out.output, HX3.out.size, fun k hk _ => HX3.out.block k hk⟩
  have HB3 := Hid.mk' hB3
  have HS1 := Hid.mk' hsp1
  have HS2 := Hid.mk' hsp2
  have HRZ := Hid.mk' hrz
  have HCPA := Hid.mk' hcpA
  have hGi : ¬ (G = i) := by omega
  have hGim : ¬ (G = i + 1) := by omega
  clear hrz hW1 hW2 hW3 hL1 hL2 hROW hRl hRt hsp1 hsp2 hsp3 hB1 hB2 hB3 hV1 hG1B hG2B hold hvb hB hG hown hct hcs hcpA hik hi0 hz0 hzs hzb
  go_enter Tryz.func63, Tryz.ntmps63
  go_upto_region 10 with (at_builtin; refine Lib.wpList_append_run _ rfl _ _ _ _ rfl _ _ rfl rfl _ _ (HRZ.out _) ?_)
  have hcpA := HCPA.out
  go_upto_region 11 with (fail)
  clear hcpA
  go_region_law_o (refine step_copy_runI rfl _ _ 88 88 rfl (.slice (some ⟨w.heap.size, (i + 1) * 5, none⟩) (cap - i) (G - (i + 1))) (.slice (some ⟨g, i * 5, none⟩) (cap - i) (cap - i)) (by simp [Act.eval, Act.put]) (by simp [Act.eval, Act.put]) HCPB.out ?_)
  go_wp2
  go_ret
  refine ⟨_, rfl, ⟨?_, .inr ⟨w.heap.size, G, L2.toArray, rfl, hN, HB3.out, hG1, hG2, by simpa using HS2.out, by simpa using HS1.out⟩⟩, HR.out, .inr ⟨_, rfl, Nat.le_refl _⟩⟩
  rw [List.length_append, List.length_append, List.length_take, List.length_drop, hxl, hyl]; omega

/-- slices.Insert of one relation. -/
theorem ins_any (N n i cap vb : Nat) (a : Option Addr) (xs ys : List Value) (w : World) (hown : w.ownsRow N 99 5 (.slice a n cap) n xs) (hyl : ys.length = 5) (hvb : Blk w vb ys.toArray 99) (h1 : ∀ u ∈ ys, u.oneCell' = true) (h1x : ∀ u ∈ xs, u.oneCell' = true)
    (hn : n ≤ 1000) (hi : i ≤ n) (hne : (Value.slice a n cap).ownBlock ≠ some vb) (hN : N ≤ w.heap.size) :
    Calls Tryz.prog 63 #[.slice a n cap, .int .i64 i, .slice (some ⟨vb, 0, none⟩) 1 1] w (InsPost N n (.slice a n cap) (xs.take (i * 5) ++ (ys ++ xs.drop (i * 5))) w) := by
  have hy : ∀ j u, ys[j]? = some u → w.cell? ((⟨vb, 0, none⟩ : Addr).add j) = some u := fun j u hj => by
    have e : (⟨vb, 0, none⟩ : Addr).add j = ⟨vb, j, none⟩ := by rw [Addr.add_lit, Nat.zero_add]
    rw [e, hvb.cell]
    simpa using hj
  have hxl : xs.length = n * 5 := hown.1
  rcases Nat.eq_or_lt_of_le hi with e | hlt
  · subst e
    have := ins_end N i a cap vb xs ys w hown hyl hy h1 hn hN
    rw [List.take_of_length_le (by omega), List.drop_eq_nil_of_le (by omega), List.append_nil]
    exact this
  · rcases hown.2 with ⟨-, h0⟩ | ⟨g, cap', cur, hv, hrest⟩
    · omega
    · simp only [Value.slice.injEq] at hv
      obtain ⟨rfl, -, rfl⟩ := hv
      by_cases hr : n + 1 ≤ cap
      · exact ins_mid N n i g cap vb xs ys w hown hyl hvb h1 h1x hn hlt (fun e => hne (by rw [e]; rfl)) hr
      · exact ins_grow N n i g cap vb xs ys w hown hyl hvb h1 h1x hn hlt (by omega) hN

end Go.Proofs.YtdgalkljngigeaaGreat

/-
slices.Clone of columns.
-/
namespace Go.Proofs.YtdgalkljngigeaaGreat
open Go.RowKit

theorem run_equalIn_slice_nil4 {P : Program} (w : World) (d : Nat) (t e : TypeId) (a : Option Addr) (l c : Nat) (h : P.underlying t = some (.slice e)) : (Op.equalIn (d + 1) t (.slice a l c) (.slice none 0 0)).run P w = .ok a.isNone w := by
  cases a <;> simp [Op.equalIn, run_underlying h]
@[go_sem] theorem run_eql_slice_nil4 {P : Program} (w : World) (t e : TypeId) (a : Option Addr) (l c : Nat) (h : P.underlying t = some (.slice e)) : (binOp .eql t (.slice a l c) (.slice none 0 0)).run P w = .ok (.bool a.isNone) w := by
  have e : (Op.equal t (.slice a l c) (.slice none 0 0)).run P w = .ok a.isNone w := by
    exact run_equalIn_slice_nil4 w 9999 t e a l c h
  simp [binOp, e]

theorem flatC_len (l : List Col) : (l.map Col.cells).flatten.length = l.length * 3 := by
  have := flat_length 3 (l.map Col.cells) (fun xs hxs => by simp at hxs; obtain ⟨c, _, rfl⟩ := hxs; rfl)
  rwa [List.length_map] at this
theorem news_col {w : World} {b o : Nat} {l : List Col} (h : ∀ i, i < l.length → ∀ j, j < 3 → w.cell? ⟨b, o + i * 3 + j, none⟩ = ((l.map Col.cells).getD i [])[j]?) : ∀ j u, ((l.map Col.cells).flatten)[j]? = some u → w.cell? ((⟨b, o, none⟩ : Addr).add j) = some u := by
  intro j u hj
  have hjl : j < l.length * 3 := by
    rcases Nat.lt_or_ge j (l.length * 3) with h | h
    · exact h
    · rw [List.getElem?_eq_none (by rw [flatC_len]; exact h)] at hj; cases hj
  have hplain : (⟨b, o, none⟩ : Addr).add j = ⟨b, o + j, none⟩ := by unfold Addr.add; split <;> simp_all
  have hi : j / 3 < l.length := by omega
  have hq := flat_get 3 (l.map Col.cells) (fun xs hxs => by simp at hxs; obtain ⟨c, _, rfl⟩ := hxs; rfl) (j / 3) (by simpa using hi) (j % 3) (Nat.mod_lt _ (by decide))
  have hm : j / 3 * 3 + j % 3 = j := by omega
  rw [hm] at hq
  rw [hplain, ← hj, hq, ← h (j / 3) hi (j % 3) (Nat.mod_lt _ (by decide)), Nat.add_assoc, hm]

set_option maxRecDepth 100000 in set_option maxHeartbeats 1600000 in
theorem clonec_any (l : List Col) (a : Option Addr) (cap : Nat) (w : World) (hl : Sl w (.slice a l.length cap) 3 (l.map Col.cells)) (hlen : l.length ≤ 1000) :
    Calls Tryz.prog 83 #[.slice a l.length cap] w fun e w' => ∃ a' cap', e = .returned (.slice a' l.length cap') ∧ w'.ownsRow w.heap.size 115 3 (.slice a' l.length cap') l.length ((l.map Col.cells).flatten) ∧ Ext w w' := by
  obtain ⟨i0, hi, hz0, hz1, hz2⟩ := info_parts Tryz.infoCol
  have HL := Hid.mk' hl
  clear hl
  cases a with
  | none =>
    have h0 : l = [] := by
      obtain ⟨a, c, hv, h⟩ := HL.out
      simp only [Value.slice.injEq] at hv
      rcases h with h | ⟨b, o, ha, _⟩
      · simpa using h
      · rw [← hv.1] at ha; cases ha
    obtain ⟨a, c, hv, -⟩ := HL.out
    subst h0
    clear HL hv
    go_enter Tryz.func83, Tryz.ntmps83
    go_wp2
    go_ret
    exact ⟨_, _, rfl, World.ownsRow_nil _ _ _ _, by exact eX⟩
  | some ad =>
    have hnews : ∀ j u, ((l.map Col.cells).flatten)[j]? = some u → (w.alloc (.cells #[] 115)).cell? (ad.add j) = some u := by
      obtain ⟨a, c, hv, h⟩ := HL.out
      simp only [Value.slice.injEq] at hv
      obtain ⟨rfl, -, -⟩ := hv
      rcases h with h | ⟨b, o, ha, hb, hc⟩
      · have h0 : l = [] := by simpa using h
        subst h0; intro j u hj; simp at hj
      · cases ha
        refine news_col fun i hi j hj => ?_
        have hE : Ext w (w.alloc (.cells #[] 115)) := (Ext.refl w).alloc _
        rw [hE.cells.1 b _ hb]
        exact hc i (by simpa using hi) j hj
    have HN := Hid.mk' hnews
    clear HL hnews
    go_enter Tryz.func83, Tryz.ntmps83
    go_wp2_with (at_builtin; refine wpList_append_own _ rfl _ _ 97 rfl w.heap.size 115 i0 _ 3 24 Tryz.underlying97 hi hz0 hz1 hz2 rfl (by decide) (.slice (some ⟨w.heap.size, 0, none⟩) 0 0) 0 [] rfl ?c0 _ l.length _ ((l.map Col.cells).flatten) rfl (flatC_len l) HN.out ?c2 ?c3 ?c4 ?c5 ?_)
    case c0 => exact ⟨rfl, .inr ⟨_, 0, #[], rfl, Nat.le_refl _, Blk.new w #[] _, Nat.le_refl _, Nat.zero_le _, rfl, rfl⟩⟩
    case c2 => intro u hu; rw [List.mem_flatten] at hu; obtain ⟨xs, hxs, hu⟩ := hu; rw [List.mem_map] at hxs; obtain ⟨c, _, rfl⟩ := hxs; simp [Col.cells] at hu; rcases hu with rfl | rfl | rfl <;> rfl
    case c3 => unfold maxLen; omega
    case c4 => omega
    case c5 => simp
    intro v' w2 hown hgrow _
    have hown : w2.ownsRow w.heap.size 115 3 v' l.length ((l.map Col.cells).flatten) := by simpa using hown
    have hE2 : Ext w w2 := ((Ext.refl w).alloc (.cells #[] 115)).grown (v := .slice (some ⟨w.heap.size, 0, none⟩) 0 0) (e := 115) (size := 3) (n := 0) (xs := []) ⟨rfl, .inr ⟨_, 0, #[], rfl, Nat.le_refl _, Blk.new w #[] _, Nat.le_refl _, Nat.zero_le _, rfl, rfl⟩⟩ hgrow
    obtain ⟨a', c', rfl⟩ := owns_shape hown
    have HO := Hid.mk' hown
    have HE2 := Hid.mk' hE2
    clear hown hE2 hgrow
    go_wp2
    go_ret
    exact ⟨a', c', rfl, HO.out, HE2.out⟩

end Go.Proofs.YtdgalkljngigeaaGreat

/-
Catalogs, the reference's: Add, Of.
-/
namespace Go.Proofs.YtdgalkljngigeaaGreat
open Go.RowKit

theorem Tryz.infoRRel : (Tryz.prog.info? 51).map (fun i => (i.zero, i.size, i.bytes)) = some (some (.agg #[.int .u32 0, .int .u32 0, .string ByteArray.empty, .int .u8 0, .slice none 0 0]), 5, 56) := by kernel_rfl

def addP (ps : List RR) (q : RR) : List RR := if addE (ps.map RR.r) q.r = 0 then insP ps q else ps
theorem addP_r (ps : List RR) (q : RR) : (addP ps q).map RR.r = addL (ps.map RR.r) q.r := by
  unfold addP addL
  split
  · exact insP_r ps q
  · rfl
theorem addP_mem {ps : List RR} {q x : RR} (h : x ∈ addP ps q) : x = q ∨ x ∈ ps := by
  unfold addP at h
  split at h
  · exact insP_mem h
  · exact .inr h
def RAddPost (ps : List RR) (a : Option Addr) (q : RR) (w : World) (e : Ending) (w' : World) : Prop :=
  ∃ a' c', e = .returned (.tuple #[.slice a' (addP ps q).length c', .int .i64 (addE (ps.map RR.r) q.r)]) ∧ RL w' (.slice a' (addP ps q).length c') (addP ps q) ∧ (∀ b o, a' = some ⟨b, o, none⟩ → (addE (ps.map RR.r) q.r ≠ 0 ∧ a' = a) ∨ w.heap.size ≤ b) ∧ Ext w w'
theorem RAddPost.keep {ps : List RR} {a : Option Addr} {cap : Nat} {q : RR} {w w' : World} {E : Int} (h : addE (ps.map RR.r) q.r = E) (h0 : E ≠ 0) (hl : RL w (.slice a ps.length cap) ps) (he : Ext w w') : RAddPost ps a q w (.returned (.tuple #[.slice a ps.length cap, .int .i64 E])) w' := by
  have e : addP ps q = ps := by unfold addP; rw [h, if_neg h0]
  exact ⟨a, cap, by rw [e, h], by rw [e]; exact hl.ext he, fun b o _ => .inl ⟨by rw [h]; exact h0, rfl⟩, he⟩

theorem RAddPost.more {ps : List RR} {a a' : Option Addr} {c' : Nat} {q : RR} {w w' : World} (h : addE (ps.map RR.r) q.r = 0) (hl : RL w' (.slice a' (insP ps q).length c') (insP ps q)) (hb : ∀ b o, a' = some ⟨b, o, none⟩ → w.heap.size ≤ b) (he : Ext w w') : RAddPost ps a q w (.returned (.tuple #[.slice a' (insP ps q).length c', .int .i64 0])) w' := by
  have e : addP ps q = insP ps q := by unfold addP; rw [if_pos h]
  exact ⟨a', c', by rw [e, h], by rw [e]; exact hl, fun b o h => .inr (hb b o h), he⟩

set_option maxRecDepth 100000 in set_option maxHeartbeats 4000000 in
theorem radd_any (ps : List RR) (a : Option Addr) (cap : Nat) (q : RR) (w : World) (hl : RL w (.slice a ps.length cap) ps) (hq : q.in w) (hb : q.r.wb) (hlen : ps.length ≤ 1000) :
    Calls Tryz.prog 45 #[.slice a ps.length cap, q.agg] w (RAddPost ps a q w) := by
  obtain ⟨i0, hi, hz0, hz1, hz2⟩ := info_parts Tryz.infoRRel
  obtain ⟨⟨oid, ver, nm, id, cols⟩, a2, c2⟩ := q
  unfold RR.agg
  unfold RR.in at hq
  obtain ⟨hb1, hb2, hb3⟩ := hb
  simp only at hq hb1 hb2 hb3 ⊢
  have HR8 := Hid.mk' (fun W (h : Ext w W) => rright8_big oid ver nm id cols a2 c2 W (hq.ext h) (by omega) hb1 hb2)
  have HGT := Hid.mk' (fun W (h : Ext w W) => rget_any ps a cap oid ver W (hl.ext h) hlen)
  have HL := Hid.mk' hl
  have HQ := Hid.mk' hq
  have HAE : Hid (addE (ps.map RR.r) (⟨oid, ver, nm, id, cols⟩ : Rl) = if (⟨oid, ver, nm, id, cols⟩ : Rl).right ≠ 0 then (⟨oid, ver, nm, id, cols⟩ : Rl).right else if hasR oid ver (ps.map RR.r) = true then 9 else if 64 ≤ (ps.map RR.r).length then 8 else 0) := Hid.mk' rfl
  rw [getP_is] at HGT
  obtain ⟨⟨⟨o1, v1, n1, i1, k1⟩, x1, y1⟩, hz⟩ : ∃ z, z = (getP oid ver ps).getD RR.zero := ⟨_, rfl⟩
  rw [← hz] at HGT
  unfold RR.agg at HGT
  simp only at HGT
  clear hl hq hb1 hb2 hz
  obtain ⟨E, hE⟩ : ∃ E, E = Rl.right (⟨oid, ver, nm, id, cols⟩ : Rl) := ⟨_, rfl⟩
  rw [← hE] at HR8 HAE
  by_cases h0 : E = 0
  case neg =>
    have h0' : (E != 0) = true := by simpa using h0
    have HA := Hid.mk' (HAE.out.trans (if_pos h0))
    have H0 := Hid.mk' h0
    clear h0 hE HAE
    go_enter Tryz.func45, Tryz.ntmps45
    go_wp2_with (go_at_call 72; refine (HR8.out _ (by exact eX)).mono ?_; rintro e w1 ⟨rfl, hb1⟩; have hE1 : Ext w w1 := (by exact eX))
    go_ret2
    exact RAddPost.keep HA.out H0.out HL.out hE1
  subst h0
  have HAE2 := Hid.mk' (HAE.out.trans (if_neg (by simp)))
  clear HAE hE
  cases hh : hasR oid ver (ps.map RR.r) with
  | true =>
    rw [hh] at HGT HAE2
    have HA := Hid.mk' (HAE2.out.trans (if_pos rfl))
    clear hh HAE2
    go_enter Tryz.func45, Tryz.ntmps45
    go_wp2_with (first
      | (go_at_call 72; refine (HR8.out _ (by exact eX)).mono ?_; rintro e w1 ⟨rfl, hb1⟩; have hE1 : Ext w w1 := (by exact eX); have g0 := ((Blk.new w #[.int .u32 oid, .int .u32 ver, .string nm, .int .u8 id, .slice a2 cols.length c2] 51).ext hb1).cell)
      | (go_at_call 53; refine (HGT.out _ (by exact eX)).mono ?_; rintro e w2 ⟨rfl, hb2⟩; have hE2 : Ext w w2 := (by exact eX)))
    go_ret2
    exact RAddPost.keep HA.out (by decide) HL.out (by exact eX)
  | false =>
    rw [hh] at HGT HAE2
    have HHH := Hid.mk' hh
    have HAE3 := Hid.mk' (HAE2.out.trans (if_neg (by simp)))
    rw [List.length_map] at HAE3
    clear hh HAE2
    by_cases h64 : 64 ≤ ps.length
    · have HA := Hid.mk' (HAE3.out.trans (if_pos h64))
      clear HAE3
      go_enter Tryz.func45, Tryz.ntmps45
      go_wp2_with (first
        | (go_at_call 72; refine (HR8.out _ (by exact eX)).mono ?_; rintro e w1 ⟨rfl, hb1⟩; have hE1 : Ext w w1 := (by exact eX); have g0 := ((Blk.new w #[.int .u32 oid, .int .u32 ver, .string nm, .int .u8 id, .slice a2 cols.length c2] 51).ext hb1).cell)
        | (go_at_call 53; refine (HGT.out _ (by exact eX)).mono ?_; rintro e w2 ⟨rfl, hb2⟩; have hE2 : Ext w w2 := (by exact eX)))
      go_ret2
      exact RAddPost.keep HA.out (by decide) HL.out (by exact eX)
    · have HA := Hid.mk' (HAE3.out.trans (if_neg h64))
      have h64' : ps.length < 64 := by omega
      clear HAE3 h64
      have HPQ : Hid (addP ps (⟨⟨oid, ver, nm, id, cols⟩, a2, c2⟩ : RR) = insP ps (⟨⟨oid, ver, nm, id, cols⟩, a2, c2⟩ : RR)) := Hid.mk' (by unfold addP; rw [if_pos HA.out])
      obtain ⟨P, hP⟩ : ∃ P, P = posR oid ver (ps.map RR.r) := ⟨_, rfl⟩
      have HPP := Hid.mk' hP
      have hPn : P ≤ ps.length := by have := posR_le oid ver (ps.map RR.r); rw [List.length_map] at this; omega
      clear hP
      go_enter Tryz.func45, Tryz.ntmps45
      go_wp2_with (first
        | (go_at_call 72; refine (HR8.out _ (by exact eX)).mono ?_; rintro e w1 ⟨rfl, hb1⟩; have hE1 : Ext (w.alloc (.cells #[.int .u32 oid, .int .u32 ver, .string nm, .int .u8 id, .slice a2 cols.length c2] 51)) w1 := (by exact eX); have g0 := ((Blk.new w #[.int .u32 oid, .int .u32 ver, .string nm, .int .u8 id, .slice a2 cols.length c2] 51).ext hb1).cell)
        | (go_at_call 53; refine (HGT.out _ (by exact eX)).mono ?_; rintro e w2 ⟨rfl, hb2⟩; have hE2 : Ext (w.alloc (.cells #[.int .u32 oid, .int .u32 ver, .string nm, .int .u8 id, .slice a2 cols.length c2] 51)) w2 := (by exact eX)))
      have HE2 := Hid.mk' hE2
      clear g0 hb1 hb2 hE1 hE2
      go_loopw [9, 10, 11] (fun v pb i wr => ∃ k : Nat, k ≤ ps.length ∧ i = .int .i64 k ∧ pb = .bool (decide (P < k)) ∧ Hid (wr.ownsRow (w.heap.size + 1) 51 5 v (outs ps (⟨⟨oid, ver, nm, id, cols⟩, a2, c2⟩ : RR) k).length ((outs ps (⟨⟨oid, ver, nm, id, cols⟩, a2, c2⟩ : RR) k).map RR.cells).flatten) ∧ Hid (Ext (w.alloc (.cells #[.int .u32 oid, .int .u32 ver, .string nm, .int .u8 id, .slice a2 cols.length c2] 51)) wr)) (fun _ _ i _ => ps.length - (intOf i).toNat)
      case atStart => exact ⟨0, Nat.zero_le _, rfl, by rw [decide_eq_false (Nat.not_lt_zero _)], Hid.mk' (by rw [outs_zero]; exact World.ownsRow_nil _ _ _ _), Hid.mk' (by have hE2 := HE2.out; exact eX)⟩
      case round =>
        obtain ⟨k, hk, rfl, rfl, hown, hE⟩ := hrel
        have HEW := Hid.mk' (((Ext.refl w).alloc (.cells #[.int .u32 oid, .int .u32 ver, .string nm, .int .u8 id, .slice a2 cols.length c2] 51)).trans hE.out)
        have HB0 := Hid.mk' ((Blk.new w #[.int .u32 oid, .int .u32 ver, .string nm, .int .u8 id, .slice a2 cols.length c2] 51).ext hE.out)
        have g0 := HB0.out.cell
        have z0 := HB0.out.lt
        by_cases hlt : k < ps.length
        · obtain ⟨b, o, rfl, hb, hx⟩ := HL.out.row.at_ (i := k) (by simpa using hlt)
          have HF := Hid.mk' (fun W (h : Ext w W) => RR.at_ hlt hx hb h)
          obtain ⟨f0, f1, f2, f3, f4⟩ := HF.out _ HEW.out
          have hbw : b < wr.heap.size := Nat.lt_of_lt_of_le hb HEW.out.size
          have HLT : Hid (k < P → aheadP ps[k].r.oid ps[k].r.ver oid ver) := Hid.mk' (fun h => by have := posR_lt oid ver (ps.map RR.r) k (by simpa using hlt) (by rw [← HPP.out]; exact h); rwa [List.getElem_map] at this)
          have HEQ : Hid (k = P → ¬ aheadP ps[k].r.oid ps[k].r.ver oid ver) := Hid.mk' (fun h => by
            subst h
            have hp := HPP.out
            have := posR_at oid ver (ps.map RR.r) (by rw [← hp]; simpa using hlt)
            simp only [← hp, List.getElem_map] at this
            exact this)
          have HNE : Hid (¬ (ps[k].r.oid = oid ∧ ps[k].r.ver = ver)) := Hid.mk' (fun h => by
            have := hasR_at (o := oid) (v := ver) (l := ps.map RR.r) (i := k) (by simpa using hlt) (by rw [List.getElem_map]; exact h)
            rw [HHH.out] at this; cases this)
          have HO1 := Hid.mk' (fun h => outs_lt (ps := ps) (q := (⟨⟨oid, ver, nm, id, cols⟩, a2, c2⟩ : RR)) hlt (HPP.out ▸ h))
          have HO2 := Hid.mk' (fun h => outs_eq (ps := ps) (q := (⟨⟨oid, ver, nm, id, cols⟩, a2, c2⟩ : RR)) hlt (HPP.out ▸ h))
          have HO3 := Hid.mk' (fun h => outs_gt (ps := ps) (q := (⟨⟨oid, ver, nm, id, cols⟩, a2, c2⟩ : RR)) hlt (HPP.out ▸ h))
          obtain ⟨p, hp⟩ : ∃ p, p = ps[k] := ⟨_, rfl⟩
          rw [← hp] at f0 f1 f2 f3 f4 HF HLT HEQ HNE HO1 HO2 HO3
          have hol : (outs ps (⟨⟨oid, ver, nm, id, cols⟩, a2, c2⟩ : RR) k).length ≤ 100 := by unfold outs; split <;> rw [List.length_take] <;> omega
          clear hx hp
          have hcl : (RR.cells p).length = 5 := rfl
          have hql : (RR.cells (⟨⟨oid, ver, nm, id, cols⟩, a2, c2⟩ : RR)).length = 5 := rfl
          rcases Nat.lt_trichotomy k P with hkP | hkP | hkP
          · have hab : aheadB oid ver p.r.oid p.r.ver = false := decide_eq_false (by have := HLT.out hkP; unfold aheadP at *; omega)
            have HAH := Hid.mk' (fun W => rahead_any oid ver p.r.oid p.r.ver W)
            rw [hab] at HAH
            have HO := Hid.mk' (HO1.out hkP)
            have hd : decide (P < k) = false := decide_eq_false (by omega)
            have hd2 : decide (P < k + 1) = false := decide_eq_false (by omega)
            rw [hd]
            clear hab HLT HEQ HNE HO1 HO2 HO3 hd
            go_wp2
            go_region_held3 (fun w' => Ext (wr) w' ∧ (∀ b o, b < (wr).heap.size → w'.cell? ⟨b, o, none⟩ = (wr).cell? ⟨b, o, none⟩) ∧ (∀ b o, b < (wr).heap.size → w'.frozen? ⟨b, o, none⟩ = (wr).frozen? ⟨b, o, none⟩)) ((exact held_of (by exact eX))) (first | (go_at_call 73; refine (HAH.out _).mono ?_; rintro e w3 ⟨rfl, hb3⟩; have HE3 := Hid.mk' (show Ext wr w3 by exact eX)))
            clear hb3 g0
            have HO3 := Hid.mk' (owns_ext hown.out HE3.out)
            have HX3 : Hid (Ext (w.alloc (.cells #[.int .u32 oid, .int .u32 ver, .string nm, .int .u8 id, .slice a2 cols.length c2] 51)) w3) := Hid.mk' (hE.out.trans HE3.out)
            go_wp2_with (at_builtin; refine wpList_append_own _ rfl _ _ 22 rfl (w.heap.size + 1) 51 i0 _ 5 56 Tryz.underlying22 hi hz0 hz1 hz2 rfl (by decide) _ _ _ rfl ((owns_ext HO3.out (by exact eX))) ⟨_, 0, none⟩ 1 1 p.cells rfl rfl (cells_new _ #[.int .u32 p.r.oid, .int .u32 p.r.ver, .string p.r.nm, .int .u8 p.r.id, .slice p.a p.r.cols.length p.c] _) (by intro u hu; simp [RR.cells] at hu; rcases hu with rfl | rfl | rfl | rfl | rfl <;> rfl) (by unfold maxLen; omega) (by omega) (by have := HEW.out.size; have := HE3.out.size; simp; omega) ?_)
            intro v' w4 hown' hgrow _
            have HX4 : Hid (Ext (w.alloc (.cells #[.int .u32 oid, .int .u32 ver, .string nm, .int .u8 id, .slice a2 cols.length c2] 51)) w4) := Hid.mk' (Below.grown ((HX3.out).alloc _) hgrow (by have := HX3.out.size; simp at this ⊢; omega) (fun g hg => by have := (HO3.out.lt g hg).1; simp; omega))
            have HO4 := Hid.mk' hown'
            clear hown' hgrow
            go_wp2
            go_roundw
            case rel => exact ⟨k + 1, by omega, by go_num, by rw [hd2], Hid.mk' (by rw [HO.out, List.map_append, List.flatten_append, List.length_append]; simpa using HO4.out), HX4⟩
            case measure => simp [intOf]; omega
          · have hab : aheadB oid ver p.r.oid p.r.ver = true := decide_eq_true (by have h1 := HEQ.out hkP; have h2 := HNE.out; unfold aheadP at *; omega)
            have HAH := Hid.mk' (fun W => rahead_any oid ver p.r.oid p.r.ver W)
            rw [hab] at HAH
            have HO := Hid.mk' (HO2.out hkP)
            have hd : decide (P < k) = false := decide_eq_false (by omega)
            have hd2 : decide (P < k + 1) = true := decide_eq_true (by omega)
            rw [hd]
            subst hkP
            clear hab HLT HEQ HNE HO1 HO2 HO3 hd
            go_wp2
            go_region_held3 (fun w' => Ext (wr) w' ∧ (∀ b o, b < (wr).heap.size → w'.cell? ⟨b, o, none⟩ = (wr).cell? ⟨b, o, none⟩) ∧ (∀ b o, b < (wr).heap.size → w'.frozen? ⟨b, o, none⟩ = (wr).frozen? ⟨b, o, none⟩)) ((exact held_of (by exact eX))) (first | (go_at_call 73; refine (HAH.out _).mono ?_; rintro e w3 ⟨rfl, hb3⟩; have HE3 := Hid.mk' (show Ext wr w3 by exact eX)))
            clear hb3
            have HO3 := Hid.mk' (owns_ext hown.out HE3.out)
            have HX3 : Hid (Ext (w.alloc (.cells #[.int .u32 oid, .int .u32 ver, .string nm, .int .u8 id, .slice a2 cols.length c2] 51)) w3) := Hid.mk' (hE.out.trans HE3.out)
            have hbw3 : b < w3.heap.size := Nat.lt_of_lt_of_le hbw HE3.out.size
            go_wp2_with (at_builtin; refine wpList_append_own _ rfl _ _ 22 rfl (w.heap.size + 1) 51 i0 _ 5 56 Tryz.underlying22 hi hz0 hz1 hz2 rfl (by decide) _ _ _ rfl ((owns_ext HO3.out (by exact eX))) ⟨_, 0, none⟩ 1 1 (RR.cells (⟨⟨oid, ver, nm, id, cols⟩, a2, c2⟩ : RR)) rfl rfl (cells_new _ #[.int .u32 oid, .int .u32 ver, .string nm, .int .u8 id, .slice a2 cols.length c2] _) (by intro u hu; simp [RR.cells] at hu; rcases hu with rfl | rfl | rfl | rfl | rfl <;> rfl) (by unfold maxLen; omega) (by omega) (by have := HEW.out.size; have := HE3.out.size; simp; omega) ?_)
            intro v' w4 hown' hgrow _
            have HX4 : Hid (Ext (w.alloc (.cells #[.int .u32 oid, .int .u32 ver, .string nm, .int .u8 id, .slice a2 cols.length c2] 51)) w4) := Hid.mk' (Below.grown ((HX3.out).alloc _) hgrow (by have := HX3.out.size; simp at this ⊢; omega) (fun g hg => by have := (HO3.out.lt g hg).1; simp; omega))
            have HO4 := Hid.mk' hown'
            clear f0 f1 f2 f3 f4
            obtain ⟨f0, f1, f2, f3, f4⟩ := HF.out w4 (((Ext.refl w).alloc _).trans HX4.out)
            have hbw4 : b < w4.heap.size := Nat.lt_of_lt_of_le hb (((Ext.refl w).alloc (.cells #[.int .u32 oid, .int .u32 ver, .string nm, .int .u8 id, .slice a2 cols.length c2] 51)).trans HX4.out).size
            have hz4 : w.heap.size + 1 ≤ w4.heap.size := by have := HX4.out.size; simpa using this
            clear hown' hgrow g0
            go_wp2_with ((at_builtin; refine wpList_append_own _ rfl _ _ 22 rfl (w.heap.size + 1) 51 i0 _ 5 56 Tryz.underlying22 hi hz0 hz1 hz2 rfl (by decide) _ _ _ rfl ((owns_ext HO4.out (by exact eX))) ⟨_, 0, none⟩ 1 1 p.cells rfl rfl (cells_new _ #[.int .u32 p.r.oid, .int .u32 p.r.ver, .string p.r.nm, .int .u8 p.r.id, .slice p.a p.r.cols.length p.c] _) (by intro u hu; simp [RR.cells] at hu; rcases hu with rfl | rfl | rfl | rfl | rfl <;> rfl) (by unfold maxLen; omega) (by omega) (by simp; omega) ?_))
            intro v' w5 hown' hgrow _
            have HX5 : Hid (Ext (w.alloc (.cells #[.int .u32 oid, .int .u32 ver, .string nm, .int .u8 id, .slice a2 cols.length c2] 51)) w5) := Hid.mk' (Below.grown ((HX4.out).alloc _) hgrow (by have := HX4.out.size; simp at this ⊢; omega) (fun g hg => by have := (HO4.out.lt g hg).1; simp; omega))
            have HO5 := Hid.mk' hown'
            clear hown' hgrow
            go_wp2
            go_roundw
            case rel => exact ⟨k + 1, by omega, by go_num, by rw [hd2], Hid.mk' (by rw [HO.out, List.map_append, List.map_append, List.flatten_append, List.flatten_append, List.length_append, List.length_append]; simpa using HO5.out), HX5⟩
            case measure => simp [intOf]; omega
          · have HO := Hid.mk' (HO3.out hkP)
            have hd : decide (P < k) = true := decide_eq_true (by omega)
            have hd2 : decide (P < k + 1) = true := decide_eq_true (by omega)
            rw [hd]
            clear HLT HEQ HNE HO1 HO2 HO3 hd
            go_wp2
            refine wp_region_head 11 (fun w' => Ext (wr) w' ∧ (∀ b o, b < (wr).heap.size → w'.cell? ⟨b, o, none⟩ = (wr).cell? ⟨b, o, none⟩) ∧ (∀ b o, b < (wr).heap.size → w'.frozen? ⟨b, o, none⟩ = (wr).frozen? ⟨b, o, none⟩)) (by kernel_rfl) (by decide) ?_
            have hA0 : Hid ((fun w' => Ext (wr) w' ∧ (∀ b o, b < (wr).heap.size → w'.cell? ⟨b, o, none⟩ = (wr).cell? ⟨b, o, none⟩) ∧ (∀ b o, b < (wr).heap.size → w'.frozen? ⟨b, o, none⟩ = (wr).frozen? ⟨b, o, none⟩)) wr.drew) := held_of (by exact eX)
            refine HG.on 0 37 hA0.out ?_
            try simp only [Act.put, List.setIfInBounds_toArray, List.set_cons_zero, List.set_cons_succ]
            refine HG.on 1 38 hA0.out ?_
            try simp only [Act.put, List.setIfInBounds_toArray, List.set_cons_zero, List.set_cons_succ]
            refine HG.on 2 39 hA0.out ?_
            try simp only [Act.put, List.setIfInBounds_toArray, List.set_cons_zero, List.set_cons_succ]
            refine wpHd_takeD (i := 3) (d := some 40) (v := undef) rfl rfl (by kernel_rfl) (by kernel_rfl) (by kernel_rfl) (fun _ _ _ h => h) (Or.inr ⟨by rfl, rfl⟩) hA0.out ?_
            try simp only [Act.put, List.setIfInBounds_toArray, List.set_cons_zero, List.set_cons_succ]
            refine wpHd_takeD (i := 4) (d := some 41) (v := undef) rfl rfl (by kernel_rfl) (by kernel_rfl) (by kernel_rfl) (fun _ _ _ h => h) (Or.inr ⟨by rfl, rfl⟩) hA0.out ?_
            try simp only [Act.put, List.setIfInBounds_toArray, List.set_cons_zero, List.set_cons_succ]
            refine wpHd_takeD (i := 5) (d := some 42) (v := undef) rfl rfl (by kernel_rfl) (by kernel_rfl) (by kernel_rfl) (fun _ _ _ h => h) (Or.inr ⟨by rfl, rfl⟩) hA0.out ?_
            try simp only [Act.put, List.setIfInBounds_toArray, List.set_cons_zero, List.set_cons_succ]
            refine wpHd_takeD (i := 6) (d := some 43) (v := undef) rfl rfl (by kernel_rfl) (by kernel_rfl) (by kernel_rfl) (fun _ _ _ h => h) (Or.inr ⟨by rfl, rfl⟩) hA0.out ?_
            try simp only [Act.put, List.setIfInBounds_toArray, List.set_cons_zero, List.set_cons_succ]
            refine wpHd_takeD (i := 7) (d := some 44) (v := undef) rfl rfl (by kernel_rfl) (by kernel_rfl) (by kernel_rfl) (fun _ _ _ h => h) (Or.inr ⟨by rfl, rfl⟩) hA0.out ?_
            try simp only [Act.put, List.setIfInBounds_toArray, List.set_cons_zero, List.set_cons_succ]
            refine wpHd_takeD (i := 8) (d := some 45) (v := undef) rfl rfl (by kernel_rfl) (by kernel_rfl) (by kernel_rfl) (fun _ _ _ h => h) (Or.inr ⟨by rfl, rfl⟩) hA0.out ?_
            try simp only [Act.put, List.setIfInBounds_toArray, List.set_cons_zero, List.set_cons_succ]
            refine wpHd_takeD (i := 9) (d := some 46) (v := undef) rfl rfl (by kernel_rfl) (by kernel_rfl) (by kernel_rfl) (fun _ _ _ h => h) (Or.inr ⟨by rfl, rfl⟩) hA0.out ?_
            try simp only [Act.put, List.setIfInBounds_toArray, List.set_cons_zero, List.set_cons_succ]
            refine wpHd_takeD (i := 10) (d := some 47) (v := undef) rfl rfl (by kernel_rfl) (by kernel_rfl) (by kernel_rfl) (fun _ _ _ h => h) (Or.inr ⟨by rfl, rfl⟩) hA0.out ?_
            try simp only [Act.put, List.setIfInBounds_toArray, List.set_cons_zero, List.set_cons_succ]
            refine wpHd_tail (by kernel_rfl) ?_
            simp only [List.drop_succ_cons, List.drop_zero]
            have HE3 : Hid (Ext wr wr) := Hid.mk' (Ext.refl _)
            have HO3 := hown
            have HX3 := hE
            clear hA0 g0
            go_wp2_with (at_builtin; refine wpList_append_own _ rfl _ _ 22 rfl (w.heap.size + 1) 51 i0 _ 5 56 Tryz.underlying22 hi hz0 hz1 hz2 rfl (by decide) _ _ _ rfl ((owns_ext HO3.out (by exact eX))) ⟨_, 0, none⟩ 1 1 p.cells rfl rfl (cells_new _ #[.int .u32 p.r.oid, .int .u32 p.r.ver, .string p.r.nm, .int .u8 p.r.id, .slice p.a p.r.cols.length p.c] _) (by intro u hu; simp [RR.cells] at hu; rcases hu with rfl | rfl | rfl | rfl | rfl <;> rfl) (by unfold maxLen; omega) (by omega) (by have := HEW.out.size; have := HE3.out.size; simp; omega) ?_)
            intro v' w4 hown' hgrow _
            have HX4 : Hid (Ext (w.alloc (.cells #[.int .u32 oid, .int .u32 ver, .string nm, .int .u8 id, .slice a2 cols.length c2] 51)) w4) := Hid.mk' (Below.grown ((HX3.out.drew).alloc (.cells #[.int .u32 p.r.oid, .int .u32 p.r.ver, .string p.r.nm, .int .u8 p.r.id, .slice p.a p.r.cols.length p.c] 51)) hgrow (by have := HX3.out.size; simp at this ⊢; omega) (fun g hg => by have := (HO3.out.lt g hg).1; simp; omega))
            have HO4 := Hid.mk' hown'
            clear hown' hgrow
            go_wp2
            go_roundw
            case rel => exact ⟨k + 1, by omega, by go_num, by rw [hd2], Hid.mk' (by rw [HO.out, List.map_append, List.flatten_append, List.length_append]; simpa using HO4.out), HX4⟩
            case measure => simp [intOf]; omega
        · have hkk : k = ps.length := by omega
          subst hkk
          have hol : (outs ps (⟨⟨oid, ver, nm, id, cols⟩, a2, c2⟩ : RR) ps.length).length ≤ 100 := by unfold outs; split <;> rw [List.length_take] <;> omega
          have hql : (RR.cells (⟨⟨oid, ver, nm, id, cols⟩, a2, c2⟩ : RR)).length = 5 := rfl
          have HE3 : Hid (Ext wr wr) := Hid.mk' (Ext.refl _)
          have HX3 := hE
          by_cases hPk : P < ps.length
          · rw [decide_eq_true hPk]
            have HO := Hid.mk' (outs_end (ps := ps) (q := (⟨⟨oid, ver, nm, id, cols⟩, a2, c2⟩ : RR)) (by rw [← HPP.out]; exact hPk))
            rw [HO.out] at hown
            obtain ⟨a', c', hv⟩ := owns_shape hown.out
            subst hv
            go_wp2
            go_ret2
            refine RAddPost.more HA.out ?_ (fun b o h => ?_) HEW.out
            · exact ⟨Sl.of_owns (base := w.heap.size + 1) (e := 51) (by rw [List.length_map]; exact hown.out) (RR.len _), fun x hx => (insP_mem hx).elim (fun e => by rw [e]; exact HQ.out.ext HEW.out) (fun h => (HL.out.sl x h).ext HEW.out)⟩
            · have := (hown.out.lt b (by rw [h]; rfl)).1
              omega
          · have hPe : P = ps.length := by omega
            rw [decide_eq_false hPk]
            have HO := Hid.mk' (outs_last (ps := ps) (q := (⟨⟨oid, ver, nm, id, cols⟩, a2, c2⟩ : RR)) (by rw [← HPP.out]; exact hPe))
            clear hPe hPk
            go_wp2_with (at_builtin; refine wpList_append_own _ rfl _ _ 22 rfl (w.heap.size + 1) 51 i0 _ 5 56 Tryz.underlying22 hi hz0 hz1 hz2 rfl (by decide) _ _ _ rfl ((owns_ext hown.out (by exact eX))) ⟨_, 0, none⟩ 1 1 (RR.cells (⟨⟨oid, ver, nm, id, cols⟩, a2, c2⟩ : RR)) rfl rfl (cells_new _ #[.int .u32 oid, .int .u32 ver, .string nm, .int .u8 id, .slice a2 cols.length c2] _) (by intro u hu; simp [RR.cells] at hu; rcases hu with rfl | rfl | rfl | rfl | rfl <;> rfl) (by unfold maxLen; omega) (by omega) (by have := HEW.out.size; have := HE3.out.size; simp; omega) ?_)
            intro v' w4 hown' hgrow _
            have HX4 : Hid (Ext (w.alloc (.cells #[.int .u32 oid, .int .u32 ver, .string nm, .int .u8 id, .slice a2 cols.length c2] 51)) w4) := Hid.mk' (Below.grown ((HX3.out).alloc (.cells #[.int .u32 oid, .int .u32 ver, .string nm, .int .u8 id, .slice a2 cols.length c2] 51)) hgrow (by have := HX3.out.size; simp at this ⊢; omega) (fun g hg => by have := (hown.out.lt g hg).1; simp; omega))
            have hown2 : w4.ownsRow (w.heap.size + 1) 51 5 v' (insP ps (⟨⟨oid, ver, nm, id, cols⟩, a2, c2⟩ : RR)).length ((insP ps (⟨⟨oid, ver, nm, id, cols⟩, a2, c2⟩ : RR)).map RR.cells).flatten := by
              rw [← HO.out, List.map_append, List.flatten_append, List.length_append]; simpa using hown'
            obtain ⟨a', c', hv⟩ := owns_shape hown2
            subst hv
            have HO4 := Hid.mk' hown2
            have HEW4 := Hid.mk' (((Ext.refl w).alloc (.cells #[.int .u32 oid, .int .u32 ver, .string nm, .int .u8 id, .slice a2 cols.length c2] 51)).trans HX4.out)
            clear hown' hgrow hown2
            go_wp2
            go_ret2
            refine RAddPost.more HA.out ?_ (fun b o h => ?_) HEW4.out
            · exact ⟨Sl.of_owns (base := w.heap.size + 1) (e := 51) (by rw [List.length_map]; exact HO4.out) (RR.len _), fun x hx => (insP_mem hx).elim (fun e => by rw [e]; exact HQ.out.ext HEW4.out) (fun h => (HL.out.sl x h).ext HEW4.out)⟩
            · have := (HO4.out.lt b (by rw [h]; rfl)).1
              omega

/-- A catalog of the first k. -/
def upP (ps : List RR) : Nat → List RR
  | 0 => []
  | k + 1 => if h : k < ps.length then addP (upP ps k) ps[k] else upP ps k
theorem upP_succ {ps : List RR} {k : Nat} (h : k < ps.length) : upP ps (k + 1) = addP (upP ps k) ps[k] := by
  conv => lhs; unfold upP
  rw [dif_pos h]
theorem upP_r (ps : List RR) : ∀ k, (upP ps k).map RR.r = ofUp (ps.map RR.r) k
  | 0 => rfl
  | k + 1 => by
    unfold upP ofUp
    by_cases h : k < ps.length
    · rw [dif_pos h, dif_pos (by rw [List.length_map]; exact h), addP_r, upP_r ps k, List.getElem_map]
    · rw [dif_neg h, dif_neg (by rw [List.length_map]; exact h)]
      exact upP_r ps k
theorem upP_mem {ps : List RR} : ∀ {k : Nat} {x : RR}, x ∈ upP ps k → x ∈ ps
  | 0, x, h => by cases h
  | k + 1, x, h => by
    unfold upP at h
    split at h
    · rename_i hk
      rcases addP_mem h with rfl | h
      · exact List.getElem_mem hk
      · exact upP_mem h
    · exact upP_mem h
theorem upP_64 (ps : List RR) (k : Nat) : (upP ps k).length ≤ 64 := by
  have := (ofUp_ok (ps.map RR.r) k).n64
  rw [← upP_r, List.length_map] at this
  exact this
theorem ofAt_P {ps : List RR} {k : Nat} (h : k < ps.length) : ofAt (ps.map RR.r) k = addE ((upP ps k).map RR.r) ps[k].r := by
  unfold ofAt
  rw [dif_pos (by rw [List.length_map]; exact h), upP_r, List.getElem_map]

/-- What is wrong first with relations; its place. -/
def ofE (l : List Rl) : Int := firstE (ofAt l) l.length
def plE (f : Nat → Int) : Nat → Nat
  | 0 => 0
  | n + 1 => if firstE f n ≠ 0 then plE f n else if f n ≠ 0 then n else n + 1
theorem plE_zero {f : Nat → Int} : ∀ {n : Nat}, (∀ i, i < n → f i = 0) → plE f n = n
  | 0, _ => rfl
  | n + 1, h => by
    unfold plE
    rw [if_neg (by rw [firstE_zero (fun i hi => h i (by omega))]; simp), if_neg (by rw [h n (by omega)]; simp)]
theorem plE_at {f : Nat → Int} {k : Nat} (h : ∀ i, i < k → f i = 0) (h0 : f k ≠ 0) : ∀ {n : Nat}, k < n → plE f n = k
  | 0, hk => by omega
  | n + 1, hk => by
    unfold plE
    by_cases e : k = n
    · subst e
      rw [if_neg (by rw [firstE_zero h]; simp), if_pos h0]
    · rw [if_pos (by rw [firstE_at h (show k < n by omega) h0]; exact h0), plE_at h h0 (by omega)]
def ofPl (l : List Rl) : Nat := plE (ofAt l) l.length

def ROfPost (ps : List RR) (w : World) (e : Ending) (w' : World) : Prop :=
  ∃ a' c' n, e = .returned (.tuple #[.slice a' n c', .int .i64 (ofPl (ps.map RR.r) : Nat), .int .i64 (ofE (ps.map RR.r))]) ∧ (ofE (ps.map RR.r) = 0 → n = (upP ps ps.length).length ∧ RL w' (.slice a' n c') (upP ps ps.length)) ∧ (ofE (ps.map RR.r) ≠ 0 → a' = none ∧ n = 0 ∧ c' = 0) ∧ Ext w w'

set_option maxRecDepth 100000 in set_option maxHeartbeats 2000000 in
theorem rof_any (ps : List RR) (a : Option Addr) (cap : Nat) (w : World) (hl : RL w (.slice a ps.length cap) ps) (hb : ∀ p ∈ ps, p.r.wb) (hlen : ps.length ≤ 9223372036854775807) :
    Calls Tryz.prog 16 #[.slice a ps.length cap] w (ROfPost ps w) := by
  have HL := Hid.mk' hl
  have HB := Hid.mk' hb
  clear hl hb
  go_enter Tryz.func16, Tryz.ntmps16
  go_wp2
  go_loopw [5, 6] (fun v i wr => ∃ (k : Nat) (a' : Option Addr) (c' : Nat), k ≤ ps.length ∧ i = .int .i64 k ∧ v = .slice a' (upP ps k).length c' ∧ Hid (∀ j, j < k → ofAt (ps.map RR.r) j = 0) ∧ Hid (RL wr (.slice a' (upP ps k).length c') (upP ps k)) ∧ Hid (Ext w wr)) (fun _ i _ => ps.length - (intOf i).toNat)
  case atStart => exact ⟨0, none, 0, Nat.zero_le _, rfl, rfl, Hid.mk' (fun j h => by omega), Hid.mk' (RL.nil _), Hid.mk' (Ext.refl _)⟩
  case round =>
    obtain ⟨k, a', c', hk, rfl, rfl, hz, hr, hE⟩ := hrel
    by_cases hlt : k < ps.length
    · obtain ⟨b, o, rfl, hb, hx⟩ := HL.out.row.at_ (i := k) (by simpa using hlt)
      obtain ⟨f0, f1, f2, f3, f4⟩ := RR.at_ hlt hx hb hE.out
      have hbw : b < wr.heap.size := Nat.lt_of_lt_of_le hb hE.out.size
      have hin := HL.out.sl _ (List.getElem_mem hlt)
      have hwb := HB.out _ (List.getElem_mem hlt)
      have HS := Hid.mk' (upP_succ hlt)
      have HAT := Hid.mk' (ofAt_P hlt)
      obtain ⟨p, hp⟩ : ∃ p, p = ps[k] := ⟨_, rfl⟩
      rw [← hp] at f0 f1 f2 f3 f4 hin hwb HS HAT
      have HAD := Hid.mk' (fun W (h : Ext wr W) => radd_any (upP ps k) a' c' p W (hr.out.ext h) (hin.ext (hE.out.trans h)) hwb (by have := upP_64 ps k; omega))
      unfold RAddPost RR.agg at HAD
      rw [← HS.out, ← HAT.out] at HAD
      clear hx hp hin hwb
      obtain ⟨E, hEE⟩ : ∃ E, E = ofAt (ps.map RR.r) k := ⟨_, rfl⟩
      rw [← hEE] at HAD
      by_cases h0 : E = 0
      · have H0 := Hid.mk' (hEE.symm.trans h0)
        subst h0
        clear hEE
        go_wp2_with (go_at_call 45; refine (HAD.out _ (Ext.refl _)).mono ?_; rintro e w1 ⟨a1, c1, rfl, hl1, -, hb1⟩; have HL1 := Hid.mk' hl1; clear hl1)
        go_roundw
        case rel => exact ⟨k + 1, a1, c1, by omega, by go_num, rfl, Hid.mk' (fun j hj => by
          by_cases e : j = k
          · subst e; exact H0.out
          · exact hz.out j (by omega)), HL1, Hid.mk' (hE.out.trans hb1)⟩
        case measure => simp [intOf]; omega
      · have h0' : (E != 0) = true := by simpa using h0
        have HF := Hid.mk' (show ofE (ps.map RR.r) = E by unfold ofE; rw [firstE_at hz.out (by rw [List.length_map]; exact hlt) (by rw [← hEE]; exact h0), hEE])
        have HPL := Hid.mk' (show ofPl (ps.map RR.r) = k from plE_at hz.out (by rw [← hEE]; exact h0) (by rw [List.length_map]; exact hlt))
        have H0 := Hid.mk' h0
        clear h0 hEE
        go_wp2_with (go_at_call 45; refine (HAD.out _ (Ext.refl _)).mono ?_; rintro e w1 ⟨a1, c1, rfl, -, -, hb1⟩)
        go_ret3
        exact ⟨none, 0, 0, by rw [HF.out, HPL.out]; rfl, fun h => absurd (HF.out.symm.trans h) H0.out, fun _ => ⟨rfl, rfl, rfl⟩, hE.out.trans hb1⟩
    · obtain rfl : k = ps.length := by omega
      have HF := Hid.mk' (show ofE (ps.map RR.r) = 0 by unfold ofE; exact firstE_zero (by rw [List.length_map]; exact hz.out))
      have HPL := Hid.mk' (show ofPl (ps.map RR.r) = ps.length by unfold ofPl; rw [plE_zero (by rw [List.length_map]; exact hz.out), List.length_map])
      go_wp2
      go_ret3
      exact ⟨a', c', _, by rw [HF.out, HPL.out]; rfl, fun _ => ⟨rfl, hr.out⟩, fun h => absurd HF.out h, hE.out⟩

end Go.Proofs.YtdgalkljngigeaaGreat

/-
One relation more in a catalog: the program's own, Add.
-/
namespace Go.Proofs.YtdgalkljngigeaaGreat
open Go.RowKit

/-- Its columns lie in a row of the call's own, from N on. -/
def RR.owned (N : Nat) (W : World) (q : RR) : Prop := W.ownsRow N 115 3 (.slice q.a q.r.cols.length q.c) q.r.cols.length (q.r.cols.map Col.cells).flatten
theorem RR.owned.in {N : Nat} {W : World} {q : RR} (h : q.owned N W) : q.in W := Sl.of_owns (base := N) (e := 115) (by rw [List.length_map]; exact h) (by intro xs hxs; simp at hxs; obtain ⟨_, _, rfl⟩ := hxs; rfl)
theorem RR.owned.at_ {N : Nat} {W : World} {q : RR} (h : q.owned N W) {b o : Nat} (e : q.a = some ⟨b, o, none⟩) : N ≤ b ∧ b < W.heap.size := h.lt b (by rw [e]; rfl)
theorem RR.owned.ext {N : Nat} {W W' : World} {q : RR} (h : q.owned N W) (he : Ext W W') : q.owned N W' := owns_ext h he
theorem RR.owned.mono {N M : Nat} {W : World} {q : RR} (h : q.owned N W) (hm : M ≤ N) : q.owned M W := owns_base h hm

set_option maxRecDepth 100000 in set_option maxHeartbeats 1600000 in
theorem pown_any (p : RR) (w : World) (hp : p.in w) (hlen : p.r.cols.length ≤ 1000) :
    Calls Tryz.prog 60 #[p.agg] w fun e w' => ∃ q : RR, e = .returned q.agg ∧ q.r = p.r ∧ q.owned w.heap.size w' ∧ Ext w w' := by
  obtain ⟨⟨oid, ver, nm, id, cols⟩, a2, c2⟩ := p
  unfold RR.agg
  unfold RR.in at hp
  simp only at hp hlen ⊢
  have HC := Hid.mk' (fun W (h : Ext w W) => clonec_any cols a2 c2 W (hp.ext h) hlen)
  clear hp
  go_enter Tryz.func60, Tryz.ntmps60
  go_wp2_with (go_at_call 83; refine (HC.out _ (by exact eX)).mono ?_; rintro e w1 ⟨a', c', rfl, ho, hb1⟩; have HO := Hid.mk' ho; have HB := Hid.mk' hb1; have g0 := (((Blk.new w #[.int .u32 oid, .int .u32 ver, .string nm, .int .u8 id, .slice a2 cols.length c2] 99).alloc (.cells #[.int .u32 0, .int .u32 0, .string ⟨#[]⟩, .int .u8 0, .slice none 0 0] 99)).ext hb1); have g1 := ((Blk.new' (w := w.alloc (.cells #[.int .u32 oid, .int .u32 ver, .string nm, .int .u8 id, .slice a2 cols.length c2] 99)) (b := w.heap.size + 1) #[.int .u32 0, .int .u32 0, .string ⟨#[]⟩, .int .u8 0, .slice none 0 0] 99 (by simp)).ext hb1); have g0c := g0.cell; have g0f := g0.frozen; have g0z := g0.lt; have g1c := g1.cell; have g1f := g1.frozen; have g1z := g1.lt; clear ho hb1 g0 g1)
  simp [bodyPost, results, Tryz.results60, go_sem, *]
  have hEw : Ext w w1 := (((Ext.refl w).alloc _).alloc _).trans HB.out
  have ho := HO.out
  simp only [World.size_alloc] at ho
  refine ⟨⟨⟨oid, ver, nm, id, cols⟩, a', c'⟩, ⟨rfl, rfl, rfl, rfl, rfl, rfl, rfl⟩, rfl, ?_, by exact eX⟩
  refine owns_base (base := w.heap.size + 1 + 1) ?_ (by omega)
  dsimp only
  exact owns_set (owns_set (owns_set (owns_set (owns_set (owns_set ho (by dsimp only; omega) _) (by dsimp only; omega) _) (by dsimp only; omega) _) (by dsimp only; omega) _) (by dsimp only; omega) _) (by dsimp only; omega) _

theorem Ca.ins {w5 w6 : World} {N g : Nat} {c v' : Value} {ps : List RR} {q : RR} (hc : Ca w5 N g c ps) (hq : q.in w5) (hqn : q.r.cols ≠ [] → ∀ b o, q.a = some ⟨b, o, none⟩ → b ≠ g ∧ c.ownBlock ≠ some b ∧ N ≤ b ∧ b < w5.heap.size) (hadd : addE (ps.map RR.r) q.r = 0) (hwb : q.r.wb)
    (ho : w6.ownsRow N 99 5 v' (ps.length + 1) ((insP ps q).map RR.cells).flatten) (hg : w5.grownBy w6 c.ownBlock) (hat : v'.ownBlock = c.ownBlock ∨ ∃ b, v'.ownBlock = some b ∧ w5.heap.size ≤ b) :
    Ca (w6.setCell ⟨g, 0, none⟩ v') N g v' (insP ps q) ∧ Kp (Ca.S g c) w5 (w6.setCell ⟨g, 0, none⟩ v') := by
  have hgz := hc.ptr.lt
  have hk1 : Kp (fun k => c.ownBlock = some k) w5 w6 := Kp.of_grown hg
  have hk2 : Kp (fun k => k = g) w6 (w6.setCell ⟨g, 0, none⟩ v') := Kp.set _ _ rfl
  have hv : v'.ownBlock ≠ some g := by
    rcases hat with h | ⟨b, h, hb⟩
    · rw [h]; exact hc.gv
    · rw [h]; intro e; injection e with e; omega
  have hp6 : Blk w6 g #[c] 149 := hc.ptr.kp hk1 hc.gv
  have hne : ∀ p ∈ insP ps q, p.r.cols ≠ [] → ∀ b o, p.a = some ⟨b, o, none⟩ → b ≠ g ∧ c.ownBlock ≠ some b ∧ N ≤ b ∧ b < w5.heap.size := fun p hp => by
    rcases insP_mem hp with rfl | h
    · exact hqn
    · exact hc.ne p h
  have hin : ∀ p ∈ insP ps q, p.in w5 := fun p hp => by
    rcases insP_mem hp with rfl | h
    · exact hq
    · exact hc.sl p h
  refine ⟨⟨?_, ?_, hc.gN, hv, fun p hp => ?_, fun p hp h0 b o e => ?_, ?_, fun p hp => ?_⟩, ?_⟩
  · have := hp6.set 0 v'
    simpa using this
  · rw [insP_len]
    exact owns_kp ho hk2 (fun b hb e => hv (by rw [hb, e]))
  · have h0 := hne p hp
    have h1 : p.in w6 := Sl.kp (hin p hp) hk1 (fun hx b o e => (h0 (fun h => hx (by rw [h]; rfl)) b o e).2.1)
    exact Sl.kp h1 hk2 (fun hx b o e => (h0 (fun h => hx (by rw [h]; rfl)) b o e).1)
  · obtain ⟨q1, q2, q3, q4⟩ := hne p hp h0 b o e
    refine ⟨q1, ?_, q3, by have := hg.size; simp [World.setCell]; omega⟩
    rcases hat with h | ⟨b', h, hb⟩
    · rw [h]; exact q2
    · rw [h]; intro e2; injection e2 with e2; omega
  · rw [insP_r]
    have := hc.ok.add q.r
    unfold addL at this
    rwa [if_pos hadd] at this
  · rcases insP_mem hp with rfl | h
    · exact hwb
    · exact hc.wb p h
  · refine (hk1.mono (T := Ca.S g c) (fun x hx _ => .inr hx)).trans hk2 (fun x hx _ => .inl hx)

def CAddPost (N g : Nat) (c : Value) (ps : List RR) (q : RR) (w : World) (e : Ending) (w' : World) : Prop :=
  ∃ c' q', e = .returned (.int .i64 (addE (ps.map RR.r) q.r)) ∧ q'.r = q.r ∧ Ca w' N g c' (addP ps q') ∧ Kp (Ca.S g c) w w' ∧ ∀ b, c'.ownBlock = some b → c.ownBlock = some b ∨ w.heap.size ≤ b
theorem CAddPost.keep {N g : Nat} {c : Value} {ps : List RR} {q : RR} {w w' : World} {E : Int} (h : addE (ps.map RR.r) q.r = E) (h0 : E ≠ 0) (hc : Ca w N g c ps) (he : Ext w w') : CAddPost N g c ps q w (.returned (.int .i64 E)) w' := by
  have e : addP ps q = ps := by unfold addP; rw [h, if_neg h0]
  exact ⟨c, q, by rw [h], rfl, by rw [e]; exact hc.ext he, Kp.of_ext he, fun b hb => .inl hb⟩

set_option maxRecDepth 100000 in set_option maxHeartbeats 4000000 in
theorem cadd_any (N g : Nat) (c : Value) (ps : List RR) (q : RR) (w : World) (hc : Ca w N g c ps) (hq : q.in w) (hcap : q.r.cols.length ≤ q.c) (hb : q.r.wb) :
    Calls Tryz.prog 35 #[.pointer (some ⟨g, 0, none⟩), q.agg] w (CAddPost N g c ps q w) := by
  obtain ⟨a, cap, rfl⟩ := hc.shape
  obtain ⟨⟨oid, ver, nm, id, cols⟩, a2, c2⟩ := q
  unfold RR.agg
  simp only at hcap ⊢
  have HR8 := Hid.mk' (fun W (h : Ext w W) => right8_big oid ver nm id cols a2 c2 W (Sl.ext hq h) hcap (by have := hb.n; simp only at this; omega) hb.nm hb.cs)
  have HFD := Hid.mk' (fun W (h : Ext w W) => find_any N g _ ps oid ver W (hc.ext h))
  have HOW := Hid.mk' (fun W (h : Ext w W) hn => pown_any (⟨⟨oid, ver, nm, id, cols⟩, a2, c2⟩ : RR) W (hq.ext h) hn)
  have HC := Hid.mk' hc
  have HWB := Hid.mk' hb
  have HAE : Hid (addE (ps.map RR.r) (⟨oid, ver, nm, id, cols⟩ : Rl) = if (⟨oid, ver, nm, id, cols⟩ : Rl).right ≠ 0 then (⟨oid, ver, nm, id, cols⟩ : Rl).right else if hasR oid ver (ps.map RR.r) = true then 9 else if 64 ≤ (ps.map RR.r).length then 8 else 0) := Hid.mk' rfl
  have hgc := hc.ptr.cell
  have hgz := hc.ptr.lt
  have hn64 := hc.n64
  unfold RR.agg at HOW
  simp only at HOW
  clear hc hq hb hcap
  obtain ⟨E, hE⟩ : ∃ E, E = Rl.right (⟨oid, ver, nm, id, cols⟩ : Rl) := ⟨_, rfl⟩
  rw [← hE] at HR8 HAE
  by_cases h0 : E = 0
  case neg =>
    have h0' : (E != 0) = true := by simpa using h0
    have HA := Hid.mk' (HAE.out.trans (if_pos h0))
    have H0 := Hid.mk' h0
    clear h0 hE HAE
    go_enter Tryz.func35, Tryz.ntmps35
    go_wp2_with (go_at_call 61; refine (HR8.out _ (by exact eX)).mono ?_; rintro e w1 ⟨rfl, hb1⟩; have hE1 : Ext w w1 := (by exact eX))
    go_ret
    exact CAddPost.keep HA.out H0.out HC.out hE1
  subst h0
  have hn16 : cols.length ≤ 16 := Rl.cols_le hE.symm
  have HAE2 := Hid.mk' (HAE.out.trans (if_neg (by simp)))
  clear HAE hE
  obtain ⟨P, hP⟩ : ∃ P, P = posR oid ver (ps.map RR.r) := ⟨_, rfl⟩
  have hPn : P ≤ ps.length := by have := posR_le oid ver (ps.map RR.r); rw [List.length_map] at this; omega
  rw [← hP] at HFD
  have HPP := Hid.mk' hP
  clear hP
  cases hh : hasR oid ver (ps.map RR.r) with
  | true =>
    rw [hh] at HFD HAE2
    have HA := Hid.mk' (HAE2.out.trans (if_pos rfl))
    clear hh HAE2
    go_enter Tryz.func35, Tryz.ntmps35
    go_wp2_with (first
      | (go_at_call 61; refine (HR8.out _ (by exact eX)).mono ?_; rintro e w1 ⟨rfl, hb1⟩; have hE1 : Ext w w1 := (by exact eX); have g0 := ((Blk.new w #[.int .u32 oid, .int .u32 ver, .string nm, .int .u8 id, .slice a2 cols.length c2] 99).ext hb1).cell)
      | (go_at_call 62; refine (HFD.out _ (by exact eX)).mono ?_; rintro e w2 ⟨rfl, hb2⟩; have hE2 : Ext w w2 := (by exact eX)))
    go_ret
    exact CAddPost.keep HA.out (by decide) HC.out hE2
  | false =>
    rw [hh] at HFD HAE2
    have HAE3 := Hid.mk' (HAE2.out.trans (if_neg (by simp)))
    rw [List.length_map] at HAE3
    clear hh HAE2
    by_cases h64 : 64 ≤ ps.length
    · have HA := Hid.mk' (HAE3.out.trans (if_pos h64))
      clear HAE3
      go_enter Tryz.func35, Tryz.ntmps35
      go_wp2_with (first
        | (go_at_call 61; refine (HR8.out _ (by exact eX)).mono ?_; rintro e w1 ⟨rfl, hb1⟩; have hE1 : Ext w w1 := (by exact eX); have g0 := ((Blk.new w #[.int .u32 oid, .int .u32 ver, .string nm, .int .u8 id, .slice a2 cols.length c2] 99).ext hb1).cell)
        | (go_at_call 62; refine (HFD.out _ (by exact eX)).mono ?_; rintro e w2 ⟨rfl, hb2⟩; have hE2 : Ext w w2 := (by exact eX); have hgc2 := (HC.out.ptr.ext hE2).cell))
      go_ret
      exact CAddPost.keep HA.out (by decide) HC.out hE2
    · have HA := Hid.mk' (HAE3.out.trans (if_neg h64))
      have h64' : ps.length < 64 := by omega
      clear HAE3 h64
      go_enter Tryz.func35, Tryz.ntmps35
      go_upto_region 9 with (first
        | (go_at_call 61; refine (HR8.out _ (by exact eX)).mono ?_; rintro e w1 ⟨rfl, hb1⟩; have hE1 : Ext w w1 := (by exact eX); have g0 := ((Blk.new w #[.int .u32 oid, .int .u32 ver, .string nm, .int .u8 id, .slice a2 cols.length c2] 99).ext hb1).cell; have HB0 := Hid.mk' ((Blk.new w #[.int .u32 oid, .int .u32 ver, .string nm, .int .u8 id, .slice a2 cols.length c2] 99).ext hb1))
        | (go_at_call 62; refine (HFD.out _ (by exact eX)).mono ?_; rintro e w2 ⟨rfl, hb2⟩; have hE2 : Ext w w2 := (by exact eX); have hgc2 := (HC.out.ptr.ext hE2).cell; have HB2 := Hid.mk' (HB0.out.ext hb2)))
      have HE2 := Hid.mk' hE2
      have HK2 : Hid (∀ W, Ext w2 W → Ext w W) := Hid.mk' (fun W h => HE2.out.trans h)
      have hA0 : Hid ((fun W : World => (∀ o, W.cell? ⟨g, o, none⟩ = (#[Value.slice a ps.length cap] : Array Value)[o]?) ∧ (∀ o, W.cell? ⟨w.heap.size, o, none⟩ = (#[.int .u32 oid, .int .u32 ver, .string nm, .int .u8 id, .slice a2 cols.length c2] : Array Value)[o]?)) w2.drew) := Hid.mk' ⟨hgc2, HB2.out.cell⟩
      clear hE1 hE2 hb1 hb2 g0 hgc
      refine wp_region_head 10 (fun W : World => (∀ o, W.cell? ⟨g, o, none⟩ = (#[Value.slice a ps.length cap] : Array Value)[o]?) ∧ (∀ o, W.cell? ⟨w.heap.size, o, none⟩ = (#[.int .u32 oid, .int .u32 ver, .string nm, .int .u8 id, .slice a2 cols.length c2] : Array Value)[o]?)) (by kernel_rfl) (by decide) ?_
      (refine wpHd_take (i := 0) (v := ?_) rfl (by kernel_rfl) (by kernel_rfl) (by kernel_rfl) (fun _ _ _ h => h) (Or.inl ⟨by rfl, ?_⟩) hA0.out ?_; rotate_left 1; · (intro w' hS'; (try dsimp only at hS'); go_split_ands; go_simp; try with_reducible rfl))
      (refine wpHd_take (i := 1) (v := ?_) rfl (by kernel_rfl) (by kernel_rfl) (by kernel_rfl) (fun _ _ _ h => h) (Or.inl ⟨by rfl, ?_⟩) hA0.out ?_; rotate_left 1; · (intro w' hS'; (try dsimp only at hS'); go_split_ands; go_simp; try with_reducible rfl))
      (refine wpHd_take (i := 2) (v := ?_) rfl (by kernel_rfl) (by kernel_rfl) (by kernel_rfl) (fun _ _ _ h => h) (Or.inl ⟨by rfl, ?_⟩) hA0.out ?_; rotate_left 1; · (intro w' hS'; (try dsimp only at hS'); go_split_ands; go_simp; try with_reducible rfl))
      (refine wpHd_take (i := 3) (v := ?_) rfl (by kernel_rfl) (by kernel_rfl) (by kernel_rfl) (fun _ _ _ h => h) (Or.inl ⟨by rfl, ?_⟩) hA0.out ?_; rotate_left 1; · (intro w' hS'; (try dsimp only at hS'); go_split_ands; go_simp; try with_reducible rfl))
      (refine wpHd_take (i := 4) (v := ?_) rfl (by kernel_rfl) (by kernel_rfl) (by kernel_rfl) (fun _ _ _ h => h) (Or.inl ⟨by rfl, ?_⟩) hA0.out ?_; rotate_left 1; · (intro w' hS'; (try dsimp only at hS'); go_split_ands; go_simp; try with_reducible rfl))
      (refine wpHd_take (i := 5) (v := ?_) rfl (by kernel_rfl) (by kernel_rfl) (by kernel_rfl) (fun _ _ _ h => h) (Or.inl ⟨by rfl, ?_⟩) hA0.out ?_; rotate_left 1; · (intro w' hS'; (try dsimp only at hS'); go_split_ands; go_simp; try with_reducible rfl))
      (refine wpHd_take (i := 6) (v := ?_) rfl (by kernel_rfl) (by kernel_rfl) (by kernel_rfl) (fun _ _ _ h => h) (Or.inl ⟨by rfl, ?_⟩) hA0.out ?_; rotate_left 1; · (intro w' hS'; (try dsimp only at hS'); go_split_ands; go_simp; try with_reducible rfl))
      refine wpHd_one (i := 7) rfl rfl (by kernel_rfl) (fun K hK => ?_)
      go_simp
      refine (HOW.out _ (HK2.out _ (Ext.refl w2).drew) (by omega)).mono ?_
      rintro e w4 ⟨⟨r', a', k'⟩, rfl, hqr, hqo, hb4⟩
      simp only at hqr
      subst hqr
      have HX4 : Hid (Ext w2 w4) := Hid.mk' ((Ext.refl w2).drew.trans hb4)
      have HQO := Hid.mk' hqo
      simp only
      refine hK.out _ _ ⟨((HC.out.ptr.ext HE2.out).ext HX4.out).cell, (HB2.out.ext HX4.out).cell⟩ (fun hA => ?_)
      clear hK K hA hA0 hb4 hqo hgc2
      refine wpHd_one (i := 8) rfl rfl (by kernel_rfl) (fun K hK => ?_)
      go_simp
      have HX5 : Hid (Ext w2 (w4.alloc (.cells #[.int .u32 oid, .int .u32 ver, .string nm, .int .u8 id, .slice a' cols.length k'] 99))) := Hid.mk' (HX4.out.alloc _)
      refine hK.out _ _ ⟨((HC.out.ptr.ext HE2.out).ext HX5.out).cell, (HB2.out.ext HX5.out).cell⟩ (fun hA => ?_)
      clear hK K hA
      obtain ⟨w5, hw5⟩ : ∃ w5, w5 = w4.alloc (.cells #[.int .u32 oid, .int .u32 ver, .string nm, .int .u8 id, .slice a' cols.length k'] 99) := ⟨_, rfl⟩
      have HV5 : Hid (Blk w5 w4.heap.size #[.int .u32 oid, .int .u32 ver, .string nm, .int .u8 id, .slice a' cols.length k'] 99) := Hid.mk' (by rw [hw5]; exact Blk.new _ _ _)
      have HQ5 : Hid (RR.owned w2.heap.size w5 (⟨⟨oid, ver, nm, id, cols⟩, a', k'⟩ : RR)) := Hid.mk' (by rw [hw5]; exact RR.owned.ext HQO.out ((Ext.refl w4).alloc _))
      have hz5 : w4.heap.size < w5.heap.size := HV5.out.lt
      have hz4 : w2.heap.size ≤ w4.heap.size := HX4.out.size
      have hz2 : w.heap.size ≤ w2.heap.size := HE2.out.size
      rw [← hw5] at HX5 ⊢
      clear hw5
      have HC5 : Hid (Ca w5 N g (.slice a ps.length cap) ps) := Hid.mk' ((HC.out.ext HE2.out).ext HX5.out)
      have hown5 := HC5.out.own
      have HOL : Hid (∀ b, (Value.slice a ps.length cap).ownBlock = some b → b < w.heap.size) := Hid.mk' (fun b hb => (HC.out.own.lt b hb).2)
      have hins := ins_any N ps.length P cap w4.heap.size a ((ps.map RR.cells).flatten) (RR.cells (⟨⟨oid, ver, nm, id, cols⟩, a', k'⟩ : RR)) w5 hown5 rfl HV5.out (by intro u hu; simp [RR.cells] at hu; rcases hu with rfl | rfl | rfl | rfl | rfl <;> rfl) (RR.one ps) (by omega) hPn (fun e => by have := HOL.out _ e; omega) (by have := HC.out.gN; omega)
      have HINS := Hid.mk' hins
      clear hins hown5
      refine wpHd_one (i := 9) rfl rfl (by kernel_rfl) (fun K hK => ?_)
      go_simp
      refine HINS.out.mono ?_
      rintro e w6 ⟨v', rfl, ho6, hg6, hat6⟩
      have hbk : ∀ k, k < w5.heap.size → (Value.slice a ps.length cap).ownBlock ≠ some k → w6.heap[k]? = w5.heap[k]? := fun k hk hn => hg6.block k hk (fun e => hn e.symm)
      have hgl := HC5.out.ptr.lt
      refine hK.out _ _ ⟨Blk.cell ((hbk g hgl HC5.out.gv).trans HC5.out.ptr), Blk.cell ((hbk w.heap.size (by omega) (fun e => by have := HOL.out _ e; omega)).trans (HB2.out.ext HX5.out))⟩ (fun hA => ?_)
      clear hK K hA
      have hfl := insP_flat ps (⟨⟨oid, ver, nm, id, cols⟩, a', k'⟩ : RR)
      simp only [← HPP.out] at hfl
      rw [← hfl] at ho6
      obtain ⟨a6, c6, rfl⟩ := owns_shape ho6
      have HFIN := Hid.mk' (Ca.ins HC5.out HQ5.out.in (fun h0 b o e => by
        obtain ⟨h1, h2⟩ := HQ5.out.at_ e
        have := HC.out.gN
        exact ⟨by omega, fun e2 => by have := HOL.out _ e2; omega, by omega, h2⟩) HA.out ⟨HWB.out.nm, HWB.out.cs, HWB.out.n, HWB.out.idn⟩ ho6 hg6 hat6)
      have HG6 : Hid (Blk w6 g #[.slice a ps.length cap] 149) := Hid.mk' ((hbk g hgl HC5.out.gv).trans HC5.out.ptr)
      have HAT : Hid (∀ b, (Value.slice a6 (ps.length + 1) c6).ownBlock = some b → (Value.slice a ps.length cap).ownBlock = some b ∨ w.heap.size ≤ b) := Hid.mk' (fun b hb => by
        rcases hat6 with h | ⟨b', h, h2⟩
        · left; rw [← h]; exact hb
        · right; rw [h] at hb; injection hb with hb; omega)
      have hg6c := HG6.out.cell
      have hg6f := HG6.out.frozen
      have hg6z := HG6.out.lt
      have HX5w : Hid (Ext w w5) := Hid.mk' (HE2.out.trans HX5.out)
      clear ho6 hg6 hat6 hbk hfl
      refine wpHd_tail (by kernel_rfl) ?_
      simp only [List.drop_succ_cons, List.drop_zero]
      go_wp2
      go_ret
      have hadd : addP ps (⟨⟨oid, ver, nm, id, cols⟩, a', k'⟩ : RR) = insP ps (⟨⟨oid, ver, nm, id, cols⟩, a', k'⟩ : RR) := by unfold addP; rw [if_pos HA.out]
      exact ⟨_, ⟨⟨oid, ver, nm, id, cols⟩, a', k'⟩, by rw [HA.out]; rfl, rfl, by rw [hadd]; exact HFIN.out.1, (Kp.of_ext HX5w.out).trans HFIN.out.2 (fun x hx _ => hx), HAT.out⟩

end Go.Proofs.YtdgalkljngigeaaGreat


/-
A catalog of relations: the program's New, Of, Len, Get; the laws' Own of relations, Ref.
-/
namespace Go.Proofs.YtdgalkljngigeaaGreat
open Go.RowKit

theorem Ca.new (w : World) : Ca (w.alloc (.cells #[.slice none 0 0] 149)) w.heap.size w.heap.size (.slice none 0 0) [] :=
  ⟨Blk.new _ _ _, World.ownsRow_nil _ _ _ _, Nat.le_refl _, (by intro h; cases h), (fun p h => by cases h), (fun p h => by cases h), CatOk.nil, (fun p h => by cases h)⟩

set_option maxRecDepth 20000 in set_option maxHeartbeats 400000 in
theorem new_any (w : World) : Calls Tryz.prog 33 #[] w fun e w' => e = .returned (.pointer (some ⟨w.heap.size, 0, none⟩)) ∧ w' = w.alloc (.cells #[.slice none 0 0] 149) := by
  go_enter Tryz.func33, Tryz.ntmps33
  go_wp2
  go_ret
  exact ⟨rfl, rfl⟩

set_option maxRecDepth 20000 in set_option maxHeartbeats 400000 in
theorem ref9_any (o v : Int) (w : World) : Calls Tryz.prog 22 #[.agg #[.int .u32 o, .int .u32 v]] w fun e w' => e = .returned (.agg #[.int .u32 o, .int .u32 v]) ∧ Ext w w' := by
  go_enter Tryz.func22, Tryz.ntmps22
  go_wp2
  simp [bodyPost, results, Tryz.results22, go_sem, *]
  exact eX

theorem own9_one (p : RR) (w : World) (hp : p.in w) (hn : p.r.cols.length ≤ 5864062014634) :
    Calls Tryz.prog 58 #[p.agg] w fun e w' => ∃ q : RR, e = .returned q.agg ∧ q.r = p.r ∧ q.r.cols.length ≤ q.c ∧ q.owned w.heap.size w' ∧ Ext w w' := by
  obtain ⟨⟨oid, ver, nm, id, cols⟩, a, cap⟩ := p
  refine (own8_big oid ver nm id cols a cap w hp hn).mono fun e w' h => ?_
  obtain ⟨a', c', h1, h2, h3, h4⟩ := h
  exact ⟨⟨⟨oid, ver, nm, id, cols⟩, a', c'⟩, h1, rfl, h2, h3, h4⟩

/-- Relations of the call's own, in a row of its own, all from N on. -/
structure OwnR (W : World) (N : Nat) (ps : List RR) (k : Nat) (v : Value) (qs : List RR) : Prop where
  own : W.ownsRow N 99 5 v k (qs.map RR.cells).flatten
  len : qs.length = k
  r : ∀ i (h : i < qs.length) (h2 : i < ps.length), qs[i].r = ps[i].r
  cap : ∀ q ∈ qs, q.r.cols.length ≤ q.c
  sl : ∀ q ∈ qs, q.owned N W
  ne : ∀ q ∈ qs, ∀ b o, q.a = some ⟨b, o, none⟩ → v.ownBlock ≠ some b
theorem OwnR.nil (W : World) (N : Nat) (ps : List RR) : OwnR W N ps 0 (.slice none 0 0) [] :=
  ⟨World.ownsRow_nil _ _ _ _, rfl, (fun i h => absurd h (Nat.not_lt_zero _)), (fun q h => by cases h), (fun q h => by cases h), (fun q h => by cases h)⟩
theorem OwnR.ext {W W' : World} {N k : Nat} {ps qs : List RR} {v : Value} (h : OwnR W N ps k v qs) (he : Ext W W') : OwnR W' N ps k v qs :=
  ⟨owns_ext h.own he, h.len, h.r, h.cap, fun q hq => (h.sl q hq).ext he, h.ne⟩
theorem OwnR.push {W W' : World} {N k : Nat} {ps qs : List RR} {v v' : Value} {q : RR} (h : OwnR W N ps k v qs) (hk : k < ps.length) (hr : q.r = ps[k].r) (hc : q.r.cols.length ≤ q.c) (hs : q.owned N W) (hn : ∀ b o, q.a = some ⟨b, o, none⟩ → v.ownBlock ≠ some b)
    (hg : W.grownBy W' v.ownBlock) (hat : v'.ownBlock = v.ownBlock ∨ v'.ownBlock = some W.heap.size) (ho : W'.ownsRow N 99 5 v' (k + 1) ((qs.map RR.cells).flatten ++ q.cells)) : OwnR W' N ps (k + 1) v' (qs ++ [q]) := by
  have hall : ∀ x ∈ qs ++ [q], x.r.cols.length ≤ x.c ∧ x.owned N W ∧ ∀ b o, x.a = some ⟨b, o, none⟩ → v.ownBlock ≠ some b := fun x hx => by
    rcases List.mem_append.1 hx with hx | hx
    · exact ⟨h.cap x hx, h.sl x hx, h.ne x hx⟩
    · obtain rfl : x = q := by simpa using hx
      exact ⟨hc, hs, hn⟩
  have hk1 : Kp (fun k => v.ownBlock = some k) W W' := Kp.of_grown hg
  refine ⟨by simpa using ho, by rw [List.length_append, h.len]; rfl, fun i h1 h2 => ?_, fun x hx => (hall x hx).1, fun x hx => ?_, fun x hx b o e => ?_⟩
  · by_cases hi : i < qs.length
    · rw [List.getElem_append_left hi]; exact h.r i hi h2
    · have hql := h.len
      rw [List.length_append, List.length_singleton] at h1
      obtain rfl : i = k := by omega
      rw [List.getElem_append_right (by omega)]
      simpa using hr
  · obtain ⟨-, h2, h3⟩ := hall x hx
    refine owns_kp h2 hk1 (fun b hb => ?_)
    obtain ⟨xr, xa, xc⟩ := x
    cases xa with
    | none => cases hb
    | some ad =>
      obtain ⟨b', o', sp⟩ := ad
      have hb' : b' = b := by simpa [Value.ownBlock] using hb
      subst hb'
      rcases h2.2 with ⟨hv, -⟩ | ⟨g, cap, cur, hv, -⟩
      · cases hv
      · simp only [Value.slice.injEq, Option.some.injEq, Addr.mk.injEq] at hv
        obtain ⟨⟨rfl, rfl, rfl⟩, -⟩ := hv
        exact h3 _ _ rfl
  · obtain ⟨-, h2, h3⟩ := hall x hx
    rcases hat with h4 | h4
    · rw [h4]; exact h3 b o e
    · rw [h4]; intro h5; injection h5 with h5
      have := (h2.at_ e).2; omega
theorem OwnR.rl {W : World} {N : Nat} {ps qs : List RR} {v : Value} (h : OwnR W N ps ps.length v qs) : RL W v qs := ⟨Sl.of_owns (base := N) (e := 99) (by rw [List.length_map, h.len]; exact h.own) (RR.len qs), fun q hq => (h.sl q hq).in⟩
theorem OwnR.rs {W : World} {N : Nat} {ps qs : List RR} {v : Value} (h : OwnR W N ps ps.length v qs) : qs.map RR.r = ps.map RR.r := by
  apply List.ext_getElem
  · rw [List.length_map, List.length_map, h.len]
  · intro i h1 h2
    rw [List.getElem_map, List.getElem_map]
    rw [List.length_map] at h1 h2
    exact h.r i h1 h2
theorem OwnR.wb {W : World} {N : Nat} {ps qs : List RR} {v : Value} (h : OwnR W N ps ps.length v qs) (hw : ∀ p ∈ ps, p.r.wb) : ∀ q ∈ qs, q.r.wb := fun q hq => by
  obtain ⟨i, hi, rfl⟩ := List.getElem_of_mem hq
  rw [h.r i hi (by rw [← h.len]; exact hi)]
  exact hw _ (List.getElem_mem _)

set_option maxRecDepth 100000 in set_option maxHeartbeats 4000000 in
theorem own9_any (ps : List RR) (a : Option Addr) (cap : Nat) (w : World) (hl : RL w (.slice a ps.length cap) ps) (hlen : ps.length ≤ 1000) (hb : ∀ p ∈ ps, p.r.wb) :
    Calls Tryz.prog 32 #[.slice a ps.length cap] w fun e w' => ∃ a' c' qs, e = .returned (.slice a' ps.length c') ∧ OwnR w' w.heap.size ps ps.length (.slice a' ps.length c') qs ∧ Ext w w' := by
  obtain ⟨i0, hi, hz0, hz1, hz2⟩ := info_parts Tryz.infoRel
  have HL := Hid.mk' hl
  have HB := Hid.mk' hb
  clear hl hb
  go_enter Tryz.func32, Tryz.ntmps32
  go_wp2
  go_loopw [3, 4] (fun v i wr => ∃ (k : Nat) (qs : List RR), k ≤ ps.length ∧ i = .int .i64 k ∧ Hid (OwnR wr w.heap.size ps k v qs) ∧ Hid (Ext w wr)) (fun _ i _ => ps.length - (intOf i).toNat)
  case atStart => exact ⟨0, [], Nat.zero_le _, rfl, Hid.mk' (OwnR.nil _ _ _), Hid.mk' (Ext.refl _)⟩
  case round =>
    obtain ⟨k, qs, hk, rfl, hown, hE⟩ := hrel
    by_cases hlt : k < ps.length
    · obtain ⟨b, o, rfl, hb, hx⟩ := HL.out.row.at_ (i := k) (by simpa using hlt)
      obtain ⟨f0, f1, f2, f3, f4⟩ := RR.at_ hlt hx hb hE.out
      have hbw : b < wr.heap.size := Nat.lt_of_lt_of_le hb hE.out.size
      have HO := Hid.mk' (fun W (h : Ext wr W) => own9_one ps[k] W ((HL.out.sl _ (List.getElem_mem hlt)).ext (hE.out.trans h)) (HB.out _ (List.getElem_mem hlt)).n)
      obtain ⟨p, hp⟩ : ∃ p, p = ps[k] := ⟨_, rfl⟩
      rw [← hp] at f0 f1 f2 f3 f4 HO
      unfold RR.agg at HO
      have HP := Hid.mk' hp
      have hwz := hE.out.size
      clear hx hp
      go_wp2_with (first
        | (go_at_call 58; refine (HO.out _ (Ext.refl _)).mono ?_; rintro e w1 ⟨⟨r', a', c'⟩, rfl, hr, hcp, ho, hb1⟩; simp only at hr; subst hr; have HQ := Hid.mk' ho; have HCP := Hid.mk' hcp; have HB1 := Hid.mk' hb1; have hz1' := hb1.size; clear ho hcp hb1; try simp only)
        | (at_builtin; refine wpList_append_own_at _ rfl _ _ 88 rfl w.heap.size 99 i0 _ 5 56 Tryz.underlying88 hi hz0 hz1 hz2 rfl (by decide) _ _ _ rfl (owns_ext hown.out.own (HB1.out.alloc _)) ⟨_, 0, none⟩ 1 1 (RR.cells ⟨p.r, a', c'⟩) rfl rfl (cells_new _ #[.int .u32 p.r.oid, .int .u32 p.r.ver, .string p.r.nm, .int .u8 p.r.id, .slice a' p.r.cols.length c'] _) (by intro u hu; simp [RR.cells] at hu; rcases hu with rfl | rfl | rfl | rfl | rfl <;> rfl) (by unfold maxLen; omega) (by omega) (by simp; omega) ?_))
      intro v' w2 hown' hgrow _ hat
      have HE2 := Hid.mk' ((hE.out.trans HB1.out).alloc (.cells #[.int .u32 p.r.oid, .int .u32 p.r.ver, .string p.r.nm, .int .u8 p.r.id, .slice a' p.r.cols.length c'] 99) |>.grown (owns_ext hown.out.own (HB1.out.alloc _)) hgrow)
      have HN := Hid.mk' ((hown.out.ext (HB1.out.alloc (.cells #[.int .u32 p.r.oid, .int .u32 p.r.ver, .string p.r.nm, .int .u8 p.r.id, .slice a' p.r.cols.length c'] 99))).push (q := ⟨p.r, a', c'⟩) hlt (by rw [← HP.out]) HCP.out ((RR.owned.ext HQ.out ((Ext.refl w1).alloc _)).mono hwz) (fun b o e h4 => by
          have h5 := owns_lt3 hown.out.own h4
          have h6 := (RR.owned.at_ HQ.out e).1
          omega) hgrow (by first | exact hat | (rw [World.size_alloc]; exact hat)) hown')
      clear hown' hgrow hat hown hE
      go_wp2
      go_roundw
      case rel => exact ⟨k + 1, _, by omega, by go_num, HN, HE2⟩
      case measure => simp [intOf]; omega
    · obtain rfl : k = ps.length := by omega
      obtain ⟨a', c', rfl⟩ := owns_shape hown.out.own
      go_wp2
      go_ret
      exact ⟨a', c', qs, rfl, hown.out, hE.out⟩

end Go.Proofs.YtdgalkljngigeaaGreat
