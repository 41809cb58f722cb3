/-
strings.Builder's contracts at this program.
-/
import Derived.Test.YtjnafppkbhldlaaGreatP21
set_option maxRecDepth 100000
set_option maxHeartbeats 16000000
namespace Go.Proofs.YtjnafppkbhldlaaGreat
open Go.RowKit Go.Shelf
theorem Tryz.beX169 : Builder.Extra Tryz.prog Tryz.lays169_ren := {
  sizeBuilder := by kernel_rfl
  liesBuilder := by kernel_rfl
  t5 := Tryz.underlying5
  a5 := Tryz.isAgg5
  z5 := Tryz.sizeOf5
  v5 := Tryz.zeroValue5
  infoByte := by kernel_rfl
  cellsByte := by kernel_rfl
  sizeByte := by kernel_rfl
  neB5 := by decide }
def Bld (w : World) (B : Nat) (s : ByteArray) : Prop := Lib.IsBuilder 345 5 B B (Lib.byteCells s.data.toList) w
theorem Bld.drew {w : World} {B : Nat} {s : ByteArray} (h : Bld w B s) : Bld w.drew B s := h
theorem Bld.new (w : World) : Bld (w.alloc (.cells #[.pointer none, .slice none 0 0] 345)) w.heap.size ByteArray.empty := Lib.fresh_isBuilder 345 5 w
theorem bcheck_any (B : Nat) (s : ByteArray) (w : World) (h : Bld w B s) :
    Calls Tryz.prog 261 #[.pointer (some ⟨B, 0, none⟩)] w fun e w' => e = .returned (.tuple #[]) ∧ Lib.BuilderAt 345 5 B B (.pointer (some ⟨B, 0, none⟩)) (Lib.byteCells s.data.toList) w' ∧ Below B w w' := by
  obtain ⟨j, hj, hjs⟩ := Option.map_eq_some_iff.1 Tryz.beX169.sizeBuilder
  rcases h with h | h
  · have h0 := h.cell0
    have hsh := h.shape
    have hfz := h.frozen0
    have HH := Hm h
    clear h
    go_enter Tryz.func261, Tryz.ntmps261
    go_wp2
    rw [Lib.run_to_unsafe w ⟨B, 0, none⟩ Tryz.underlying343 Tryz.underlying446 hj (by rw [hjs]; decide) hsh (Nat.zero_lt_succ 1)]
    simp only [Result.andThen]
    rw [Oper.upon_value]
    go_wp2
    rw [run_callFunc_extern Tryz.func309 (by kernel_rfl) (by kernel_rfl) (by kernel_rfl) (e := Extern.AbiNoEscape.same) (by kernel_rfl)]
    rw [Lib.run_noEscape]
    simp only [Result.andThen]
    rw [Oper.upon_value]
    go_wp2
    rw [Lib.run_from_unsafe w ⟨B, 0, none⟩ Tryz.underlying446 Tryz.underlying343 hj hsh Tryz.beX169.liesBuilder]
    simp only [Result.andThen]
    rw [Oper.upon_value]
    go_wp2
    go_end0
    exact ⟨rfl, HH.out.used _, (Below.refl B w).setCell (p := ⟨B, 0, none⟩) (Nat.le_refl _) _⟩
  · have h0 := h.cell0
    have HH := Hm h
    clear h
    go_enter Tryz.func261, Tryz.ntmps261
    go_wp2
    rw [Lib.run_neq_ptr_same w _ Tryz.underlying343 hj]
    go_wp2
    go_end0
    exact ⟨rfl, HH.out, Below.refl _ _⟩
theorem bwrite_any (B : Nat) (s t : ByteArray) (w : World) (h : Bld w B s) (hlen : s.size + t.size ≤ 140737488355328) (hB : B ≤ w.heap.size) :
    Calls Tryz.prog 203 #[.pointer (some ⟨B, 0, none⟩), .string t] w fun e w' => e = .returned (.tuple #[.int .i64 t.size, .nilIface]) ∧ Bld w' B (s ++ t) ∧ Below B w w' := by
  obtain ⟨i0, hi, hz0, hz1, hz2⟩ := info_parts Tryz.infoU8
  have HC := Hm (bcheck_any B s w h)
  have hl := Lib.byteCells_length s.data.toList
  have hls : s.data.toList.length = s.size := by rw [Array.length_toList]; rfl
  have e1 : Hid (Lib.byteCells (s ++ t).data.toList = Lib.byteCells s.data.toList ++ Lib.strCells t) := Hm (by
    rw [show (s ++ t).data.toList = s.data.toList ++ t.data.toList from by rw [ByteArray.data_append, Array.toList_append], Lib.byteCells_append]
    rfl)
  have HL := Hm (And.intro hl hls)
  generalize Lib.byteCells s.data.toList = bs at HC e1 HL
  clear h hl hls
  go_enter Tryz.func203, Tryz.ntmps203
  go_wp2_with (go_at_call 261; refine HC.out.mono ?_)
  rintro e w1 ⟨rfl, h1, hb1⟩
  have H1 := Hm h1
  have HB1 := Hm hb1
  clear h1 hb1
  obtain ⟨-, v, hbk, hown, hne⟩ := H1.out
  have c0 : w1.cell? ⟨B, 0, none⟩ = some (.pointer (some ⟨B, 0, none⟩)) := by rw [Lib.cell_of_heap hbk]; rfl
  have c1 : w1.cell? ⟨B, 1, none⟩ = some v := by rw [Lib.cell_of_heap hbk]; rfl
  have hlt : B < w1.heap.size := by
    rcases Nat.lt_or_ge B w1.heap.size with h' | h'
    · exact h'
    · simp [Array.getElem?_eq_none h'] at hbk
  have HBK := Hm hbk
  have HOW := Hm hown
  have HNE := Hm hne
  clear hbk hown hne
  go_wp2_with (at_builtin; refine Lib.wpList_append_own_string _ rfl _ _ 27 9 rfl B 5 i0 Tryz.underlying27 Tryz.underlying9 hi hz0 hz1 hz2 _ _ _ rfl HOW.out t rfl ?c3 ?c4 ?c5 ?_)
  case c3 => have := HL.out; unfold maxLen; omega
  case c4 => have := HL.out; omega
  case c5 => have := HB1.out.size; omega
  intro v' w2 hown' hgrow _
  have hb2 : w2.heap[B]? = some (.cells #[.pointer (some ⟨B, 0, none⟩), v] 345 (0, 0)) := by
    rw [hgrow.block B hlt (fun e => HNE.out e.symm)]
    exact HBK.out
  have HB2 := Hm hb2
  have HOW2 := Hm hown'
  have HG := Hm hgrow
  have d0 : w2.cell? ⟨B, 0, none⟩ = some (.pointer (some ⟨B, 0, none⟩)) := by rw [Lib.cell_of_heap hb2]; rfl
  have d1 : w2.cell? ⟨B, 1, none⟩ = some v := by rw [Lib.cell_of_heap hb2]; rfl
  have f1 : w2.frozen? ⟨B, 1, none⟩ = false := Lib.frozen_of_heap hb2 1
  have zl : B < w2.heap.size := Nat.lt_of_lt_of_le hlt hgrow.size
  obtain ⟨ao, n', cap, rfl⟩ : ∃ ao n' cap, v' = .slice ao n' cap := by
    rcases hown'.2 with ⟨hv, _⟩ | ⟨g, cap, cur, hv, _⟩
    · exact ⟨_, _, _, hv⟩
    · exact ⟨_, _, _, hv⟩
  clear hb2 hown' hgrow c0 c1 hlt
  go_wp2
  go_ret2
  refine ⟨rfl, .inr ?_, ?_⟩
  · rw [e1.out]
    exact Lib.BuilderAt.put (T := 345) (e := 5) (Nat.le_refl _) HB2.out (bs' := bs ++ Lib.strCells t) (by simpa [Lib.strCells_length] using HOW2.out) (by decide)
  · exact (HB1.out.grown HG.out (by have := HB1.out.size; omega) (fun k hk => (HOW.out.lt k hk).1)).setCell (p := ⟨B, 1, none⟩) (Nat.le_refl _) _
theorem blen_any (B : Nat) (s : ByteArray) (w : World) (h : Bld w B s) :
    Calls Tryz.prog 202 #[.pointer (some ⟨B, 0, none⟩)] w fun e w' => e = .returned (.int .i64 s.size) ∧ w' = w := by
  have h1 := Any.Builder_Len Tryz.lays170 B B (Lib.byteCells s.data.toList) w h
  change Calls Tryz.prog 202 _ _ _ at h1
  refine h1.mono ?_
  rintro e w' ⟨he, h2⟩
  rw [Lib.byteCells_length] at he
  exact ⟨he, h2⟩
theorem bstring_any (B : Nat) (s : ByteArray) (w : World) (h : Bld w B s) (hB : B ≤ w.heap.size) :
    Calls Tryz.prog 204 #[.pointer (some ⟨B, 0, none⟩)] w fun e w' => e = .returned (.string s) ∧ Below B w w' := by
  have h1 := Any.Builder_String_any Tryz.lays169 Tryz.beX169 B B s.data.toList w h hB
  change Calls Tryz.prog 204 _ _ _ at h1
  refine h1.mono ?_
  rintro e w' ⟨he, h2⟩
  exact ⟨he, h2⟩
end Go.Proofs.YtjnafppkbhldlaaGreat
namespace Go.Proofs.YtjnafppkbhldlaaGreat
open Go.RowKit
section
variable {P : Program} {ops : Array Oper} {Q : Exit → Act → World → Prop} {md : Region.Mode} {S S' : World → Prop}
theorem wpHd_str {n : Nat} (hS : ∀ w, S' w → S w) : ∀ (f : Nat) (listed : Array Bool) (a : Act) (w : World), wpHd P md ops Q S' n f listed a w → wpHd P md ops Q S n f listed a w
  | 0, _, _, _, h => h
  | f + 1, _, _, _, ⟨h0, h⟩ => ⟨h0, fun i hi => ⟨(h i hi).1, wpOp_mono (fun _ _ h' => ⟨hS _ h'.1, wpHd_str hS f _ _ _ h'.2⟩) (h i hi).2⟩⟩
theorem wpHd_oneG {n i : Nat} {o : Oper} {f : Nat} {listed : Array Bool} {a : Act} {w : World} (hi : ops[i]? = some o) (hg : Region.wanted o (yielded ops a.tmps) = true)
    (hr : (decide (Region.ready md ops listed = [i]) && decide (i < n)) = true)
    (h : ∀ K : Act → World → Prop, Hid (∀ a' w', S w' → (S w' → wpHd P md ops Q S n f (listed.setIfInBounds i true) a' w') → K a' w') → o.wp P a w K Q) : wpHd P md ops Q S n (f + 1) listed a w := by
  simp only [Bool.and_eq_true, decide_eq_true_eq] at hr
  refine ⟨by rw [hr.1]; simp, fun j hj => ?_⟩
  rw [hr.1] at hj
  have hji : j = i := by simpa using hj
  subst hji
  refine ⟨hr.2, ?_⟩
  unfold wpOp
  simp only [hi]
  rw [if_pos hg]
  exact .inl (h _ (fun a' w' hs hk => ⟨hs, hk hs⟩))
theorem wpHd_two {n i j : Nat} {o o2 : Oper} {f : Nat} {listed : Array Bool} {a : Act} {w : World} (hi : ops[i]? = some o) (hg : o.guard = none) (hj : ops[j]? = some o2) (hg2 : o2.guard = none)
    (hr : (decide (Region.ready md ops listed = [i, j]) && (decide (i < n) && decide (j < n))) = true)
    (h : ∀ K : Act → World → Prop, Hid (∀ a' w', S w' → (S w' → wpHd P md ops Q S n f (listed.setIfInBounds i true) a' w') → K a' w') → o.wp P a w K Q)
    (h2 : ∀ K : Act → World → Prop, Hid (∀ a' w', S w' → (S w' → wpHd P md ops Q S n f (listed.setIfInBounds j true) a' w') → K a' w') → o2.wp P a w K Q) : wpHd P md ops Q S n (f + 1) listed a w := by
  simp only [Bool.and_eq_true, decide_eq_true_eq] at hr
  refine ⟨by rw [hr.1]; simp, fun k hk => ?_⟩
  rw [hr.1] at hk
  simp only [List.mem_cons, List.not_mem_nil, or_false] at hk
  rcases hk with rfl | rfl
  · refine ⟨hr.2.1, ?_⟩
    unfold wpOp
    simp only [hi]
    rw [if_pos (by simp [Region.wanted, hg])]
    exact .inl (h _ (fun a' w' hs hk => ⟨hs, hk hs⟩))
  · refine ⟨hr.2.2, ?_⟩
    unfold wpOp
    simp only [hj]
    rw [if_pos (by simp [Region.wanted, hg2])]
    exact .inl (h2 _ (fun a' w' hs hk => ⟨hs, hk hs⟩))
end
theorem HG.wpHd_takeD {P : Program} {ops : Array Oper} {Q : Exit → Act → World → Prop} {md : Region.Mode} {S : World → Prop} {n i : Nat} {oi : Oper} {d : Option Tmp} {v : Value} {f : Nat} {listed : Array Bool} {a : Act} {w : World} (hi : ops[i]? = some oi) (hd : oi.dst = d)
    (hB : headB md ops n listed = true) (hf : Region.free md ops listed i = true) (hr : ((Region.ready md ops listed).contains i && decide (i < n)) = true)
    (hQ : ∀ c a w, Q (.panic c) (a.put d v) w → Q (.panic c) a w) (hy : YieldsIf P ops S oi v a) (hS : S w)
    (h : wpHd P md ops Q S n f (listed.setIfInBounds i true) (a.put d v) w) : wpHd P md ops Q S n (f + 1) listed a w := by
  subst hd
  exact wpHd_take hi hB hf hr hQ hy hS h
open Go.RowKit HG
theorem joinE_bad {ps : List ByteArray} {ns : List Int} {k : Nat} (hk : k < ns.length) (h : ns[k] < 0 ∨ 2048 < ns[k]) : joinE ps ns = 4 := by
  unfold joinE
  rw [if_pos]
  rw [List.any_eq_true]
  exact ⟨ns[k], List.getElem_mem hk, decide_eq_true h⟩
theorem joinE_fit {ps : List ByteArray} {ns : List Int} (h : ∀ k (hk : k < ns.length), 0 ≤ ns[k] ∧ ns[k] ≤ 2048) : joinE ps ns = if ps.map ByteArray.size = lensL (ns.map Int.toNat) then 0 else 16 := by
  unfold joinE
  rw [if_neg]
  rw [List.any_eq_true]
  rintro ⟨x, hx, h2⟩
  obtain ⟨k, hk, rfl⟩ := List.getElem_of_mem hx
  have := h k hk
  have h3 := of_decide_eq_true h2
  omega
def JoinQ (ps : List ByteArray) (ns : List Int) (w : World) (e : Ending) (w' : World) : Prop :=
  ∃ a' c', e = .returned (.tuple #[.slice a' (joinW ps ns).length c', .int .i64 (joinE ps ns)]) ∧ Sl w' (.slice a' (joinW ps ns).length c') 1 ((joinW ps ns).map strC) ∧ ((joinW ps ns).length ≤ c' ∧ c' ≤ maxLen) ∧ Ext w w'
theorem JoinQ.bad {ps : List ByteArray} {ns : List Int} {w w' : World} {E : Int} (h : joinE ps ns = E) (h0 : E ≠ 0) (hE : Ext w w') : JoinQ ps ns w (.returned (.tuple #[.slice none 0 0, .int .i64 E])) w' := by
  have hw : joinW ps ns = [] := by unfold joinW; rw [h, if_neg h0]
  unfold JoinQ
  rw [hw, h]
  exact ⟨none, 0, rfl, ⟨none, 0, rfl, .inl rfl⟩, ⟨Nat.le_refl _, Nat.zero_le _⟩, hE⟩
structure Pcs (W : World) (ps : List ByteArray) (p : Nat) (u : Option Addr) (c : Nat) : Prop where
  sl : Sl W (.slice u (ps.length - p) c) 1 ((ps.drop p).map strC)
  cap : ps.length - p ≤ c
  le : p ≤ ps.length
  mx : c ≤ maxLen
theorem Pcs.ext {W W' : World} {ps : List ByteArray} {p : Nat} {u : Option Addr} {c : Nat} (h : Pcs W ps p u c) (he : Ext W W') : Pcs W' ps p u c := ⟨h.sl.ext he, h.cap, h.le, h.mx⟩
theorem Pcs.first {W : World} {ps : List ByteArray} {p : Nat} {u : Option Addr} {c : Nat} (h : Pcs W ps p u c) (hp : p < ps.length) : ∃ b o, u = some ⟨b, o, none⟩ ∧ b < W.heap.size ∧ W.cell? ⟨b, o, none⟩ = some (.string ps[p]) ∧ Pcs W ps (p + 1) (some ⟨b, o + 1, none⟩) (c - 1) := by
  obtain ⟨a, cap, he, hs⟩ := h.sl
  simp only [Value.slice.injEq] at he
  obtain ⟨rfl, -, rfl⟩ := he
  rcases hs with hs | ⟨b, o, rfl, hb, hc⟩
  · simp at hs; omega
  have hl : ((ps.drop p).map strC).length = ps.length - p := by simp
  refine ⟨b, o, rfl, hb, ?_, ⟨⟨some ⟨b, o + 1, none⟩, c - 1, (by simp), .inr ⟨b, o + 1, rfl, hb, fun i hi j hj => ?_⟩⟩, by have := h.cap; omega, hp, by have := h.mx; omega⟩⟩
  · have := hc 0 (by rw [hl]; omega) 0 (by omega)
    simp only [Nat.zero_mul, Nat.add_zero] at this
    rw [this]
    simp [List.getD_eq_getElem?_getD, strC, hp]
  · have h2 := hc (i + 1) (by rw [hl]; simp at hi; omega) j hj
    rw [show o + 1 + i * 1 + j = o + (i + 1) * 1 + j by omega, h2]
    simp [List.getD_eq_getElem?_getD, Nat.add_assoc, Nat.add_comm 1 i]
theorem Pcs.last {W : World} {ps : List ByteArray} {p : Nat} (h : p + 1 = ps.length) (u : Option Addr) : Pcs W ps (p + 1) u 0 := ⟨⟨u, 0, by simp, .inl (by simp; omega)⟩, by omega, by omega, Nat.zero_le _⟩
theorem mism {ps : List ByteArray} {L : List Nat} {q m : Nat} (hl : L[q]? = some m) (h : ∀ hq : q < ps.length, ps[q].size ≠ m) : ps.map ByteArray.size ≠ L := by
  intro e
  rw [← e, List.getElem?_map] at hl
  by_cases hq : q < ps.length
  · rw [List.getElem?_eq_getElem hq] at hl
    exact h hq (by simpa using hl)
  · rw [List.getElem?_eq_none (by omega)] at hl
    cases hl
theorem join_any (ps : List ByteArray) (ns : List Int) (a b : Option Addr) (ca cb : Nat) (w : World) (hps : Sl w (.slice a ps.length ca) 1 (ps.map strC)) (hcap : ps.length ≤ ca) (hca : ca ≤ maxLen) (hns : Sl w (.slice b ns.length cb) 1 (ns.map icell)) (hn : ns.length ≤ 1000) (hpl : ps.length ≤ 1000000) (hs : ∀ s ∈ ps, s.size ≤ 9223372036854775807) :
    Calls Tryz.prog 126 #[.slice a ps.length ca, .slice b ns.length cb] w (JoinQ ps ns w) := by
  obtain ⟨i0, hi, hz0, hz1, hz2⟩ := info_parts Tryz.infoStrS
  have HL := Hm hns
  have HP := Hm hps
  have HN := Hm hn
  have HPL := Hm hpl
  have HSS := Hm hs
  have HCA := Hm (And.intro hcap hca)
  clear hps hns hn hpl hs hcap hca
  go_enter Tryz.func126, Tryz.ntmps126
  go_wp2
  go_loopg [14, 7] ns.length (fun z i q wr => ∃ k : Nat, z + k = ns.length ∧ i = .int .i64 k ∧ Hid (∀ j (hj : j < ns.length), j < k → 0 ≤ ns[j] ∧ ns[j] ≤ 2048) ∧ Hid (Ext w wr))
  case atStart => exact ⟨0, by omega, rfl, Hm (fun j _ h => by omega), Hm (Ext.refl _)⟩
  case round =>
    obtain ⟨k, hzk, rfl, hF, hE⟩ := hrel
    by_cases hlt : k < ns.length
    · obtain ⟨b1, o1, rfl, hb1, hx1⟩ := HL.out.at_ (i := k) (by simpa using hlt)
      have f0 := int_at hlt hx1 hb1 hE.out
      have hbw : b1 < wr.heap.size := Nat.lt_of_lt_of_le hb1 hE.out.size
      have HBAD : Hid (ns[k] < 0 ∨ 2048 < ns[k] → joinE ps ns = 4) := Hm (fun h => joinE_bad hlt h)
      have HNX : Hid (0 ≤ ns[k] ∧ ns[k] ≤ 2048 → ∀ j (hj : j < ns.length), j < k + 1 → 0 ≤ ns[j] ∧ ns[j] ≤ 2048) := Hm (fun h j hj hjk => by
        by_cases e : j = k
        · subst e; exact h
        · exact hF.out j hj (by omega))
      obtain ⟨x, hx⟩ : ∃ x, x = ns[k] := ⟨_, rfl⟩
      rw [← hx] at f0 HBAD HNX
      have HLT := Hm hlt
      have hk63 : (k : Int) ≤ 1000 := by have := HN.out; omega
      have hkl : (k : Int) < (ns.length : Int) := by omega
      clear hx hx1 hb1
      by_cases h0 : x < 0
      · have HE := Hm (HBAD.out (.inl h0))
        go_wp2
        go_ret2
        exact JoinQ.bad HE.out (by decide) hE.out
      by_cases h1 : 2048 < x
      · have HE := Hm (HBAD.out (.inr h1))
        go_wp2
        go_ret2
        exact JoinQ.bad HE.out (by decide) hE.out
      have HO := Hm (HNX.out (by omega))
      go_wp2
      go_roundg (ns.length - (k + 1))
      case measure => have := HLT.out; omega
      case rel => exact ⟨k + 1, Nat.sub_add_cancel HLT.out, by go_num, HO, hE⟩
    · have hk : k = ns.length := by omega
      have HFT := Hm (joinE_fit (ps := ps) (ns := ns) (fun j hj => hF.out j hj (by omega)))
      have HFA := Hm (fun j (hj : j < ns.length) => hF.out j hj (by omega))
      clear hF
      subst hk
      go_wp2
      obtain ⟨NS, hNS⟩ : ∃ N, N = ns.map Int.toNat := ⟨_, rfl⟩
      have hNL : NS.length = ns.length := by rw [hNS]; simp
      have HNA : Hid (∀ j (h1 : j < ns.length) (h2 : j < NS.length), ns[j] = (NS[j] : Int) ∧ NS[j] ≤ 2048) := Hm (fun j h1 h2 => by
        have h3 := HFA.out j h1
        subst hNS
        rw [List.getElem_map]
        omega)
      have HNS := Hm hNS
      rw [← hNS] at HFT
      have HNL := Hm hNL
      clear hNS hNL HFA
      have HP0 : Hid (Pcs w ps (sumN (NS.take 0)) a ca) := Hm ⟨by rw [show sumN (NS.take 0) = 0 from rfl, Nat.sub_zero, List.drop_zero]; exact HP.out, by have := HCA.out.1; omega, Nat.zero_le _, HCA.out.2⟩
      have hp0 : ps.length = ps.length - sumN (NS.take 0) := by rw [show sumN (NS.take 0) = 0 from rfl, Nat.sub_zero]
      obtain ⟨wo0, hwo⟩ : ∃ x, x = wr := ⟨_, rfl⟩
      subst hwo
      go_loopg [0, 8, 27, 10, 11] ns.length (fun z t v i x y wr => ∃ (k : Nat) (u : Option Addr) (c : Nat), z + k = ns.length ∧ i = .int .i64 k ∧ t = .slice u (ps.length - sumN (NS.take k)) c ∧ Hid (Pcs w ps (sumN (NS.take k)) u c) ∧ Hid (Mat ps (lensL NS) (sumN (NS.take k))) ∧ Hid (wr.ownsRow w.heap.size 9 1 v (joinT ps (NS.take k)).length ((joinT ps (NS.take k)).map strC).flatten) ∧ Hid (Ext w wr))
      case atStart => exact ⟨0, a, ca, by omega, rfl, by rw [← hp0], HP0, Hm (Mat.zero _ _), Hm (World.ownsRow_nil _ _ _ _), hE⟩
      case round =>
        obtain ⟨k, u, c, hzk, rfl, rfl, hPC, hMT, hO, hE⟩ := hrel
        by_cases hlt : k < ns.length
        · obtain ⟨b1, o1, rfl, hb1, hx1⟩ := HL.out.at_ (i := k) (by simpa using hlt)
          have f0 := int_at hlt hx1 hb1 hE.out
          have hbw : b1 < wr.heap.size := Nat.lt_of_lt_of_le hb1 hE.out.size
          have hltN : k < NS.length := by have := HNL.out; omega
          have hNK := HNA.out k hlt hltN
          have HJT := Hm (joinT_take (ns := NS) hltN ps)
          have HST := Hm (sumN_take (ns := NS) hltN)
          have HLA := Hm (fun i (h : i < nOf NS[k]) => lensL_at (ns := NS) hltN h)
          obtain ⟨n, hnn⟩ : ∃ n, n = NS[k] := ⟨_, rfl⟩
          rw [← hnn] at hNK HJT HST HLA
          rw [hNK.1] at f0
          have HN2 := Hm hNK.2
          obtain ⟨p, hpp⟩ : ∃ p, p = sumN (NS.take k) := ⟨_, rfl⟩
          rw [← hpp] at HJT HST HLA hPC hMT ⊢
          obtain ⟨TK, hTK⟩ : ∃ t, t = joinT ps (NS.take k) := ⟨_, rfl⟩
          rw [← hTK] at HJT hO
          have HLT := Hm hlt
          have hk63 : (k : Int) ≤ 1000 := by have := HN.out; omega
          have hkl : (k : Int) < (ns.length : Int) := by omega
          have HTL : Hid (TK.length ≤ 1000) := Hm (by rw [hTK, joinT_len, List.length_take]; have := HN.out; omega)
          have hn63 : (n : Int) ≤ 2048 := by have := HN2.out; omega
          clear hx1 hb1 hNK hnn hpp hTK hltN
          obtain ⟨wo, hwo2⟩ : ∃ x, x = wr := ⟨_, rfl⟩
          subst hwo2
          have HBN := Hm (Bld.new wo)
          go_wp2
          go_loopg [0] n (fun z t wr => ∃ (i : Nat) (s : ByteArray) (u : Option Addr) (c : Nat), z + s.size = n ∧ t = .slice u (ps.length - (p + i)) c ∧ Hid (Pcs w ps (p + i) u c) ∧ Hid (Mat ps (lensL NS) (p + i)) ∧ Hid (s = catL ((ps.drop p).take i) ∧ s.size = min (256 * i) n ∧ i ≤ nOf n) ∧ Hid (Bld wr wo.heap.size s) ∧ Hid (Ext wo wr))
          case atStart => exact ⟨0, ByteArray.empty, u, c, rfl, rfl, hPC, hMT, Hm ⟨rfl, by simp, Nat.zero_le _⟩, HBN, Hm ((Ext.refl wo).alloc _)⟩
          case round =>
            obtain ⟨i, s, u, c, hzs, rfl, hPI, hMI, hS, hB, hEI⟩ := hrel
            have HBL := Hm (fun W (h : Bld W wo.heap.size s) => blen_any wo.heap.size s W h)
            obtain ⟨D, hD⟩ : ∃ D, D = ps.length - (p + i) := ⟨_, rfl⟩
            rw [← hD]
            have HD := Hm hD
            clear hD
            have hz63 : (s.size : Int) ≤ 2048 := by have := HN2.out; omega
            by_cases hsn : s.size < n
            · have hsi : (s.size : Int) < (n : Int) := by omega
              have hin : i < nOf n := by have := hS.out.2.1; unfold nOf; omega
              have HQA := Hm (HLA.out i hin)
              have HLN : Hid (lenAt n i = min 256 (n - s.size)) := Hm (by have := hS.out.2.1; unfold lenAt; omega)
              have HZS := Hm hzs
              clear hzs
              go_upto_region 13 with (go_at_call 202; refine (HBL.out _ hB.out).mono ?_; rintro e w3 ⟨rfl, rfl⟩)
              by_cases hpi : p + i < ps.length
              · obtain ⟨b2, o2, rfl, hb2w, f1w, hPN⟩ := hPI.out.first hpi
                have HEW := Hm (hE.out.trans hEI.out)
                have f1 : w3.cell? ⟨b2, o2, none⟩ = some (.string ps[p + i]) := (HEW.out.cells.1 b2 o2 hb2w).trans f1w
                have hb2 : b2 < w3.heap.size := Nat.lt_of_lt_of_le hb2w HEW.out.size
                clear f1w hb2w
                obtain ⟨t, ht⟩ : ∃ t, t = ps[p + i] := ⟨_, rfl⟩
                rw [← ht] at f1
                have HTT := Hm ht
                have HPN := Hm hPN
                have hD0 : 0 < D := by have := HD.out; omega
                have hDz : ((D : Int) == 0) = false := by simp; omega
                have hDi : 0 < (D : Int) := by omega
                clear ht hPN
                refine wp_region_head 13 (fun w' => Ext (w3) w' ∧ (∀ b o, b < (w3).heap.size → w'.cell? ⟨b, o, none⟩ = (w3).cell? ⟨b, o, none⟩) ∧ (∀ b o, b < (w3).heap.size → w'.frozen? ⟨b, o, none⟩ = (w3).frozen? ⟨b, o, none⟩)) (by kernel_rfl) (by decide) ?_
                have hA0 : Hid ((fun w' => Ext (w3) w' ∧ (∀ b o, b < (w3).heap.size → w'.cell? ⟨b, o, none⟩ = (w3).cell? ⟨b, o, none⟩) ∧ (∀ b o, b < (w3).heap.size → w'.frozen? ⟨b, o, none⟩ = (w3).frozen? ⟨b, o, none⟩)) w3.drew) := Hm (held_of (Ext.refl w3).drew)
                (refine wpHd_takeD (i := 0) (d := some 34) (v := ?_) rfl rfl (by kernel_rfl) (by kernel_rfl) (by kernel_rfl) (fun _ _ _ h => h) (Or.inl ⟨by rfl, ?_⟩) hA0.out ?_; rotate_left 1; (· (intro w' hS'; (obtain ⟨hEs', hcs', hfs'⟩ := hS'); go_simp; try with_reducible rfl)))
                try simp only [Act.put, List.setIfInBounds_toArray, List.set_cons_zero, List.set_cons_succ]
                (refine wpHd_takeD (i := 1) (d := some 35) (v := ?_) rfl rfl (by kernel_rfl) (by kernel_rfl) (by kernel_rfl) (fun _ _ _ h => h) (Or.inl ⟨by rfl, ?_⟩) hA0.out ?_; rotate_left 1; (· (intro w' hS'; (obtain ⟨hEs', hcs', hfs'⟩ := hS'); go_simp; try with_reducible rfl)))
                try simp only [Act.put, List.setIfInBounds_toArray, List.set_cons_zero, List.set_cons_succ]
                (refine wpHd_takeD (i := 2) (d := some 36) (v := ?_) rfl rfl (by kernel_rfl) (by kernel_rfl) (by kernel_rfl) (fun _ _ _ h => h) (Or.inl ⟨by rfl, ?_⟩) hA0.out ?_; rotate_left 1; (· (intro w' hS'; (obtain ⟨hEs', hcs', hfs'⟩ := hS'); go_simp; try with_reducible rfl)))
                try simp only [Act.put, List.setIfInBounds_toArray, List.set_cons_zero, List.set_cons_succ]
                (refine wpHd_takeD (i := 3) (d := some 37) (v := ?_) rfl rfl (by kernel_rfl) (by kernel_rfl) (by kernel_rfl) (fun _ _ _ h => h) (Or.inl ⟨by rfl, ?_⟩) hA0.out ?_; rotate_left 1; (· (intro w' hS'; (obtain ⟨hEs', hcs', hfs'⟩ := hS'); go_simp; try with_reducible rfl)))
                try simp only [Act.put, List.setIfInBounds_toArray, List.set_cons_zero, List.set_cons_succ]
                (refine wpHd_takeD (i := 4) (d := some 38) (v := ?_) rfl rfl (by kernel_rfl) (by kernel_rfl) (by kernel_rfl) (fun _ _ _ h => h) (Or.inl ⟨by rfl, ?_⟩) hA0.out ?_; rotate_left 1; (· (intro w' hS'; (obtain ⟨hEs', hcs', hfs'⟩ := hS'); go_simp; try with_reducible rfl)))
                try simp only [Act.put, List.setIfInBounds_toArray, List.set_cons_zero, List.set_cons_succ]
                (refine wpHd_takeD (i := 5) (d := some 39) (v := ?_) rfl rfl (by kernel_rfl) (by kernel_rfl) (by kernel_rfl) (fun _ _ _ h => h) (Or.inl ⟨by rfl, ?_⟩) hA0.out ?_; rotate_left 1; (· (intro w' hS'; (obtain ⟨hEs', hcs', hfs'⟩ := hS'); go_simp; try with_reducible rfl)))
                try simp only [Act.put, List.setIfInBounds_toArray, List.set_cons_zero, List.set_cons_succ]
                (refine wpHd_takeD (i := 6) (d := some 40) (v := ?_) rfl rfl (by kernel_rfl) (by kernel_rfl) (by kernel_rfl) (fun _ _ _ h => h) (Or.inl ⟨by rfl, ?_⟩) hA0.out ?_; rotate_left 1; (· (intro w' hS'; (obtain ⟨hEs', hcs', hfs'⟩ := hS'); go_simp; try with_reducible rfl)))
                try simp only [Act.put, List.setIfInBounds_toArray, List.set_cons_zero, List.set_cons_succ]
                (refine wpHd_takeD (i := 7) (d := some 41) (v := ?_) rfl rfl (by kernel_rfl) (by kernel_rfl) (by kernel_rfl) (fun _ _ _ h => h) (Or.inl ⟨by rfl, ?_⟩) hA0.out ?_; rotate_left 1; (· (intro w' hS'; (obtain ⟨hEs', hcs', hfs'⟩ := hS'); go_simp; try with_reducible rfl)))
                try simp only [Act.put, List.setIfInBounds_toArray, List.set_cons_zero, List.set_cons_succ]
                (refine wpHd_takeD (i := 8) (d := some 42) (v := ?_) rfl rfl (by kernel_rfl) (by kernel_rfl) (by kernel_rfl) (fun _ _ _ h => h) (Or.inl ⟨by rfl, ?_⟩) hA0.out ?_; rotate_left 1; (· (intro w' hS'; (obtain ⟨hEs', hcs', hfs'⟩ := hS'); go_simp; try with_reducible rfl)))
                try simp only [Act.put, List.setIfInBounds_toArray, List.set_cons_zero, List.set_cons_succ]
                refine wpHd_oneG (i := 9) rfl (by rfl) (by kernel_rfl) (fun KK hK => ?_)
                go_simp
                refine (HBL.out _ hB.out.drew).mono ?_
                rintro e w4 ⟨rfl, rfl⟩
                refine hK.out _ _ hA0.out (fun hA => ?_)
                clear hK KK hA
                (refine wpHd_takeD (i := 10) (d := some 44) (v := ?_) rfl rfl (by kernel_rfl) (by kernel_rfl) (by kernel_rfl) (fun _ _ _ h => h) (Or.inl ⟨by rfl, ?_⟩) hA0.out ?_; rotate_left 1; (· (intro w' hS'; (obtain ⟨hEs', hcs', hfs'⟩ := hS'); go_simp; try with_reducible rfl)))
                try simp only [Act.put, List.setIfInBounds_toArray, List.set_cons_zero, List.set_cons_succ]
                (refine wpHd_takeD (i := 11) (d := some 45) (v := ?_) rfl rfl (by kernel_rfl) (by kernel_rfl) (by kernel_rfl) (fun _ _ _ h => h) (Or.inl ⟨by rfl, ?_⟩) hA0.out ?_; rotate_left 1; (· (intro w' hS'; (obtain ⟨hEs', hcs', hfs'⟩ := hS'); go_simp; try with_reducible rfl)))
                try simp only [Act.put, List.setIfInBounds_toArray, List.set_cons_zero, List.set_cons_succ]
                (refine wpHd_takeD (i := 12) (d := some 46) (v := ?_) rfl rfl (by kernel_rfl) (by kernel_rfl) (by kernel_rfl) (fun _ _ _ h => h) (Or.inl ⟨by rfl, ?_⟩) hA0.out ?_; rotate_left 1; (· (intro w' hS'; (obtain ⟨hEs', hcs', hfs'⟩ := hS'); go_simp; try with_reducible rfl)))
                try simp only [Act.put, List.setIfInBounds_toArray, List.set_cons_zero, List.set_cons_succ]
                refine wpHd_tail (by kernel_rfl) ?_
                simp only [List.drop_succ_cons, List.drop_zero]
                have hw : IntKind.i64.wrap ((n : Int) - (s.size : Int)) = ((n - s.size : Nat) : Int) := by rw [IntKind.wrap_i64]; omega
                have hmin : min 256 (IntKind.i64.wrap ((n : Int) - (s.size : Int))) = ((lenAt n i : Nat) : Int) := by rw [hw, HLN.out]; omega
                by_cases htz : t.size = lenAt n i
                · have hq : ((t.size : Int) != min 256 (IntKind.i64.wrap ((n : Int) - (s.size : Int)))) = false := by rw [hmin, htz]; simp
                  have HTZ := Hm htz
                  have HDC : Hid (D ≤ c) := Hm (by have := hPI.out.cap; have := HD.out; omega)
                  have HCM : Hid (c ≤ maxLen) := Hm hPI.out.mx
                  have HWS := Hm (bwrite_any wo.heap.size s t w3.drew hB.out.drew (by have := HN2.out; have := HLN.out; omega) hEI.out.size)
                  have hd1 : (1 : Int) ≤ (D : Int) := by omega
                  have hdc : (D : Int) ≤ (c : Int) := by have := HDC.out; omega
                  have hcm : (c : Int) ≤ 9223372036854775807 := by have := HCM.out; unfold maxLen at this; omega
                  have hlp := lenAt_pos hin
                  have HTP : Hid (1 ≤ t.size ∧ s.size + t.size ≤ n) := Hm (by have h1 := HLN.out; have h2 := HN2.out; omega)
                  have HNX : Hid (s ++ t = catL ((ps.drop p).take (i + 1)) ∧ (s ++ t).size = min (256 * (i + 1)) n ∧ i + 1 ≤ nOf n) := Hm (by
                    have h1 := hS.out
                    have h2 := HLN.out
                    refine ⟨?_, by rw [ByteArray.size_append]; omega, hin⟩
                    have hdl : i < (ps.drop p).length := by rw [List.length_drop]; omega
                    rw [List.take_succ_eq_append_getElem hdl, catL_snoc, ← h1.1, List.getElem_drop, ← HTT.out])
                  have HMN : Hid (Mat ps (lensL NS) (p + (i + 1))) := Hm (by
                    have h := hMI.out.succ hpi (by rw [HQA.out, ← HTT.out, htz])
                    exact h)
                  clear hw hmin htz hlp
                  go_wp2_with (go_at_call 203; refine HWS.out.mono ?_; rintro e w5 ⟨rfl, hb5, hk5⟩; have HB5 := Hm hb5; have HK5 := Hm hk5; clear hb5 hk5)
                  have hee : Ext wo w5 := Below.trans hEI.out.drew HK5.out
                  have HE5 := Hm hee
                  have HD5 : Hid (D - 1 = ps.length - (p + (i + 1))) := Hm (by have := HD.out; omega)
                  clear hee
                  · have hc1 : c = 1 := by assumption
                    subst hc1
                    go_roundg (n - (s.size + t.size))
                    case measure => have := HTP.out; have := HZS.out; omega
                    case rel => exact ⟨i + 1, s ++ t, some ⟨b2, o2, none⟩, 0, by rw [ByteArray.size_append]; have := HTP.out; omega, by rw [HD5.out], Hm (Pcs.last (p := p + i) (by have := HDC.out; have := HD.out; omega) _), HMN, HNX, HB5, HE5⟩
                  · have hee : Ext wo w5 := Below.trans hEI.out.drew HK5.out
                    have HE5 := Hm hee
                    have HD5 : Hid (D - 1 = ps.length - (p + (i + 1))) := Hm (by have := HD.out; omega)
                    clear hee
                    go_roundg (n - (s.size + t.size))
                    case measure => have := HTP.out; have := HZS.out; omega
                    case rel => exact ⟨i + 1, s ++ t, some ⟨b2, o2 + 1, none⟩, c - 1, by rw [ByteArray.size_append]; have := HTP.out; omega, by rw [HD5.out], HPN, HMN, HNX, HB5, HE5⟩
                · have hq : ((t.size : Int) != min 256 (IntKind.i64.wrap ((n : Int) - (s.size : Int)))) = true := by rw [hmin]; simp; omega
                  have HE : Hid (joinE ps ns = 16) := Hm (by rw [HFT.out, if_neg (mism HQA.out (fun hq => by rw [← HTT.out]; exact htz))])
                  have HEE := Hm (hE.out.trans hEI.out.drew)
                  clear hw hmin htz
                  go_wp2
                  go_ret2
                  exact JoinQ.bad HE.out (by decide) HEE.out
              · have hDz : ((D : Int) == 0) = true := by have := HD.out; simp; omega
                have HE : Hid (joinE ps ns = 16) := Hm (by rw [HFT.out, if_neg (mism HQA.out (fun hq => absurd hq hpi))])
                have HEE := Hm (hE.out.trans hEI.out)
                refine wp_region_head 13 (fun w' => Ext (w3) w' ∧ (∀ b o, b < (w3).heap.size → w'.cell? ⟨b, o, none⟩ = (w3).cell? ⟨b, o, none⟩) ∧ (∀ b o, b < (w3).heap.size → w'.frozen? ⟨b, o, none⟩ = (w3).frozen? ⟨b, o, none⟩)) (by kernel_rfl) (by decide) ?_
                have hA0 : Hid ((fun w' => Ext (w3) w' ∧ (∀ b o, b < (w3).heap.size → w'.cell? ⟨b, o, none⟩ = (w3).cell? ⟨b, o, none⟩) ∧ (∀ b o, b < (w3).heap.size → w'.frozen? ⟨b, o, none⟩ = (w3).frozen? ⟨b, o, none⟩)) w3.drew) := Hm (held_of (Ext.refl w3).drew)
                (refine wpHd_takeD (i := 0) (d := some 34) (v := ?_) rfl rfl (by kernel_rfl) (by kernel_rfl) (by kernel_rfl) (fun _ _ _ h => h) (Or.inl ⟨by rfl, ?_⟩) hA0.out ?_; rotate_left 1; (· (intro w' hS'; (obtain ⟨hEs', hcs', hfs'⟩ := hS'); go_simp; try with_reducible rfl)))
                try simp only [Act.put, List.setIfInBounds_toArray, List.set_cons_zero, List.set_cons_succ]
                (refine wpHd_takeD (i := 1) (d := some 35) (v := ?_) rfl rfl (by kernel_rfl) (by kernel_rfl) (by kernel_rfl) (fun _ _ _ h => h) (Or.inl ⟨by rfl, ?_⟩) hA0.out ?_; rotate_left 1; (· (intro w' hS'; (obtain ⟨hEs', hcs', hfs'⟩ := hS'); go_simp; try with_reducible rfl)))
                try simp only [Act.put, List.setIfInBounds_toArray, List.set_cons_zero, List.set_cons_succ]
                (refine wpHd_takeD (i := 2) (d := some 36) (v := ?_) rfl rfl (by kernel_rfl) (by kernel_rfl) (by kernel_rfl) (fun _ _ _ h => h) (Or.inl ⟨by rfl, ?_⟩) hA0.out ?_; rotate_left 1; (· (intro w' hS'; (obtain ⟨hEs', hcs', hfs'⟩ := hS'); go_simp; try with_reducible rfl)))
                try simp only [Act.put, List.setIfInBounds_toArray, List.set_cons_zero, List.set_cons_succ]
                (refine wpHd_takeD (i := 3) (d := some 37) (v := ?_) rfl rfl (by kernel_rfl) (by kernel_rfl) (by kernel_rfl) (fun _ _ _ h => h) (Or.inl ⟨by rfl, ?_⟩) hA0.out ?_; rotate_left 1; (· (intro w' hS'; (obtain ⟨hEs', hcs', hfs'⟩ := hS'); go_simp; try with_reducible rfl)))
                try simp only [Act.put, List.setIfInBounds_toArray, List.set_cons_zero, List.set_cons_succ]
                refine wpHd_takeD (i := 4) (d := some 38) (v := undef) rfl rfl (by kernel_rfl) (by kernel_rfl) (by kernel_rfl) (fun _ _ _ h => h) (Or.inr ⟨by rfl, rfl⟩) hA0.out ?_
                try simp only [Act.put, List.setIfInBounds_toArray, List.set_cons_zero, List.set_cons_succ]
                refine wpHd_takeD (i := 5) (d := some 39) (v := undef) rfl rfl (by kernel_rfl) (by kernel_rfl) (by kernel_rfl) (fun _ _ _ h => h) (Or.inr ⟨by rfl, rfl⟩) hA0.out ?_
                try simp only [Act.put, List.setIfInBounds_toArray, List.set_cons_zero, List.set_cons_succ]
                refine wpHd_takeD (i := 6) (d := some 40) (v := undef) rfl rfl (by kernel_rfl) (by kernel_rfl) (by kernel_rfl) (fun _ _ _ h => h) (Or.inr ⟨by rfl, rfl⟩) hA0.out ?_
                try simp only [Act.put, List.setIfInBounds_toArray, List.set_cons_zero, List.set_cons_succ]
                refine wpHd_takeD (i := 7) (d := some 41) (v := undef) rfl rfl (by kernel_rfl) (by kernel_rfl) (by kernel_rfl) (fun _ _ _ h => h) (Or.inr ⟨by rfl, rfl⟩) hA0.out ?_
                try simp only [Act.put, List.setIfInBounds_toArray, List.set_cons_zero, List.set_cons_succ]
                refine wpHd_takeD (i := 8) (d := some 42) (v := undef) rfl rfl (by kernel_rfl) (by kernel_rfl) (by kernel_rfl) (fun _ _ _ h => h) (Or.inr ⟨by rfl, rfl⟩) hA0.out ?_
                try simp only [Act.put, List.setIfInBounds_toArray, List.set_cons_zero, List.set_cons_succ]
                refine wpHd_takeD (i := 9) (d := some 43) (v := undef) rfl rfl (by kernel_rfl) (by kernel_rfl) (by kernel_rfl) (fun _ _ _ h => h) (Or.inr ⟨by rfl, rfl⟩) hA0.out ?_
                try simp only [Act.put, List.setIfInBounds_toArray, List.set_cons_zero, List.set_cons_succ]
                refine wpHd_takeD (i := 10) (d := some 44) (v := undef) rfl rfl (by kernel_rfl) (by kernel_rfl) (by kernel_rfl) (fun _ _ _ h => h) (Or.inr ⟨by rfl, rfl⟩) hA0.out ?_
                try simp only [Act.put, List.setIfInBounds_toArray, List.set_cons_zero, List.set_cons_succ]
                refine wpHd_takeD (i := 11) (d := some 45) (v := undef) rfl rfl (by kernel_rfl) (by kernel_rfl) (by kernel_rfl) (fun _ _ _ h => h) (Or.inr ⟨by rfl, rfl⟩) hA0.out ?_
                try simp only [Act.put, List.setIfInBounds_toArray, List.set_cons_zero, List.set_cons_succ]
                refine wpHd_takeD (i := 12) (d := some 46) (v := undef) rfl rfl (by kernel_rfl) (by kernel_rfl) (by kernel_rfl) (fun _ _ _ h => h) (Or.inr ⟨by rfl, rfl⟩) hA0.out ?_
                try simp only [Act.put, List.setIfInBounds_toArray, List.set_cons_zero, List.set_cons_succ]
                refine wpHd_tail (by kernel_rfl) ?_
                simp only [List.drop_succ_cons, List.drop_zero]
                go_wp2
                go_ret2
                exact JoinQ.bad HE.out (by decide) (HEE.out.trans (by exact eX))
            · have hin : i = nOf n := by have := hS.out; unfold nOf at *; omega
              subst hin
              have HSG := Hm (fun W (h : Bld W wo.heap.size s) (h2 : wo.heap.size ≤ W.heap.size) => bstring_any wo.heap.size s W h h2)
              have HSN := Hm (fun (W : World) => (Sl.new W #[.string s] 9 1 1 1 [[.string s]] rfl (by intro xs hxs; simp at hxs; subst hxs; rfl) rfl))
              have hsz : (s.size : Int) = (n : Int) := by omega
              have hnl : ¬ (s.size : Int) < (n : Int) := by omega
              clear hsn hzs
              go_wp2_with (first
                | (go_at_call 202; refine (HBL.out _ hB.out).mono ?_; rintro e w3 ⟨rfl, rfl⟩)
                | (go_at_call 204; refine (HSG.out _ hB.out hEI.out.size).mono ?_; rintro e w5 ⟨rfl, hk5⟩; have HE5 := Hm (show Ext wo w5 from Below.trans hEI.out hk5); clear hk5)
                | (at_builtin; refine wpList_append_sl rfl _ _ 115 rfl w.heap.size 9 i0 _ 1 16 Tryz.underlying115 hi hz0 hz1 hz2 rfl (by decide) _ TK.length _ rfl (owns_ext hO.out (HE5.out.alloc _)) _ [[.string s]] rfl (HSN.out w5) ?c0 ?c1 ?c2 ?c3 ?c4 ?_))
              case c0 => intro ys hys; simp at hys; subst hys; rfl
              case c1 => intro y hy; simp at hy; subst hy; rfl
              case c2 => have := HTL.out; unfold maxLen; simp only [List.length_cons, List.length_nil]; omega
              case c3 => have := HTL.out; simp only [List.length_cons, List.length_nil]; omega
              case c4 => have h1 := hE.out.size; have h2 := HE5.out.size; simp only [World.size_alloc]; omega
              intro v7 w7 ho7 hg7 _
              have HO8 : Hid (w7.ownsRow w.heap.size 9 1 v7 (joinT ps (NS.take (k + 1))).length ((joinT ps (NS.take (k + 1))).map strC).flatten) := Hm (by
                rw [HJT.out, ← hS.out.1, List.map_append, List.flatten_append, List.length_append]
                simpa [strC] using ho7)
              have HE8 : Hid (Ext w w7) := Hm (Ext.grown (hE.out.trans (HE5.out.alloc _)) (owns_ext hO.out (HE5.out.alloc _)) hg7)
              clear ho7 hg7
              go_wp2
              go_roundg (ns.length - (k + 1))
              case measure => have := HLT.out; omega
              case rel => exact ⟨k + 1, u, c, Nat.sub_add_cancel HLT.out, by go_num, by rw [HST.out, HD.out], Hm (by rw [HST.out]; exact hPI.out), Hm (by rw [HST.out]; exact hMI.out), HO8, HE8⟩
        · have hk : k = ns.length := by omega
          have HTA : Hid (NS.take k = NS) := Hm (by rw [hk, ← HNL.out]; exact List.take_length)
          rw [HTA.out] at hPC hMT hO ⊢
          by_cases hfull : sumN NS < ps.length
          · have HE : Hid (joinE ps ns = 16) := Hm (by
              rw [HFT.out, if_neg]
              intro e
              have h1 := congrArg List.length e
              rw [List.length_map, lensL_len] at h1
              omega)
            obtain ⟨D, hD⟩ : ∃ D, D = ps.length - sumN NS := ⟨_, rfl⟩
            rw [← hD]
            have h19 : 0 < (D : Int) := by omega
            subst hk
            clear hD hfull
            go_wp2
            go_ret2
            exact JoinQ.bad HE.out (by decide) hE.out
          · have hle := hPC.out.le
            have hz0 : ps.length - sumN NS = 0 := by omega
            have HE : Hid (joinE ps ns = 0) := Hm (by
              rw [HFT.out, if_pos]
              refine Mat.all (by rw [lensL_len]; exact hMT.out) (by rw [lensL_len]; omega))
            have HW : Hid (joinW ps ns = joinT ps NS) := Hm (by unfold joinW; rw [if_pos HE.out, ← HNS.out])
            rw [hz0]
            obtain ⟨J, hJ⟩ : ∃ J, J = joinT ps NS := ⟨_, rfl⟩
            rw [← hJ] at hO HW
            obtain ⟨a9, c9, rfl⟩ := owns_shape hO.out
            subst hk
            clear hfull hle hz0 hJ
            go_wp2
            go_ret2
            unfold JoinQ
            rw [HE.out, HW.out]
            exact ⟨a9, c9, rfl, Sl.of_owns (base := w.heap.size) (e := 9) (by rw [List.length_map]; exact hO.out) strC_one, owns_caps hO.out, hE.out⟩
end Go.Proofs.YtjnafppkbhldlaaGreat
namespace Go.Proofs.YtjnafppkbhldlaaGreat
open Go.RowKit
structure EL.owned (N : Nat) (W : World) (y : EL) : Prop where
  b : W.ownsRow N 226 5 (.slice y.ba y.e.b.length y.bc) y.e.b.length ((y.e.b.map K.pc).flatten)
  a : W.ownsRow N 226 5 (.slice y.aa y.e.a.length y.ac) y.e.a.length ((y.e.a.map K.pc).flatten)
  r : W.ownsRow N 94 2 (.slice y.ra y.e.rs.length y.rc) y.e.rs.length ((y.e.rs.map Rf.cells).flatten)
theorem ecopy_any (x : EL) (w : World) (hx : x.at 5 K.pc w) (hs : x.e.small) :
    Calls Tryz.prog 128 #[x.agg] w fun e w' => ∃ y : EL, e = .returned y.agg ∧ y.e = x.e ∧ y.owned w.heap.size w' ∧ Ext w w' := by
  obtain ⟨⟨k1, ao1, av1, old1, b1, a1, r1, fl1⟩, ba1, bc1, aa1, ac1, ra1, rc1⟩ := x
  have HCB := Hm (fun W (h : Ext w W) => clonek_any b1 ba1 bc1 W (hx.b.ext h) hs.b)
  have HCA := Hm (fun W (h : Ext w W) => clonek_any a1 aa1 ac1 W (hx.a.ext h) hs.a)
  have HCR := Hm (fun W (h : Ext w W) => clonef_any r1 ra1 rc1 W (hx.r.ext h) hs.r)
  unfold EL.agg
  simp only
  clear hx hs
  go_enter Tryz.func128, Tryz.ntmps128
  go_upto_region 1 with (fail)
  have hV : Blk ((w.alloc (.cells #[.int .u8 k1, .int .u32 ao1, .int .u32 av1, .int .u8 old1, .slice ba1 b1.length bc1, .slice aa1 a1.length ac1, .slice ra1 r1.length rc1, .int .u8 fl1] 120)).alloc (.cells #[.int .u8 0, .int .u32 0, .int .u32 0, .int .u8 0, .slice none 0 0, .slice none 0 0, .slice none 0 0, .int .u8 0] 120)) w.heap.size #[.int .u8 k1, .int .u32 ao1, .int .u32 av1, .int .u8 old1, .slice ba1 b1.length bc1, .slice aa1 a1.length ac1, .slice ra1 r1.length rc1, .int .u8 fl1] 120 := (Blk.new w #[.int .u8 k1, .int .u32 ao1, .int .u32 av1, .int .u8 old1, .slice ba1 b1.length bc1, .slice aa1 a1.length ac1, .slice ra1 r1.length rc1, .int .u8 fl1] 120).alloc _
  have hZ : Blk ((w.alloc (.cells #[.int .u8 k1, .int .u32 ao1, .int .u32 av1, .int .u8 old1, .slice ba1 b1.length bc1, .slice aa1 a1.length ac1, .slice ra1 r1.length rc1, .int .u8 fl1] 120)).alloc (.cells #[.int .u8 0, .int .u32 0, .int .u32 0, .int .u8 0, .slice none 0 0, .slice none 0 0, .slice none 0 0, .int .u8 0] 120)) (w.heap.size + 1) #[.int .u8 0, .int .u32 0, .int .u32 0, .int .u8 0, .slice none 0 0, .slice none 0 0, .slice none 0 0, .int .u8 0] 120 := Blk.new' (w := w.alloc (.cells #[.int .u8 k1, .int .u32 ao1, .int .u32 av1, .int .u8 old1, .slice ba1 b1.length bc1, .slice aa1 a1.length ac1, .slice ra1 r1.length rc1, .int .u8 fl1] 120)) _ _ (by simp)
  have hE : Ext w ((w.alloc (.cells #[.int .u8 k1, .int .u32 ao1, .int .u32 av1, .int .u8 old1, .slice ba1 b1.length bc1, .slice aa1 a1.length ac1, .slice ra1 r1.length rc1, .int .u8 fl1] 120)).alloc (.cells #[.int .u8 0, .int .u32 0, .int .u32 0, .int .u8 0, .slice none 0 0, .slice none 0 0, .slice none 0 0, .int .u8 0] 120)) := by exact eX
  obtain ⟨w0, hw0⟩ : ∃ w0, w0 = (w.alloc (.cells #[.int .u8 k1, .int .u32 ao1, .int .u32 av1, .int .u8 old1, .slice ba1 b1.length bc1, .slice aa1 a1.length ac1, .slice ra1 r1.length rc1, .int .u8 fl1] 120)).alloc (.cells #[.int .u8 0, .int .u32 0, .int .u32 0, .int .u8 0, .slice none 0 0, .slice none 0 0, .slice none 0 0, .int .u8 0] 120) := ⟨_, rfl⟩
  have hz0 : w0.heap.size = w.heap.size + 1 + 1 := by rw [hw0]; simp
  rw [← hw0] at hV hZ hE ⊢
  have HV := Hm hV
  have HZ := Hm hZ
  have HE := Hm hE
  have HZ0 := Hm hz0
  clear hw0 hV hZ hE hz0
  have gv := HV.out.cell
  have gvf := HV.out.frozen
  have zv := HV.out.lt
  have hA0 : Hid ((fun w' => Ext (w0) w' ∧ (∀ b o, b < (w0).heap.size → w'.cell? ⟨b, o, none⟩ = (w0).cell? ⟨b, o, none⟩) ∧ (∀ b o, b < (w0).heap.size → w'.frozen? ⟨b, o, none⟩ = (w0).frozen? ⟨b, o, none⟩)) w0.drew) := held_of (by exact eX)
  refine wp_region_head 10 (fun w' => Ext (w0) w' ∧ (∀ b o, b < (w0).heap.size → w'.cell? ⟨b, o, none⟩ = (w0).cell? ⟨b, o, none⟩) ∧ (∀ b o, b < (w0).heap.size → w'.frozen? ⟨b, o, none⟩ = (w0).frozen? ⟨b, o, none⟩)) (by kernel_rfl) (by decide) ?_
  (refine wpHd_take (i := 0) (v := ?_) rfl (by kernel_rfl) (by kernel_rfl) (by kernel_rfl) (fun _ _ _ h => h) (Or.inl ⟨by rfl, ?_⟩) hA0.out ?_; rotate_left 1; · (intro w' hS'; (obtain ⟨hEs', hcs', hfs'⟩ := hS'); go_simp; try with_reducible rfl))
  (refine wpHd_take (i := 1) (v := ?_) rfl (by kernel_rfl) (by kernel_rfl) (by kernel_rfl) (fun _ _ _ h => h) (Or.inl ⟨by rfl, ?_⟩) hA0.out ?_; rotate_left 1; · (intro w' hS'; (obtain ⟨hEs', hcs', hfs'⟩ := hS'); go_simp; try with_reducible rfl))
  (refine wpHd_take (i := 3) (v := ?_) rfl (by kernel_rfl) (by kernel_rfl) (by kernel_rfl) (fun _ _ _ h => h) (Or.inl ⟨by rfl, ?_⟩) hA0.out ?_; rotate_left 1; · (intro w' hS'; (obtain ⟨hEs', hcs', hfs'⟩ := hS'); go_simp; try with_reducible rfl))
  (refine wpHd_take (i := 4) (v := ?_) rfl (by kernel_rfl) (by kernel_rfl) (by kernel_rfl) (fun _ _ _ h => h) (Or.inl ⟨by rfl, ?_⟩) hA0.out ?_; rotate_left 1; · (intro w' hS'; (obtain ⟨hEs', hcs', hfs'⟩ := hS'); go_simp; try with_reducible rfl))
  (refine wpHd_take (i := 6) (v := ?_) rfl (by kernel_rfl) (by kernel_rfl) (by kernel_rfl) (fun _ _ _ h => h) (Or.inl ⟨by rfl, ?_⟩) hA0.out ?_; rotate_left 1; · (intro w' hS'; (obtain ⟨hEs', hcs', hfs'⟩ := hS'); go_simp; try with_reducible rfl))
  (refine wpHd_take (i := 7) (v := ?_) rfl (by kernel_rfl) (by kernel_rfl) (by kernel_rfl) (fun _ _ _ h => h) (Or.inl ⟨by rfl, ?_⟩) hA0.out ?_; rotate_left 1; · (intro w' hS'; (obtain ⟨hEs', hcs', hfs'⟩ := hS'); go_simp; try with_reducible rfl))
  refine wpHd_one (i := 2) rfl rfl (by kernel_rfl) (fun K hK => ?_)
  go_simp
  refine (HCB.out _ (by have := HE.out; exact eX)).mono ?_
  rintro e w2 ⟨b', bc', rfl, ho2, hb2⟩
  have HB2 := Hm (show Ext w0 w2 by exact eX)
  have HO2 := Hm ho2
  refine hK.out _ _ (held_of HB2.out) (fun hA => ?_)
  clear hK K hA ho2 hb2 hA0
  have hA0 : Hid ((fun w' => Ext (w0) w' ∧ (∀ b o, b < (w0).heap.size → w'.cell? ⟨b, o, none⟩ = (w0).cell? ⟨b, o, none⟩) ∧ (∀ b o, b < (w0).heap.size → w'.frozen? ⟨b, o, none⟩ = (w0).frozen? ⟨b, o, none⟩)) w2) := held_of HB2.out
  (refine wpHd_take (i := 9) (v := ?_) rfl (by kernel_rfl) (by kernel_rfl) (by kernel_rfl) (fun _ _ _ h => h) (Or.inl ⟨by rfl, ?_⟩) hA0.out ?_; rotate_left 1; · (intro w' hS'; (obtain ⟨hEs', hcs', hfs'⟩ := hS'); go_simp; try with_reducible rfl))
  refine wpHd_one (i := 5) rfl rfl (by kernel_rfl) (fun K hK => ?_)
  go_simp
  refine (HCA.out _ (HE.out.trans HB2.out)).mono ?_
  rintro e w5 ⟨a', ac', rfl, ho5, hb5⟩
  have HB5 := Hm hb5
  have HO5 := Hm ho5
  refine hK.out _ _ (held_of (HB2.out.trans HB5.out)) (fun hA => ?_)
  clear hK K hA ho5 hb5 hA0
  refine wpHd_one (i := 8) rfl rfl (by kernel_rfl) (fun K hK => ?_)
  go_simp
  refine (HCR.out _ (HE.out.trans (HB2.out.trans HB5.out))).mono ?_
  rintro e w8 ⟨r', rc', rfl, ho8, hb8⟩
  have HB8 := Hm hb8
  have HO8 := Hm ho8
  refine hK.out _ _ (held_of (HB2.out.trans (HB5.out.trans HB8.out))) (fun hA => ?_)
  clear hK K hA ho8 hb8
  refine wpHd_tail (by kernel_rfl) ?_
  simp only [List.drop_succ_cons, List.drop_zero]
  have HV8 := Hm (HV.out.ext (HB2.out.trans (HB5.out.trans HB8.out)))
  have HZ8 := Hm (HZ.out.ext (HB2.out.trans (HB5.out.trans HB8.out)))
  have HE8 := Hm (HE.out.trans (HB2.out.trans (HB5.out.trans HB8.out)))
  clear gv gvf zv
  have gv := HV8.out.cell
  have gvf := HV8.out.frozen
  have zv := HV8.out.lt
  have gz := HZ8.out.cell
  have gzf := HZ8.out.frozen
  have zz := HZ8.out.lt
  go_wp2
  simp [bodyPost, results, Tryz.results128, go_sem, *]
  have h0 := HZ0.out
  have h2 := HB2.out.size
  have h5 := HB5.out.size
  have hE8 := HE8.out
  refine ⟨⟨⟨k1, ao1, av1, old1, b1, a1, r1, fl1⟩, b', bc', a', ac', r', rc'⟩, ⟨rfl, rfl, rfl, rfl, ⟨rfl, rfl, rfl⟩, ⟨rfl, rfl, rfl⟩, ⟨rfl, rfl, rfl⟩, rfl⟩, rfl, ⟨?_, ?_, ?_⟩, by exact eX⟩
  · refine owns_base (base := w0.heap.size) ?_ (by omega)
    repeat (with_reducible refine owns_set ?_ (by dsimp only; omega) _)
    exact owns_ext HO2.out (HB5.out.trans HB8.out)
  · refine owns_base (base := w2.heap.size) ?_ (by omega)
    repeat (with_reducible refine owns_set ?_ (by dsimp only; omega) _)
    exact owns_ext HO5.out HB8.out
  · refine owns_base (base := w5.heap.size) ?_ (by omega)
    repeat (with_reducible refine owns_set ?_ (by dsimp only; omega) _)
    exact HO8.out
theorem Sl.front {W : World} {a : Option Addr} {n c k m : Nat} {xss : List (List Value)} (h : Sl W (.slice a n c) k xss) (hm : m ≤ n) : Sl W (.slice a m c) k (xss.take m) := by
  obtain ⟨a', c', he, hs⟩ := h
  simp only [Value.slice.injEq] at he
  obtain ⟨rfl, rfl, rfl⟩ := he
  refine ⟨a, c, by rw [List.length_take, Nat.min_eq_left hm], ?_⟩
  rcases hs with rfl | ⟨b, o, rfl, hb, hc⟩
  · left; simp
  · right
    refine ⟨b, o, rfl, hb, fun i hi j hj => ?_⟩
    rw [List.length_take] at hi
    rw [hc i (by omega) j hj, List.getD_eq_getElem?_getD, List.getD_eq_getElem?_getD, List.getElem?_take_of_lt (by omega)]
theorem Sl.behind {W : World} {b o n c k m : Nat} {xss : List (List Value)} (h : Sl W (.slice (some ⟨b, o, none⟩) n c) k xss) (hm : m ≤ n) : Sl W (.slice (some ⟨b, o + m * k, none⟩) (n - m) (c - m)) k (xss.drop m) := by
  obtain ⟨a', c', he, hs⟩ := h
  simp only [Value.slice.injEq] at he
  obtain ⟨rfl, rfl, rfl⟩ := he
  refine ⟨_, _, by rw [List.length_drop], ?_⟩
  rcases hs with rfl | ⟨b', o', e, hb, hc⟩
  · left; simp
  · simp only [Option.some.injEq, Addr.mk.injEq, and_true] at e
    obtain ⟨rfl, rfl⟩ := e
    right
    refine ⟨b, o + m * k, rfl, hb, fun i hi j hj => ?_⟩
    rw [List.length_drop] at hi
    have h2 := hc (m + i) (by omega) j hj
    rw [show o + m * k + i * k + j = o + (m + i) * k + j by rw [Nat.add_mul]; omega, h2, List.getD_eq_getElem?_getD, List.getD_eq_getElem?_getD, List.getElem?_drop]
theorem Sl.after {W : World} {a : Option Addr} {n c m : Nat} {xss : List (List Value)} (h : Sl W (.slice a n c) 1 xss) (hm : m ≤ n) (hc : n ≤ c) : Sl W (.slice (if c = m then a else a.map (·.add m)) (n - m) (c - m)) 1 (xss.drop m) := by
  by_cases hn : n = m
  · subst hn
    obtain ⟨a', c', he, -⟩ := h
    simp only [Value.slice.injEq] at he
    refine ⟨_, _, by rw [List.length_drop, he.2.1], .inl ?_⟩
    rw [he.2.1]; simp
  · rw [if_neg (by omega)]
    obtain ⟨a', c', he, hs⟩ := h
    simp only [Value.slice.injEq] at he
    obtain ⟨rfl, rfl, rfl⟩ := he
    rcases hs with rfl | ⟨b, o, rfl, hb, hcell⟩
    · exact absurd (show ([] : List (List Value)).length = m by simp only [List.length_nil] at hm ⊢; omega) hn
    · have := Sl.behind (W := W) (b := b) (o := o) (n := xss.length) (c := c) (k := 1) (m := m) ⟨_, _, rfl, .inr ⟨b, o, rfl, hb, hcell⟩⟩ hm
      rw [Nat.mul_one] at this
      by_cases h0 : m = 0
      · subst h0; simpa [Addr.add] using this
      · simpa [Addr.add, h0] using this
section
variable {P : Program} {ops : Array Oper} {Q : Exit → Act → World → Prop} {md : Region.Mode} {S : World → Prop}
def chainG (md : Region.Mode) (ops : Array Oper) (n : Nat) : Bool :=
  (List.range ops.size).all fun t => decide (t ≤ n) || (List.range t).any fun s => decide (n ≤ s) && Region.waitsFor md ops t s
theorem late_waits {n : Nat} {listed : Array Bool} (hs : Region.sinkB md ops n = true) (hc : chainG md ops n = true) (hn : n < ops.size) (inv : HeadInv md ops n listed) :
    ∀ (d i : Nat), n - i = d → i < n → listed.getD i true = false → ∀ t, n ≤ t → t ∉ Region.ready md ops listed := by
  intro d
  induction d using Nat.strongRecOn with
  | _ d ih =>
    intro i hd hi hun t ht hr
    obtain ⟨_, ot, hot, hall⟩ := mem_ready.1 hr
    have htlt : t < ops.size := (Array.getElem?_eq_some_iff.1 hot).1
    by_cases htn : t = n
    · subst htn
      have h1 := List.all_eq_true.1 hs i (List.mem_range.2 hi)
      obtain ⟨j, hj, hj2⟩ := List.any_eq_true.1 h1
      simp only [Bool.and_eq_true, decide_eq_true_eq] at hj2
      obtain ⟨oj, hoj, e, he, hb, hon⟩ := Region.waitsFor_spec hj2.2
      have hjle : j ≤ t := by have := List.mem_range.1 hj; omega
      by_cases hjt : j = t
      · subst hjt
        have : oj = ot := Option.some.inj (hoj.symm.trans hot)
        subst this
        have h2 := hall e he hb
        rw [hon, getD_both hun] at h2
        cases h2
      · cases hl : listed.getD j false with
        | true =>
          have h2 := inv.closed j oj hoj hl e he hb
          rw [hon, getD_both hun] at h2
          cases h2
        | false =>
          have hjs : j < listed.size := by rw [inv.size]; omega
          exact ih (t - j) (by omega) j rfl (by omega) (getD_in hjs hl) t (Nat.le_refl _) hr
    · have h1 := List.all_eq_true.1 hc t (List.mem_range.2 htlt)
      simp only [Bool.or_eq_true, decide_eq_true_eq] at h1
      rcases h1 with h1 | h1
      · omega
      · obtain ⟨s, hs1, hs2⟩ := List.any_eq_true.1 h1
        simp only [Bool.and_eq_true, decide_eq_true_eq] at hs2
        have hst := List.mem_range.1 hs1
        obtain ⟨o', ho', e, he, hb, hon⟩ := Region.waitsFor_spec hs2.2
        have : o' = ot := Option.some.inj (ho'.symm.trans hot)
        subst this
        have h2 := hall e he hb
        rw [hon, getD_both (inv.tail s hs2.1 (by omega))] at h2
        cases h2
def wpHb (P : Program) (md : Region.Mode) (ops : Array Oper) (Q : Exit → Act → World → Prop) (S : World → Prop) (n : Nat) (B : Array Bool → Act → World → Prop) : Nat → Array Bool → Act → World → Prop
  | 0, listed, a, w => (Region.ready md ops listed).all (fun j => decide (n ≤ j)) = true ∧ B listed a w
  | f + 1, listed, a, w => Region.ready md ops listed ≠ [] ∧ ∀ i ∈ Region.ready md ops listed, i < n ∧ wpOp P ops Q i (fun a' w' => S w' ∧ wpHb P md ops Q S n B f (listed.setIfInBounds i true) a' w') a w
theorem wpAny_of_hb {n g : Nat} {B : Array Bool → Act → World → Prop} (hB : ∀ L a w, B L a w → wpAny P md ops Q g L a w) : ∀ (f : Nat) (listed : Array Bool) (a : Act) (w : World), wpHb P md ops Q S n B f listed a w → wpAny P md ops Q (f + g) listed a w
  | 0, listed, a, w, h => by
    rw [Nat.zero_add]
    exact hB _ _ _ h.2
  | f + 1, listed, a, w, h => by
    rw [show f + 1 + g = (f + g) + 1 by omega]
    exact ⟨fun h0 => absurd h0 h.1, fun i hi => wpOp_mono (fun a' w' h' => wpAny_of_hb hB f _ a' w' h'.2) (h.2 i hi).2⟩
theorem wpHb_first {n i : Nat} {B : Array Bool → Act → World → Prop} {oi : Oper} {v : Value} (hi : ops[i]? = some oi) (hsel : ∀ (j : Nat) (o : Oper) cs b, ops[j]? = some o → o.op ≠ .select cs b)
    (hs : Region.sinkB md ops n = true) (hc : chainG md ops n = true) (hn : n < ops.size) (hin : i < n)
    (hQ : ∀ c a w, Q (.panic c) (a.put oi.dst v) w → Q (.panic c) a w) :
    ∀ (f : Nat) (listed : Array Bool) (a : Act) (w : World), HeadInv md ops n listed →
      (∀ j oj, ops[j]? = some oj → j ≠ i → listed.getD j true = false → (∀ e ∈ oj.after, Region.binds md e = true → e.on ≠ i) → oi.apart ops oj = true) →
      i ∈ Region.ready md ops listed → YieldsIf P ops S oi v a → S w →
      wpHb P md ops Q S n B f (listed.setIfInBounds i true) (a.put oi.dst v) w → wpHb P md ops Q S n B (f + 1) listed a w := by
  intro f
  induction f with
  | zero =>
    intro listed a w inv _ hr hy hS H
    have hun := (mem_ready.1 hr).1
    refine ⟨fun h => (by rw [h] at hr; cases hr), fun j hj => ?_⟩
    have hjn : j < n := by
      rcases Nat.lt_or_ge j n with h | h
      · exact h
      · exact absurd hj (late_waits hs hc hn inv _ i rfl hin hun j h)
    refine ⟨hjn, ?_⟩
    by_cases hji : j = i
    · subst hji; exact hy.wpOp hi hS ⟨hS, H⟩
    · have := of_decide_eq_true (List.all_eq_true.1 H.1 j (ready_mono hj hji))
      omega
  | succ f ih =>
    intro listed a w inv hfree hr hy hS H
    have hun := (mem_ready.1 hr).1
    refine ⟨fun h => (by rw [h] at hr; cases hr), fun j hj => ?_⟩
    have hjn : j < n := by
      rcases Nat.lt_or_ge j n with h | h
      · exact h
      · exact absurd hj (late_waits hs hc hn inv _ i rfl hin hun j h)
    refine ⟨hjn, ?_⟩
    by_cases hji : j = i
    · subst hji; exact hy.wpOp hi hS ⟨hS, H⟩
    · have h1 := (H.2 j (ready_mono hj hji)).2
      obtain ⟨hjun, oj, hoj, hall⟩ := mem_ready.1 hj
      have hnot : ∀ e ∈ oj.after, Region.binds md e = true → e.on ≠ i := fun e he hb heq => by
        have h1 := hall e he hb
        rw [heq, getD_both hun] at h1
        cases h1
      have h2 := wpOp_putIf hoj (hfree j oj hoj hji hjun hnot) (fun cs b => hsel i oi cs b hi) (fun cs b => hsel j oj cs b hoj) hQ hy h1
      have hfree' : ∀ k ok, ops[k]? = some ok → k ≠ i → (listed.setIfInBounds j true).getD k true = false →
          (∀ e ∈ ok.after, Region.binds md e = true → e.on ≠ i) → oi.apart ops ok = true := fun k ok hk hki hun hno => by
        refine hfree k ok hk hki ?_ hno
        by_cases hjk : j = k
        · subst hjk; exact hjun
        · rw [getD_set_ne true hjk] at hun; exact hun
      refine wpOp_mono (fun a' w' h3 => ⟨h3.2.1, ih (listed.setIfInBounds j true) a' w' (inv.set hj hjn) hfree' (ready_mono hr (Ne.symm hji)) h3.1 h3.2.1 ?_⟩) h2
      rw [Array.setIfInBounds_comm _ _ hji]
      exact h3.2.2
def headG (md : Region.Mode) (ops : Array Oper) (n : Nat) (listed : Array Bool) : Bool :=
  decide (listed.size = ops.size) && decide (n < ops.size) && Region.noSelect ops && Region.sinkB md ops n && chainG md ops n &&
  ((List.range ops.size).all fun j => !(listed.getD j false) || ((ops[j]?).map (·.after.all fun e => !Region.binds md e || listed.getD e.on false)).getD true) &&
  ((List.range ops.size).all fun t => decide (t < n) || !(listed.getD t true))
theorem headG_spec {n : Nat} {listed : Array Bool} (h : headG md ops n listed = true) :
    n < ops.size ∧ Region.noSelect ops = true ∧ Region.sinkB md ops n = true ∧ chainG md ops n = true ∧ HeadInv md ops n listed := by
  unfold headG at h
  simp only [Bool.and_eq_true, decide_eq_true_eq] at h
  obtain ⟨⟨⟨⟨⟨⟨h1, h2⟩, h3⟩, h4⟩, h5⟩, h6⟩, h7⟩ := h
  refine ⟨h2, h3, h4, h5, h1, ?_, ?_⟩
  · intro j oj hj hl e he hb
    have hjl : j < ops.size := (Array.getElem?_eq_some_iff.1 hj).1
    have := List.all_eq_true.1 h6 j (List.mem_range.2 hjl)
    rw [hl, hj] at this
    simp only [Bool.not_true, Bool.false_or, Option.map_some, Option.getD_some] at this
    have h8 := Array.all_eq_true'.1 this e he
    rw [hb] at h8
    simpa using h8
  · intro t ht htl
    have := List.all_eq_true.1 h7 t (List.mem_range.2 htl)
    rw [decide_eq_false (by omega)] at this
    simpa using this
theorem wpHb_take {n i : Nat} {B : Array Bool → Act → World → Prop} {oi : Oper} {v : Value} {f : Nat} {listed : Array Bool} {a : Act} {w : World} (hi : ops[i]? = some oi)
    (hB : headG md ops n listed = true) (hf : Region.free md ops listed i = true) (hr : ((Region.ready md ops listed).contains i && decide (i < n)) = true)
    (hQ : ∀ c a w, Q (.panic c) (a.put oi.dst v) w → Q (.panic c) a w) (hy : YieldsIf P ops S oi v a) (hS : S w)
    (h : wpHb P md ops Q S n B f (listed.setIfInBounds i true) (a.put oi.dst v) w) : wpHb P md ops Q S n B (f + 1) listed a w := by
  obtain ⟨hn, hsel, hs, hc, inv⟩ := headG_spec hB
  simp only [Bool.and_eq_true, decide_eq_true_eq] at hr
  exact wpHb_first hi (Region.noSelect_spec hsel) hs hc hn hr.2 hQ f listed a w inv (Region.free_spec hi hf) (by simpa using hr.1) hy hS h
theorem wpHb_done {n : Nat} {B : Array Bool → Act → World → Prop} {listed : Array Bool} {a : Act} {w : World} (hr : (Region.ready md ops listed).all (fun j => decide (n ≤ j)) = true) (h : B listed a w) : wpHb P md ops Q S n B 0 listed a w := ⟨hr, h⟩
theorem wp_region_heads (n g m : Nat) (S S2 : World → Prop) {id : Nat} {a : Act} {w : World} (hm : P.follows .mixedOrders = true) (hn : (decide (n + g = m) && decide (m < ops.size)) = true)
    (h : wpHb P .any ops Q S n (wpHd P .any ops Q S2 m g) n (Array.replicate ops.size false) a w.drew) : (Code.region id ops true).wp P Q a w := by
  simp only [Bool.and_eq_true, decide_eq_true_eq] at hn
  have h2 := wpAny_of_hb (fun L a w => wpAny_of_hd g L a w) _ _ _ _ h
  rw [show n + (g + (ops.size - m)) = ops.size by omega] at h2
  exact wp_region_any hm h2
end
theorem HG.wpHb_takeD {P : Program} {ops : Array Oper} {Q : Exit → Act → World → Prop} {md : Region.Mode} {S : World → Prop} {n i : Nat} {B : Array Bool → Act → World → Prop} {oi : Oper} {d : Option Tmp} {v : Value} {f : Nat} {listed : Array Bool} {a : Act} {w : World} (hi : ops[i]? = some oi) (hd : oi.dst = d)
    (hB : headG md ops n listed = true) (hf : Region.free md ops listed i = true) (hr : ((Region.ready md ops listed).contains i && decide (i < n)) = true)
    (hQ : ∀ c a w, Q (.panic c) (a.put d v) w → Q (.panic c) a w) (hy : YieldsIf P ops S oi v a) (hS : S w)
    (h : wpHb P md ops Q S n B f (listed.setIfInBounds i true) (a.put d v) w) : wpHb P md ops Q S n B (f + 1) listed a w := by
  subst hd
  exact wpHb_take hi hB hf hr hQ hy hS h
end Go.Proofs.YtjnafppkbhldlaaGreat
