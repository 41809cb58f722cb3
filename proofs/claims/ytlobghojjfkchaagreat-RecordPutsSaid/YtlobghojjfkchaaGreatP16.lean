/-
The program's cell: Take.
-/
import Derived.RangeFuncNested
import Derived.RangeFuncBound
import Derived.RangeFuncCalls
import Derived.RangeFuncLeaves
import Derived.RangeFuncBox
import Derived.Shelf.Abstract
import Derived.Shelf.RegionOpen
import Derived.OwnWalkIn
import Derived.TacticsInMore
import Derived.LoopNIn
import Derived.LoopIn
import Derived.Maps.AppendAt
import Derived.ProofKit
import Derived.OpenShut
import Derived.Deep.Slices
import Derived.Carry
import Derived.Test.YtlobghojjfkchaaGreatP15
namespace Go.Proofs.YtlobghojjfkchaaGreat
open Go.RowKit

end Go.Proofs.YtlobghojjfkchaaGreat


/-
The walk through the large cells of a row, for every loop body; the program's Holes and Texts.
-/
namespace Go.Proofs.YtlobghojjfkchaaGreat
open Go.RowKit Go.Shelf
attribute [local go_sem] Oper.semAt_some

/-- What a large cell is handed out as. -/
def encL (x : Nat × ByteArray) : Array Value := #[.int .i64 (x.1 : Int), .string x.2]

theorem grow_of_ext {W W' : World} (h : Ext W W') : W.grownBy W' none := ⟨h.os, h.tape, h.output, h.size, fun k hk _ => h.block k hk⟩

set_option maxRecDepth 100000 in
set_option maxHeartbeats 2000000 in
theorem large1_in (n : Nat) (hn : 1 ≤ n) (l Bs : Nat) (w0 : World) (a : Option Addr) (cap : Nat) (ls : List K) (hlen : ls.length ≤ 1000) (hl : Hid (Sl w0 (.slice a ls.length cap) 5 (ls.map K.pc)))
    (J Jx : List (Nat × ByteArray) → World → Prop) (W0 : World) (hJ : Hid (AbidesFrom W0.heap.size J))
    (hY : Hid (∀ pre x W, J pre W → pre.length < ls.length → YieldAt Fence.wide (n - 1) Tryz.prog l (encL x) W fun e W' => (e = .returned (.bool true) ∧ J (pre ++ [x]) W' ∧ Below w0.heap.size W W') ∨ (e = .returned (.bool false) ∧ Jx (pre ++ [x]) W')))
    (hE : Hid (Ext w0 W0)) (hBs : W0.cell? ⟨Bs, 0, none⟩ = some (.slice a ls.length cap)) (h0 : Hid (J [] W0)) :
    CallsIn Fence.wide n Tryz.prog 135 #[.func (.yield l) #[] #[], .pointer (some ⟨Bs, 0, none⟩)] W0 fun e W' => (∃ v, e = .returned v) ∧
      ((∃ ys, ys = larges ls ls.length ∧ J ys W') ∨ (∃ pre, (∃ k, k ≤ ls.length ∧ pre = larges ls k) ∧ Jx pre W')) := by
  have hfw : Fence.wide.fn 136 := trivial
  refine callsIn_of_wp Tryz.func135 rfl trivial ?_ rfl
  simp only [Tryz.ntmps135, List.size_toArray, List.length_cons, List.length_nil, Nat.reduceAdd, Nat.reduceSub, Array.replicate_succ, Array.replicate_zero, List.push_toArray, List.append_toArray, List.nil_append, List.cons_append]
  gi_wp2
  gi_loopw [7] (fun i wr => ∃ k : Nat, k ≤ ls.length ∧ i = .int .i64 k ∧ Hid (J (larges ls k) wr) ∧ Hid (Ext w0 wr)) (fun i _ => ls.length - (intOf i).toNat)
  case atStart => exact ⟨0, Nat.zero_le _, rfl, h0, hE⟩
  case round =>
    obtain ⟨k, hk, rfl, hJs, hEw⟩ := hrel
    by_cases hlt : k < ls.length
    · obtain ⟨b, o, rfl, hb, hx⟩ := hl.out.at_ (i := k) (by simpa using hlt)
      obtain ⟨f0, f1, f2, f3, f4⟩ := K.pcAt hlt hx hb hEw.out
      have HLG := Hid.mk' (fun W => callsIn_wide (n := n - 1).2 (clarge_any ls[k].k ls[k].v.ty ls[k].v.n ls[k].v.x ls[k].v.y ls[k].v.s W))
      have hkl := larges_len ls k
      have HB5 := Hid.mk' (fun (c : K) => Blk.new wr #[.int .u8 c.k, .int .u8 c.v.ty, .int .i64 c.v.n, .complex .f64 c.v.x c.v.y, .string c.v.s] 195)
      clear hx
      cases hq : largeB ls[k].k ls[k].v.ty ls[k].v.s with
      | true =>
        have HU := Hid.mk' (larges_yes hlt hq)
        rw [hq] at HLG
        obtain ⟨c, hc⟩ : ∃ c, c = ls[k] := ⟨_, rfl⟩
        rw [← hc] at f0 f1 f2 f3 f4 HLG HU
        clear hc hq
        gi_wp2_with (gi_at_call 136; refine (HLG.out _).mono ?_; rintro e w1 ⟨rfl, hb1⟩; obtain ⟨fn, tmps, assign, body, hy, hR⟩ := hY.out (larges ls k) (k, c.v.s) w1 (hJ.out _ _ _ none (hJ.out _ _ _ none hJs.out (World.grownBy_alloc _ _ none) (by simp)) (grow_of_ext hb1) (by simp)) (by omega); simp only [encL] at hy; have g5 := ((HB5.out c).ext hb1).cell; have z5 := ((HB5.out c).ext hb1).lt)
        refine hR.mono ?_
        rintro e W3 (⟨rfl, hJ3, hk3⟩ | ⟨rfl, hJx3⟩)
        · gi_wp2
          go_roundw
          case rel => exact ⟨k + 1, by omega, by go_num, Hid.mk' (by rw [HU.out]; exact hJ3), Hid.mk' (Below.trans ((hEw.out.alloc _).trans hb1) hk3)⟩
          case measure => simp [intOf]; omega
        · gi_wp2
          refine bodyPost_ret (results_none rfl _ _ _) rfl ?_
          exact ⟨⟨_, rfl⟩, .inr ⟨_, ⟨k + 1, by omega, HU.out.symm⟩, hJx3⟩⟩
      | false =>
        have HU := Hid.mk' (larges_no hlt hq)
        rw [hq] at HLG
        obtain ⟨c, hc⟩ : ∃ c, c = ls[k] := ⟨_, rfl⟩
        rw [← hc] at f0 f1 f2 f3 f4 HLG
        clear hc hq
        gi_wp2_with (gi_at_call 136; refine (HLG.out _).mono ?_; rintro e w1 ⟨rfl, hb1⟩; have HJ1 := Hid.mk' (hJ.out _ _ _ none (hJ.out _ _ _ none hJs.out (World.grownBy_alloc _ _ none) (by simp)) (grow_of_ext hb1) (by simp)))
        all_goals try (refine ⟨fun _ h => (by cases h), ?_⟩)
        gi_wp2
        go_roundw
        case rel => exact ⟨k + 1, by omega, by go_num, Hid.mk' (by rw [HU.out]; exact HJ1.out), Hid.mk' ((hEw.out.alloc _).trans hb1)⟩
        case measure => simp [intOf]; omega
    · obtain rfl : k = ls.length := by omega
      gi_wp2
      go_end0
      exact ⟨⟨_, rfl⟩, .inl ⟨_, rfl, hJs.out⟩⟩

theorem large_stops (n : Nat) (hn : 1 ≤ n) (Bs : Nat) (w0 : World) (a : Option Addr) (cap : Nat) (ls : List K) (hlen : ls.length ≤ 1000) (hl : Sl w0 (.slice a ls.length cap) 5 (ls.map K.pc))
    (w : World) (hE : Ext w0 w) (hBs : w.cell? ⟨Bs, 0, none⟩ = some (.slice a ls.length cap)) (hB : Bs < w.heap.size) :
    SeqStopsK Fence.wide n Tryz.prog 135 #[.pointer (some ⟨Bs, 0, none⟩)] encL (Below w0.heap.size) (fun ys => ys = larges ls ls.length) (fun pre => ∃ k, k ≤ ls.length ∧ pre = larges ls k) ls.length w := fun l J Jx W hW hJ _ hY h0 =>
  large1_in n hn l Bs w0 a cap ls hlen hl J Jx W hJ hY (Below.trans hE (hW.mono hE.size)) ((hW.cell (p := ⟨Bs, 0, none⟩) hB).trans hBs) h0

set_option maxHeartbeats 1000000 in
theorem large_in (n : Nat) (a : Option Addr) (len cap : Nat) (w : World) :
    CallsIn Fence.wide n Tryz.prog 92 #[.slice a len cap] w fun e w' => e = .returned (.func (.func 135) #[] #[.pointer (some ⟨w.heap.size, 0, none⟩)]) ∧ w' = w.alloc (.cells #[.slice a len cap] 47) := by
  refine callsIn_of_wp Tryz.func92 rfl trivial ?_ rfl
  simp only [Tryz.ntmps92, List.size_toArray, List.length_cons, List.length_nil, Nat.reduceAdd, Nat.reduceSub, Array.replicate_succ, Array.replicate_zero, List.push_toArray, List.append_toArray, List.nil_append, List.cons_append]
  gi_wp2
  go_ret
  exact ⟨rfl, rfl⟩

theorem Tryz.infoStr : (Tryz.prog.info? 9).map (fun i => (i.zero, i.size, i.bytes)) = some (some (.string ByteArray.empty), 1, 16) := by kernel_rfl
theorem holes_snoc (pre : List (Nat × ByteArray)) (x : Nat × ByteArray) : ((pre ++ [x]).map holeC).flatten = (pre.map holeC).flatten ++ holeC x := by simp
theorem texts_snoc (pre : List (Nat × ByteArray)) (x : Nat × ByteArray) : ((pre ++ [x]).map textC).flatten = (pre.map textC).flatten ++ textC x := by simp

set_option maxRecDepth 100000 in
set_option maxHeartbeats 2000000 in
theorem texts_in (n : Nat) (hn : 3 ≤ n) (ls : List K) (a : Option Addr) (cap : Nat) (w : World) (hl : Sl w (.slice a ls.length cap) 5 (ls.map K.pc)) (hlen : ls.length ≤ 1000) :
    CallsIn Fence.wide n Tryz.prog 45 #[.slice a ls.length cap] w fun e W' => ∃ v, e = .returned v ∧ W'.ownsRow w.heap.size 9 1 v (larges ls ls.length).length (((larges ls ls.length).map textC).flatten) ∧ Ext w W' := by
  have h1 : 1 ≤ n := by omega
  obtain ⟨i0, hi, hz0, hz1, hz2⟩ := info_parts Tryz.infoStr
  have hfw : Fence.wide.fn 92 := trivial
  refine callsIn_of_wp_marks Tryz.func45 rfl trivial ?_ rfl
  simp only [Tryz.ntmps45, List.size_toArray, List.length_cons, List.length_nil, Nat.reduceAdd, Nat.reduceSub, Array.replicate_succ, Array.replicate_zero, List.push_toArray, List.append_toArray, List.nil_append, List.cons_append]
  gi_wp2_with (gi_at_call 92; refine (large_in (n - 1) _ _ _ _).mono ?_; rintro e w' ⟨rfl, rfl⟩)
  have bO := Boxed.new w 41 (.slice none 0 0)
  have bN := Boxed.new (w.alloc (.cells #[.slice none 0 0] 41)) 47 (.slice a ls.length cap)
  rw [World.size_alloc] at bN
  have hB0 : Ext w ((w.alloc (.cells #[.slice none 0 0] 41)).alloc (.cells #[.slice a ls.length cap] 47)) := ((Ext.refl w).alloc _).alloc _
  refine wpIn_rangeFunc_ownG rfl h1 (gf := 135) (lb := #[.pointer (some ⟨w.heap.size + 1, 0, none⟩)]) rfl trivial (enters_of Tryz.func135 (by kernel_rfl) rfl)
    (large_stops (n - 1) (by omega) (w.heap.size + 1) w a cap ls hlen hl _ hB0 bN.cell (by simp)) belowK_t (belowK_b (by simp; omega)) (Below.refl _ _) (fun _ => rfl)
    (fun (pre : List (Nat × ByteArray)) W => (∃ v, Boxed W w.heap.size 41 v ∧ W.ownsRow w.heap.size 9 1 v pre.length ((pre.map textC).flatten) ∧ True) ∧ Below w.heap.size w W)
    (fun _ _ _ => False)
    (OwnFrom.and (Own.from (holdsRow_own w.heap.size w.heap.size 41 9 1 (fun (pre : List (Nat × ByteArray)) => pre.length) (fun (pre : List (Nat × ByteArray)) => (pre.map textC).flatten) (fun _ _ => True)) _) (ownFrom_below (Nat.le_refl _) (by simp; omega)))
    (fun _ _ _ _ _ hs _ _ => hs)
    ⟨⟨_, bO.alloc _, World.ownsRow_nil _ _ _ _, trivial⟩, hB0⟩
    (fun x => { tmps := #[.slice a ls.length cap, undef, .slice none 0 0, .pointer (some ⟨w.heap.size, 0, none⟩), undef, .string x.2, .slice a ls.length cap, .func (.func 135) #[] #[.pointer (some ⟨w.heap.size + 1, 0, none⟩)], .int .i64 (x.1 : Int), .string x.2, undef, undef, undef, undef, undef], defers := [] }) ?assign ?body ?done ?stop
  case assign =>
    intro l x W K hK
    unfold encL
    rw [fold_two]
    gi_wp2
    exact hK
  case body =>
    rintro l pre x W ⟨⟨v, hv, hrow, -⟩, hB⟩ hlt
    have hc := hv.cell
    gi_wp2_with (gi_at_builtin; refine wpListIn_append_own _ rfl _ _ 41 rfl w.heap.size 9 i0 _ 1 16 Tryz.underlying41 hi hz0 hz1 hz2 rfl (by decide) _ _ _ rfl (hrow.alloc _) ⟨W.heap.size, 0, none⟩ 1 1 (textC x) rfl rfl (cells_new _ #[.string x.2] _) (by intro u hu; simp [textC] at hu; subst hu; rfl) (by unfold maxLen; omega) (by omega) (by have := hB.size; simp; omega) ?_; intro v' w1 hown' hgrow _; obtain ⟨g', cap', rfl⟩ := ownsRow_succ hown'; obtain ⟨hv1, hv2, hr2, hk2, hb2⟩ := hv.appended (by decide) hrow hB.size (Nat.le_refl _) hown' hgrow; have hc1 := hv1.cell; have hf1 := hv1.frozen)
    exact ⟨hk2.from _, hb2, ⟨_, hv2, by rw [texts_snoc]; simpa using hr2, trivial⟩, hB.trans hb2⟩
  case done =>
    rintro D ys W hD rfl ⟨⟨v, hv, hrow, -⟩, hB⟩ hK
    have hc := hv.cell
    gi_wp2
    refine ⟨by simp, .inl ⟨_, _, rfl, run_takeDeferred hK, ?_⟩⟩
    exact ⟨_, results_tmp rfl _ _ _, v, rfl, ownsRow_putObj hrow _ hK rfl, hB.trans (belowK_b (w := w) (Nat.le_refl _) W D _ _ (by simp at hD; omega) hK rfl rfl)⟩
  case stop =>
    rintro D c pre W _ _ h _
    exact h.elim

/-- The holes of a row. -/
def hoL (l : List K) : List Ho := (larges l l.length).map fun x => ⟨(x.1 : Int), (x.2.size : Int)⟩
def txL (l : List K) : List ByteArray := (larges l l.length).map Prod.snd
theorem hoL_len (l : List K) : (hoL l).length = (larges l l.length).length := by simp [hoL]
theorem txL_len (l : List K) : (txL l).length = (larges l l.length).length := by simp [txL]
theorem hoL_cells (l : List K) : (hoL l).map Ho.cells = (larges l l.length).map holeC := by simp [hoL, Ho.cells, holeC, Function.comp_def]
theorem txL_cells (l : List K) : (txL l).map strC = (larges l l.length).map textC := by simp [txL, strC, textC, Function.comp_def]
end Go.Proofs.YtlobghojjfkchaaGreat

/-
The reference's cell: Large.
-/
namespace Go.Proofs.YtlobghojjfkchaaGreat
open Go.RowKit

set_option maxRecDepth 100000 in set_option maxHeartbeats 1600000 in
theorem rclarge_any (k ty n x y : Int) (s : ByteArray) (w : World) :
    Calls Tryz.prog 101 #[.agg #[.int .u8 k, .int .u8 ty, .int .i64 n, .int .u64 x, .int .u64 y, .string s]] w fun e w' => e = .returned (.bool (largeB k ty s)) ∧ Ext w w' := by
  by_cases hk : k = 2
  · subst hk
    by_cases ht : ty = 5 ∨ ty = 6
    · have hL : Hid (largeB 2 ty s = decide (64 < s.size)) := Hid.mk' (by unfold largeB; exact decide_eq_decide.2 ⟨fun h => h.2.2, fun h => ⟨rfl, ht, h⟩⟩)
      have HT := Hid.mk' (fun w => rtexty_yes ty w ht)
      clear ht
      go_enter Tryz.func101, Tryz.ntmps101
      go_wp2_with (go_at_call 148; refine (HT.out _).mono ?_; rintro e w1 ⟨rfl, rfl⟩)
      go_ret
      exact ⟨ret_bool (by rw [hL.out]; first | rfl | (apply decide_eq_decide.2; omega)), by exact eX⟩
    · have hL : Hid (largeB 2 ty s = false) := Hid.mk' (by unfold largeB; rw [decide_eq_false_iff_not]; exact fun h => ht h.2.1)
      have HT := Hid.mk' (fun w => rtexty_no ty w (by omega))
      clear ht
      go_enter Tryz.func101, Tryz.ntmps101
      go_wp2_with (go_at_call 148; refine (HT.out _).mono ?_; rintro e w1 ⟨rfl, rfl⟩)
      go_ret
      exact ⟨ret_bool hL.out.symm, by exact eX⟩
  · have hL : Hid (largeB k ty s = false) := Hid.mk' (by unfold largeB; rw [decide_eq_false_iff_not]; exact fun h => hk h.1)
    have hk2 : (k == 2) = false := by simpa using hk
    clear hk
    go_enter Tryz.func101, Tryz.ntmps101
    go_wp2
    go_ret
    exact ⟨ret_bool hL.out.symm, by exact eX⟩

end Go.Proofs.YtlobghojjfkchaaGreat


/-
The reference's holes of a row and their texts; the laws' comparison of holes.
-/
namespace Go.Proofs.YtlobghojjfkchaaGreat
open Go.RowKit

theorem owns_grown2 {w w1 : World} {row : Option Nat} {base : Nat} {e : TypeId} {size n : Nat} {v : Value} {xs : List Value} (h : w.ownsRow base e size v n xs) (hg : w.grownBy w1 row) (hne : ∀ g, v.ownBlock = some g → row ≠ some g) : w1.ownsRow base e size v n xs := by
  obtain ⟨h1, h2⟩ := h
  refine ⟨h1, ?_⟩
  rcases h2 with h2 | ⟨g, cap, cur, hv, hb, hh, hr⟩
  · exact .inl h2
  · have hlt : g < w.heap.size := Blk.lt (b := g) hh
    exact .inr ⟨g, cap, cur, hv, hb, (hg.block g hlt (fun e => hne g (by rw [hv]; rfl) e.symm)).trans hh, hr⟩
/-- Rows of two types lie in two blocks. -/
theorem owns_apart {w : World} {b1 b2 : Nat} {e1 e2 : TypeId} {s1 s2 n1 n2 : Nat} {v1 v2 : Value} {x1 x2 : List Value} (h1 : w.ownsRow b1 e1 s1 v1 n1 x1) (h2 : w.ownsRow b2 e2 s2 v2 n2 x2) (hne : e1 ≠ e2) : ∀ g, v1.ownBlock = some g → v2.ownBlock ≠ some g := by
  intro g hg hg2
  rcases h1.2 with ⟨rfl, -⟩ | ⟨k1, c1, r1, rfl, -, q1, -⟩
  · simp [Value.ownBlock] at hg
  · rcases h2.2 with ⟨rfl, -⟩ | ⟨k2, c2, r2, rfl, -, q2, -⟩
    · simp [Value.ownBlock] at hg2
    · simp [Value.ownBlock] at hg hg2
      subst hg hg2
      rw [q1] at q2
      simp at q2
      exact hne q2.2

theorem Tryz.infoHoleR : (Tryz.prog.info? 160).map (fun i => (i.zero, i.size, i.bytes)) = some (some (.agg #[.int .i64 0, .int .i64 0]), 2, 16) := by kernel_rfl

set_option maxRecDepth 100000 in set_option maxHeartbeats 4000000 in
theorem rholes_any (l : List K) (a : Option Addr) (cap : Nat) (w : World) (hl : Sl w (.slice a l.length cap) 6 (l.map K.rc)) (hlen : l.length ≤ 1000) :
    Calls Tryz.prog 54 #[.slice a l.length cap] w fun e w' => ∃ a1 c1 a2 c2, e = .returned (.tuple #[.slice a1 (hoL l).length c1, .slice a2 (txL l).length c2]) ∧ Sl w' (.slice a1 (hoL l).length c1) 2 ((hoL l).map Ho.cells) ∧ Sl w' (.slice a2 (txL l).length c2) 1 ((txL l).map strC) ∧ Ext w w' := by
  have HL := Hid.mk' hl
  clear hl
  obtain ⟨i0, hi, hz0, hz1, hz2⟩ := info_parts Tryz.infoHoleR
  obtain ⟨j0, hj, hy0, hy1, hy2⟩ := info_parts Tryz.infoStr
  go_enter Tryz.func54, Tryz.ntmps54
  go_wp2
  go_loopw [4, 5, 6] (fun v u i wr => ∃ k : Nat, k ≤ l.length ∧ i = .int .i64 k ∧ Hid (wr.ownsRow w.heap.size 160 2 v (larges l k).length (((larges l k).map holeC).flatten)) ∧ Hid (wr.ownsRow w.heap.size 9 1 u (larges l k).length (((larges l k).map textC).flatten)) ∧ Hid (Ext w wr)) (fun _ _ i _ => l.length - (intOf i).toNat)
  case atStart => exact ⟨0, Nat.zero_le _, rfl, World.ownsRow_nil _ _ _ _, World.ownsRow_nil _ _ _ _, Ext.refl _⟩
  case round =>
    obtain ⟨k, hk, rfl, hown, hown2, hE⟩ := hrel
    by_cases hlt : k < l.length
    · obtain ⟨b, o, rfl, hb, hx⟩ := HL.out.at_ (i := k) (by simpa using hlt)
      obtain ⟨f0, f1, f2, f3, f4, f5⟩ := K.rcAt hlt hx hb hE.out
      have hbw : b < wr.heap.size := Nat.lt_of_lt_of_le hb hE.out.size
      have HLG := Hid.mk' (fun W => rclarge_any l[k].k l[k].v.ty l[k].v.n l[k].v.x l[k].v.y l[k].v.s W)
      have hkl := larges_len l k
      have HXX := Hid.mk' (fun W (h : Ext w W) => (K.rcAt hlt hx hb h).2.2.2.2.2)
      clear hx
      cases hq : largeB l[k].k l[k].v.ty l[k].v.s with
      | false =>
        have HU := Hid.mk' (larges_no hlt hq)
        rw [hq] at HLG
        obtain ⟨c, hc⟩ : ∃ c, c = l[k] := ⟨_, rfl⟩
        rw [← hc] at f0 f1 f2 f3 f4 f5 HLG
        clear hc hq
        go_wp2_with (go_at_call 101; refine (HLG.out _).mono ?_; rintro e w1 ⟨rfl, hb1⟩)
        go_roundw
        case rel => exact ⟨k + 1, by omega, by go_num, Hid.mk' (by rw [HU.out]; exact owns_ext hown.out (by exact eX)), Hid.mk' (by rw [HU.out]; exact owns_ext hown2.out (by exact eX)), Hid.mk' (hE.out.trans (by exact eX))⟩
        case measure => simp [intOf]; omega
      | true =>
        have HU := Hid.mk' (larges_yes hlt hq)
        rw [hq] at HLG
        obtain ⟨c, hc⟩ : ∃ c, c = l[k] := ⟨_, rfl⟩
        rw [← hc] at f0 f1 f2 f3 f4 f5 HLG HU HXX
        clear hc hq
        obtain ⟨x, hx⟩ : ∃ x : Nat × ByteArray, x = (k, c.v.s) := ⟨_, rfl⟩
        rw [← hx] at HU
        have HX := Hid.mk' hx
        clear hx
        go_wp2_with (first
          | (go_at_call 101; refine (HLG.out _).mono ?_; rintro e w1 ⟨rfl, hb1⟩; have hE_w1 : Ext (wr) w1 := (by exact eX); obtain ⟨hc_w1, hf_w1⟩ := hE_w1.cells; have hz_w1 := hE_w1.size; have HB1 := Hid.mk' hb1; clear hb1)
          | (at_builtin; refine wpList_append_own _ rfl _ _ 81 rfl w.heap.size 160 i0 _ 2 16 Tryz.underlying81 hi hz0 hz1 hz2 rfl (by decide) _ _ _ rfl ((owns_ext hown.out HB1.out).alloc _) ⟨_, 0, none⟩ 1 1 (holeC (k, c.v.s)) rfl rfl ?c1 ?c2 ?c3 ?c4 ?c5 ?_))
        case c1 => exact cells_new _ #[.int .i64 (k : Int), .int .i64 (c.v.s.size : Int)] _
        case c2 => intro u hu; simp [holeC] at hu; rcases hu with rfl | rfl <;> rfl
        case c3 => unfold maxLen; omega
        case c4 => omega
        case c5 => have := (hE.out.trans HB1.out).size; simp; omega
        intro v' w2 hown' hgrow _
        have hA1 := (owns_ext hown.out HB1.out).alloc (.cells #[.int .i64 (k : Int), .int .i64 (c.v.s.size : Int)] 160)
        have hA2 := (owns_ext hown2.out HB1.out).alloc (.cells #[.int .i64 (k : Int), .int .i64 (c.v.s.size : Int)] 160)
        have HO2 := Hid.mk' (owns_grown2 hA2 hgrow (fun g hg e => owns_apart hA1 hA2 (by decide) g e hg))
        have HE2 := Hid.mk' (((hE.out.trans HB1.out).alloc (.cells #[.int .i64 (k : Int), .int .i64 (c.v.s.size : Int)] 160)).grown hA1 hgrow)
        have HO1 := Hid.mk' hown'
        have q5 := HXX.out w2 HE2.out
        have hbw2 : b < w2.heap.size := Nat.lt_of_lt_of_le hb HE2.out.size
        clear hown' hgrow hA1 hA2 HB1 f0 f1 f2 f3 f4 f5 hE_w1 hc_w1 hf_w1 hz_w1
        go_wp2_with (at_builtin; refine wpList_append_own _ rfl _ _ 41 rfl w.heap.size 9 j0 _ 1 16 Tryz.underlying41 hj hy0 hy1 hy2 rfl (by decide) _ _ _ rfl (HO2.out.alloc _) ⟨_, 0, none⟩ 1 1 (textC (k, c.v.s)) rfl rfl ?d1 ?d2 ?d3 ?d4 ?d5 ?_)
        case d1 => exact cells_new _ #[.string c.v.s] _
        case d2 => intro u hu; simp [textC] at hu; subst hu; rfl
        case d3 => unfold maxLen; omega
        case d4 => omega
        case d5 => have := HE2.out.size; simp; omega
        intro u' w3 hown' hgrow _
        have hA1 := (HO1.out).alloc (.cells #[.string c.v.s] 9)
        have hA2 := (HO2.out).alloc (.cells #[.string c.v.s] 9)
        have HP1 := Hid.mk' (owns_grown2 hA1 hgrow (fun g hg e => owns_apart hA1 hA2 (by decide) g hg e))
        have HE3 := Hid.mk' ((HE2.out.alloc (.cells #[.string c.v.s] 9)).grown hA2 hgrow)
        have HP2 := Hid.mk' hown'
        clear hown' hgrow hA1 hA2 HO1 HO2 HE2
        go_wp2
        go_roundw
        case rel => exact ⟨k + 1, by omega, by go_num, Hid.mk' (by rw [HU.out, HX.out, holes_snoc, List.length_append]; exact HP1.out), Hid.mk' (by rw [HU.out, HX.out, texts_snoc, List.length_append]; exact HP2.out), HE3⟩
        case measure => simp [intOf]; omega
    · have hkk : k = l.length := by omega
      subst hkk
      obtain ⟨a1, c1, rfl⟩ := owns_shape hown.out
      obtain ⟨a2, c2, rfl⟩ := owns_shape hown2.out
      go_wp2
      go_ret2
      rw [hoL_len, hoL_cells, txL_len, txL_cells]
      exact ⟨a1, c1, a2, c2, rfl, Sl.of_owns (base := w.heap.size) (e := 160) (by rw [List.length_map]; exact hown.out) (by intro xs hxs; simp at hxs; obtain ⟨_, _, _, rfl⟩ := hxs; rfl), Sl.of_owns (base := w.heap.size) (e := 9) (by rw [List.length_map]; exact hown2.out) (by intro xs hxs; simp at hxs; obtain ⟨_, _, _, rfl⟩ := hxs; rfl), hE.out⟩

end Go.Proofs.YtlobghojjfkchaaGreat

/-
The next row of a relation: the program's Take.
-/
namespace Go.Proofs.YtlobghojjfkchaaGreat
open Go.RowKit

def TkPost (R : (List K × List Ho) × RS) (g d : Nat) (w : World) (e : Ending) (w' : World) : Prop :=
  ∃ a1 c1 a2 c2, e = .returned (.tuple #[.slice a1 R.1.1.length c1, .slice a2 R.1.2.length c2]) ∧ Sl w' (.slice a1 R.1.1.length c1) 5 (R.1.1.map K.pc) ∧ Sl w' (.slice a2 R.1.2.length c2) 2 (R.1.2.map Ho.cells) ∧
    (∀ k o, a1 = some ⟨k, o, none⟩ → w.heap.size ≤ k) ∧ (∀ k o, a2 = some ⟨k, o, none⟩ → w.heap.size ≤ k) ∧ RD w' g d R.2 ∧ Tch g w w'
theorem TkPost.bad {R : (List K × List Ho) × RS} {S : RS} {g d : Nat} {w w' : World} (h : R = (([], []), S)) (hr : RD w' g d S) (ht : Tch g w w') : TkPost R g d w (.returned (.tuple #[.slice none 0 0, .slice none 0 0])) w' := by
  subst h
  exact ⟨none, 0, none, 0, rfl, ⟨none, 0, rfl, .inl rfl⟩, ⟨none, 0, rfl, .inl rfl⟩, (fun _ _ e => by cases e), (fun _ _ e => by cases e), hr, ht⟩
end Go.Proofs.YtlobghojjfkchaaGreat

/-
The two ways to take a row come to the same.
-/
namespace Go.Proofs.YtlobghojjfkchaaGreat
open Go.RowKit

end Go.Proofs.YtlobghojjfkchaaGreat

/-
Opening any arguments by their types (structs and arrays laid flat; slices), and closing a law's row: true, and all reads as it did.
-/
namespace Go.Proofs.YtlobghojjfkchaaGreat
open Go.RowKit Go.ChangeShapes Go.WideShapes Go.ChangeAt

section
variable {H : Type} {enc : TypeId × Value → H} {P : Program} {w : World} {base : Nat} {spare : Nat → Bool} {held : Bool}

/-- A cell of some type. -/
def Lf (enc : TypeId × Value → H) (P : Program) (w : World) (base : Nat) (spare : Nat → Bool) (held : Bool) (t : TypeId) (c : Value) : Prop := ∃ n x, DataW.trod enc P w base spare held n t [c] = some x

def Lfs (enc : TypeId × Value → H) (P : Program) (w : World) (base : Nat) (spare : Nat → Bool) (held : Bool) : List TypeId → List Value → Prop
  | [], [] => True
  | t :: ts, c :: cs => Lf enc P w base spare held t c ∧ Lfs enc P w base spare held ts cs
  | _, _ => False

theorem Lfs.append : ∀ (ts us : List TypeId) (cs : List Value), Lfs enc P w base spare held ts (cs.take ts.length) → Lfs enc P w base spare held us (cs.drop ts.length) → Lfs enc P w base spare held (ts ++ us) cs
  | [], us, cs, _, h => by simpa using h
  | t :: ts, us, [], h, _ => by simp [Lfs] at h
  | t :: ts, us, c :: cs, h, h' => by
    simp only [List.length_cons, List.take_succ_cons, Lfs] at h
    exact ⟨h.1, Lfs.append ts us cs h.2 (by simpa using h')⟩

def offs (P : Program) : Nat → List Field → List (List TypeId) → Bool
  | _, [], [] => true
  | o, f :: fs, l :: ls => f.offset == o && P.cellsOf f.type == l.length && offs P (o + l.length) fs ls
  | _, _, _ => false

/-- The types of a type's cells. -/
def flat (P : Program) : Nat → TypeId → Option (List TypeId)
  | 0, _ => none
  | k + 1, t =>
    match P.underlying t with
    | some (.struct fs) => (fs.toList.mapM fun f => flat P k f.type).bind fun ls => if offs P 0 fs.toList ls && P.cellsOf t == ls.flatten.length then some ls.flatten else none
    | some (.array n e) => (flat P k e).bind fun l => if P.cellsOf e == l.length && P.cellsOf t == n * l.length then some (List.replicate n l).flatten else none
    | _ => some [t]

theorem trod_single {n : Nat} {t : TypeId} {cs : List Value} {x : DataW H × List MemPlace} (h : DataW.trod enc P w base spare held n t cs = some x)
    (h1 : ∀ fs, P.underlying t ≠ some (.struct fs)) (h2 : ∀ n e, P.underlying t ≠ some (.array n e)) : ∃ c, cs = [c] := by
  cases n with
  | zero => simp [DataW.trod] at h
  | succ n =>
    unfold DataW.trod at h
    split at h
    all_goals first
      | exact ⟨_, rfl⟩
      | (rename_i h3; exact absurd h3 (h1 _))
      | (rename_i h3; exact absurd h3 (h2 _ _))
      | simp at h

theorem offs_open (k : Nat) (ih : ∀ (t : TypeId) (ts : List TypeId) (n : Nat) (cs : List Value) (x : DataW H × List MemPlace), flat P k t = some ts → DataW.trod enc P w base spare held n t cs = some x → Lfs enc P w base spare held ts cs)
    (n : Nat) (cs : List Value) : ∀ (fs : List Field) (ls : List (List TypeId)) (o : Nat), offs P o fs ls = true → (fs.mapM fun f => flat P k f.type) = some ls →
    cs.length = o + ls.flatten.length →
    (∀ f ∈ fs, ∃ y, DataW.trod enc P w base spare held n f.type ((cs.drop f.offset).take (P.cellsOf f.type)) = some y) → Lfs enc P w base spare held ls.flatten (cs.drop o) := by
  intro fs
  induction fs with
  | nil =>
    intro ls o ho hm hl _
    cases ls with
    | nil => simp at hl; rw [List.drop_eq_nil_of_le (by omega)]; trivial
    | cons l ls => simp [offs] at ho
  | cons f fs ih2 =>
    intro ls o ho hm hl hf
    cases ls with
    | nil => simp [offs] at ho
    | cons l ls =>
      simp only [offs, Bool.and_eq_true, beq_iff_eq] at ho
      obtain ⟨⟨ho1, ho2⟩, ho3⟩ := ho
      simp only [List.mapM_cons, Option.bind_eq_bind, Option.bind_eq_some_iff, Option.pure_def, Option.some.injEq, List.cons.injEq] at hm
      obtain ⟨l', h1, ls', h2, rfl, rfl⟩ := hm
      obtain ⟨y, hy⟩ := hf f (by simp)
      rw [ho1, ho2] at hy
      have a1 := ih f.type l' n _ y h1 hy
      simp only [List.flatten_cons, List.length_append] at hl
      have a2 := ih2 ls' (o + l'.length) ho3 h2 (by omega) (fun g hg => hf g (by simp [hg]))
      rw [List.flatten_cons]
      exact Lfs.append l' ls'.flatten _ a1 (by rw [List.drop_drop]; exact a2)

theorem arr_open (l : List TypeId) (e : TypeId) (n : Nat) (he : P.cellsOf e = l.length) (h1 : ∀ cs x, DataW.trod enc P w base spare held n e cs = some x → Lfs enc P w base spare held l cs) (cs : List Value) :
    ∀ (m i : Nat), cs.length = (i + m) * l.length → (∀ j, i ≤ j → j < i + m → ∃ y, DataW.trod enc P w base spare held n e ((cs.drop (j * P.cellsOf e)).take (P.cellsOf e)) = some y) →
    Lfs enc P w base spare held (List.replicate m l).flatten (cs.drop (i * l.length)) := by
  intro m
  induction m with
  | zero => intro i hl _; rw [List.drop_eq_nil_of_le (by simp at hl; omega)]; simp [Lfs]
  | succ m ih =>
    intro i hl hf
    obtain ⟨y, hy⟩ := hf i (by omega) (by omega)
    rw [he] at hy
    have a1 := h1 _ y hy
    have a2 := ih (i + 1) (by rw [hl]; congr 1; omega) (fun j h1 h2 => hf j (by omega) (by omega))
    rw [List.replicate_succ, List.flatten_cons]
    refine Lfs.append l _ _ a1 ?_
    rw [List.drop_drop, ← Nat.succ_mul]
    exact a2

theorem flat_open (k : Nat) : ∀ (t : TypeId) (ts : List TypeId) (n : Nat) (cs : List Value) (x : DataW H × List MemPlace), flat P k t = some ts → DataW.trod enc P w base spare held n t cs = some x → Lfs enc P w base spare held ts cs := by
  induction k with
  | zero => intro t ts n cs x h; simp [flat] at h
  | succ k ih =>
    intro t ts n cs x h hx
    unfold flat at h
    split at h
    · rename_i fs hu
      obtain ⟨xs, m, _, rfl, hlen, hxl, hf⟩ := DataW.trod_struct hu hx
      simp only [Option.bind_eq_some_iff] at h
      obtain ⟨ls, hm, h⟩ := h
      split at h
      · rename_i hc
        rw [Bool.and_eq_true, beq_iff_eq] at hc
        cases h
        have := offs_open k ih m cs fs.toList ls 0 hc.1 hm (by rw [hlen, hc.2, Nat.zero_add]) (fun f hfm => by
          obtain ⟨i, hi, hif⟩ := List.mem_iff_getElem.1 hfm
          have hi' : i < fs.size := by simpa using hi
          have g : fs[i]? = some f := by rw [← hif]; simp [hi']
          have := hf i f g
          rw [List.getElem?_eq_getElem (by omega)] at this
          exact ⟨_, this⟩)
        simpa using this
      · cases h
    · rename_i m e hu
      obtain ⟨xs, q, _, rfl, hlen, hxl, hf⟩ := DataW.trod_array hu hx
      simp only [Option.bind_eq_some_iff] at h
      obtain ⟨l, hl, h⟩ := h
      split at h
      · rename_i hc
        rw [Bool.and_eq_true, beq_iff_eq, beq_iff_eq] at hc
        cases h
        have := arr_open (enc := enc) (P := P) (w := w) (base := base) (spare := spare) (held := held) l e q hc.1 (fun cs y hy => ih e l q cs y hl hy) cs m 0 (by rw [hlen, hc.2, Nat.zero_add]) (fun j _ hj => by
          have := hf j (by omega)
          rw [List.getElem?_eq_getElem (by omega)] at this
          exact ⟨_, this⟩)
        simpa using this
      · cases h
    · rename_i h1 h2
      cases h
      obtain ⟨c, rfl⟩ := trod_single hx (fun fs e => h1 fs e) (fun n e he => h2 n e he)
      exact ⟨⟨n, x, hx⟩, trivial⟩

theorem Lf.int {t : TypeId} {c : Value} {k : IntKind} (h : Lf enc P w base spare held t c) (ht : P.underlying t = some (.int k)) : ∃ n, c = .int k n ∧ (Lit.int k n).wf = true := by
  obtain ⟨m, x, h⟩ := h
  obtain ⟨n, h1, _, h3⟩ := DataW.trod_int ht h
  cases h1
  exact ⟨n, rfl, h3⟩
theorem Lf.string {t : TypeId} {c : Value} (h : Lf enc P w base spare held t c) (ht : P.underlying t = some .string) : ∃ s : ByteArray, c = .string s ∧ s.size ≤ 9223372036854775807 := by
  obtain ⟨m, x, h⟩ := h
  obtain ⟨n, h1, _, h3⟩ := DataW.trod_string ht h
  cases h1
  exact ⟨n, rfl, h3⟩
theorem Lf.bool {t : TypeId} {c : Value} (h : Lf enc P w base spare held t c) (ht : P.underlying t = some .bool) : ∃ b : Bool, c = .bool b := by
  obtain ⟨m, x, h⟩ := h
  obtain ⟨n, h1, _⟩ := DataW.trod_bool ht h
  cases h1
  exact ⟨n, rfl⟩

/-- A slice, opened: its elements' cells, and what each reads as. -/
theorem trod_sl {T E : TypeId} {k n : Nat} {cs : List Value} {x : DataW H × List MemPlace} (ht : P.underlying T = some (.slice E)) (hk : P.cellsOf E = k) (hk0 : 0 < k) (h : DataW.trod enc P w base spare held n T cs = some x) :
    ∃ v xss, cs = [v] ∧ Sl w v k xss ∧ xss.length ≤ 9223372036854775807 ∧ ∀ xs ∈ xss, xs.length = k ∧ ∃ n x, DataW.trod enc P w base spare held n E xs = some x := by
  rcases Go.Deep.open_slice ht h with ⟨rfl, _⟩ | ⟨a, len, cap, m, q, D, Pl, rfl, hb, hl, hm, hmm, _, hx⟩
  · exact ⟨_, [], rfl, ⟨none, 0, rfl, .inl rfl⟩, by simp, by simp⟩
  · have hlm : len ≤ m := by rw [hmm]; split <;> omega
    have hall : ∀ i, i < len → ∃ cs', w.cells? base (a.add (i * k)) k = some cs' ∧ DataW.trod enc P w base spare held q E cs' = some (D i, Pl i) := fun i hi => by
      have := hx i (by omega); rwa [hk] at this
    obtain ⟨C, hC⟩ := Go.Deep.choose_lt hall
    have hcl : cap ≤ 9223372036854775807 := hm
    refine ⟨_, (List.range len).map C, rfl, ?_, by simp; omega, ?_⟩
    · refine ⟨some a, cap, by simp, ?_⟩
      by_cases h0 : len = 0
      · subst h0; exact .inl rfl
      · right
        have hc0 := (World.cells?_some (hC 0 (by omega)).1)
        have e0 : (a.add (0 * k)).add 0 = a := by unfold Addr.add; simp
        have hcell : (w.cell? a).isSome = true := by
          have := hc0.2.2 0 hk0
          rw [e0] at this
          rw [this, List.getElem?_eq_getElem (by omega)]; rfl
        have hsp : a.spot = none := by
          unfold World.cell? at hcell
          split at hcell
          · split at hcell
            · simp at hcell
            · rename_i hs; simpa using hs
          · simp at hcell
        have hlt : a.block < w.heap.size := by
          unfold World.cell? at hcell
          rcases Nat.lt_or_ge a.block w.heap.size with h1 | h1
          · exact h1
          · rw [Array.getElem?_eq_none h1] at hcell; simp at hcell
        refine ⟨a.block, a.off, by cases a; simp at hsp; subst hsp; rfl, hlt, ?_⟩
        intro i hi j hj
        simp only [List.length_map, List.length_range] at hi
        have h2 := (World.cells?_some (hC i hi).1).2.2 j hj
        rw [Go.Deep.add_add] at h2
        have e : a.add (i * k + j) = ⟨a.block, a.off + i * k + j, none⟩ := by
          unfold Addr.add
          split
          · rename_i hz
            have h3 : i * k = 0 := by omega
            have h4 : j = 0 := by omega
            cases a; simp at hsp; subst hsp; simp [h3, h4]
          · cases a; simp at hsp; subst hsp; simp
        rw [e] at h2
        rw [h2]
        simp [hi]
    · intro xs hxs
      simp only [List.mem_map, List.mem_range] at hxs
      obtain ⟨i, hi, rfl⟩ := hxs
      exact ⟨(World.cells?_some (hC i hi).1).2.1, _, _, (hC i hi).2⟩

theorem exists_map {α β : Type} {f : α → β} {p : α → Prop} : ∀ (l : List β), (∀ y ∈ l, ∃ x, y = f x ∧ p x) → ∃ l' : List α, l = l'.map f ∧ ∀ x ∈ l', p x
  | [], _ => ⟨[], rfl, by simp⟩
  | y :: l, h => by
    obtain ⟨x, hx, hp⟩ := h y (by simp)
    obtain ⟨l', hl, hl'⟩ := exists_map l (fun z hz => h z (by simp [hz]))
    exact ⟨x :: l', by rw [hx, hl]; rfl, by intro z hz; rcases List.mem_cons.1 hz with rfl | hz; exact hp; exact hl' z hz⟩

/-- All arguments read as they did. -/
theorem trodAll_stays {W W' : World} (hl : laidOutB P = true) (hE : Ext W W') : ∀ (ts : List TypeId) (vs : List Value) (ds : List (DataW H)) (ps : List MemPlace), (∀ t ∈ ts, P.readableRec t = true ∧ t < P.types.size) →
    DataW.TrodAll enc P W 0 (fun _ => true) true ts vs ds ps → (∀ x ∈ ps, x.block < W.heap.size) → DataW.TrodAll enc P W' 0 (fun b => decide (b < W.heap.size)) true ts vs ds ps
  | [], [], [], ps, _, h, _ => h
  | t :: ts, v :: vs, d :: ds, ps, hr, h, hlt => by
    obtain ⟨p, q, h1, h2, rfl⟩ := h
    refine ⟨p, q, Below.trod hl (hr t (by simp)).1 (hr t (by simp)).2 h1 hE (fun x hx => hlt x (by simp [hx])), ?_, rfl⟩
    exact trodAll_stays hl hE ts vs ds q (fun u hu => hr u (by simp [hu])) h2 (fun x hx => hlt x (by simp [hx]))
  | [], _ :: _, _, _, _, h, _ => by simp [DataW.TrodAll] at h
  | [], [], _ :: _, _, _, h, _ => by simp [DataW.TrodAll] at h
  | _ :: _, [], _, _, _, h, _ => by simp [DataW.TrodAll] at h
  | _ :: _, _ :: _, [], _, _, h, _ => by simp [DataW.TrodAll] at h

/-- A law's row: it answered true; what was there is as it was. -/
theorem post_law {f : Func} {s : ChangeSpec} {apart : Bool} {W W' : World} {args : Array Value} {ds gs : List (DataW H)} {before : List MemPlace} {tb : TypeId}
    (hl : laidOutB P = true) (hb : P.underlying tb = some .bool) (hrt : f.resultTypes = #[tb]) (hr : f.params.toList.all (fun t => P.readableRec t && decide (t < P.types.size)) = true) (hv : s.vars = [])
    (hW : DataW.Whole enc P f.params.toList s.vars apart W args.toList ds gs before)
    (h1 : (s.fn H (ds ++ gs)).results = [.lit (.bool true)]) (h2 : (s.fn H (ds ++ gs)).args = ds) (h3 : (s.fn H (ds ++ gs)).vars = []) (hE : Ext W W') :
    s.post enc P f apart true false false W args (.bool true) W' := by
  have hW' := hW
  have hlt := hW.lt
  obtain ⟨p, q, hA, hV, rfl, _, _⟩ := hW
  refine ⟨ds, gs, p ++ q, [], p, [], hW', ?_, ?_, ?_, Below.frame hE _, fun h => by cases h⟩
  · rw [h1, hrt]
    exact trodAll_mk1 (shut_bool hb true)
  · rw [h2]
    refine trodAll_stays hl hE _ _ _ _ (fun t ht => ?_) hA (fun x hx => by simpa using hlt x (by simp [hx]))
    have := List.all_eq_true.1 hr t ht
    simpa using this
  · rw [hv, h3]; rfl
end

end Go.Proofs.YtlobghojjfkchaaGreat

/-
Arguments of the common types, opened: numbers, strings, slices of anything.
-/
namespace Go.Proofs.YtlobghojjfkchaaGreat
open Go.RowKit Go.ChangeShapes Go.WideShapes Go.ChangeAt

theorem Tryz.ownG : ownKnob Tryz.prog.godebug = none := by kernel_rfl
theorem Tryz.laidOutG : laidOutB Tryz.prog = true := by kernel_rfl

theorem wfG_u8 {n : Int} (h : (Lit.int .u8 n).wf = true) : 0 ≤ n ∧ n < 256 := by
  simp [Lit.wf, IntKind.min, IntKind.max, IntKind.signed, IntKind.bits] at h; omega
theorem wfG_u32 {n : Int} (h : (Lit.int .u32 n).wf = true) : 0 ≤ n ∧ n < 4294967296 := by
  simp [Lit.wf, IntKind.min, IntKind.max, IntKind.signed, IntKind.bits] at h; omega
theorem wfG_u64 {n : Int} (h : (Lit.int .u64 n).wf = true) : 0 ≤ n ∧ n < 18446744073709551616 := by
  simp [Lit.wf, IntKind.min, IntKind.max, IntKind.signed, IntKind.bits] at h; omega
theorem wfG_i64 {n : Int} (h : (Lit.int .i64 n).wf = true) : -9223372036854775808 ≤ n ∧ n < 9223372036854775808 := by
  simp [Lit.wf, IntKind.min, IntKind.max, IntKind.signed, IntKind.bits] at h; omega

section
variable {H : Type} {enc : TypeId × Value → H} {w : World} {base : Nat} {spare : Nat → Bool} {held : Bool} {r : Reach} {base2 : Nat} {v : Value} {d : DataW H} {ps : List MemPlace}

theorem openG_int {P : Program} {t : TypeId} {k : IntKind} (ht : P.underlying t = some (.int k)) (h : DataW.Trod enc P w base spare held t v d ps) (hv : Value.okWide P w r base2 t v) : ∃ n, v = .int k n ∧ (Lit.int k n).wf = true := by
  obtain ⟨m, rfl⟩ := okWide_int ht hv
  obtain ⟨n, hn⟩ := h
  have hl : Lf enc P w base spare held t (.int k m) := ⟨n, _, hn⟩
  obtain ⟨q, hq, hw⟩ := hl.int ht
  cases hq
  exact ⟨m, rfl, hw⟩
end

end Go.Proofs.YtlobghojjfkchaaGreat

/-
Cells of the arguments, opened.
-/
namespace Go.Proofs.YtlobghojjfkchaaGreat
open Go.RowKit Go.ChangeShapes Go.WideShapes Go.ChangeAt

theorem Tryz.flatCellG : flat Tryz.prog 4 170 = some [5, 5, 2, 32, 32, 9] := by kernel_rfl
section
variable {H : Type} {enc : TypeId × Value → H} {w : World} {base : Nat} {spare : Nat → Bool} {held : Bool} {r : Reach} {base2 : Nat} {v : Value} {d : DataW H} {ps : List MemPlace}
set_option maxRecDepth 20000 in
theorem openC_list {n : Nat} {cs : List Value} {x : DataW H × List MemPlace} (h : DataW.trod enc Tryz.prog w base spare held n 170 cs = some x) :
    ∃ (k ty m : Int) (a b : Nat) (s : ByteArray), cs = [.int .u8 k, .int .u8 ty, .int .i64 m, .int .u64 a, .int .u64 b, .string s] ∧ (0 ≤ k ∧ k < 256) ∧ (0 ≤ ty ∧ ty < 256) ∧ (-9223372036854775808 ≤ m ∧ m < 9223372036854775808) ∧ a < 2 ^ 64 ∧ b < 2 ^ 64 ∧ s.size ≤ 9223372036854775807 := by
  have hl := flat_open 4 _ _ n cs x Tryz.flatCellG h
  match cs, hl with
  | [c0, c1, c2, c3, c4, c5], ⟨l0, l1, l2, l3, l4, l5, _⟩ =>
    obtain ⟨k, rfl, h0⟩ := l0.int Tryz.underlying5
    obtain ⟨ty, rfl, h1⟩ := l1.int Tryz.underlying5
    obtain ⟨m, rfl, h2⟩ := l2.int Tryz.underlying2
    obtain ⟨a, rfl, h3⟩ := l3.int Tryz.underlying32
    obtain ⟨b, rfl, h4⟩ := l4.int Tryz.underlying32
    obtain ⟨s, rfl, h5⟩ := l5.string Tryz.underlying9
    obtain ⟨a, rfl⟩ := Int.eq_ofNat_of_zero_le (wfG_u64 h3).1
    obtain ⟨b, rfl⟩ := Int.eq_ofNat_of_zero_le (wfG_u64 h4).1
    exact ⟨k, ty, m, a, b, s, rfl, wfG_u8 h0, wfG_u8 h1, wfG_i64 h2, by have := (wfG_u64 h3).2; omega, by have := (wfG_u64 h4).2; omega, h5⟩
end

end Go.Proofs.YtlobghojjfkchaaGreat

/-
The flat types of relations and columns.
-/
namespace Go.Proofs.YtlobghojjfkchaaGreat
open Go.RowKit Go.ChangeShapes Go.WideShapes Go.ChangeAt

theorem Tryz.flatColG : flat Tryz.prog 4 171 = some [9, 5, 4] := by kernel_rfl
theorem Tryz.flatRelG : flat Tryz.prog 4 101 = some [23, 23, 9, 5, 99] := by kernel_rfl
theorem Tryz.cellsColG : Tryz.prog.cellsOf 171 = 3 := by kernel_rfl

end Go.Proofs.YtlobghojjfkchaaGreat
