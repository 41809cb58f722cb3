/-
The walk through the columns of the key: rel.Keys and its closure, for every loop body; rel.keyed.
-/
import Derived.RangeFuncNested
import Derived.RangeFuncBound
import Derived.RangeFuncCalls
import Derived.RangeFuncLeaves
import Derived.RangeFuncBox
import Derived.Shelf.Abstract
import Derived.Shelf.RegionOpen
import Derived.OwnWalkIn
import Derived.TacticsInMore
import Derived.LoopNIn
import Derived.LoopIn
import Derived.Test.YtihldginolbooaaGreatDoorP6
import Derived.Test.YtihldginolbooaaGreatDoorP3
namespace Go.Proofs.YtihldginolbooaaGreatDoor
open Go.RowKit Go.Shelf
attribute [local go_sem] Oper.semAt_some

/-- A column of the key, with its place. -/
abbrev KX (cols : List Col) := { x : Nat × Col // x.1 < cols.length ∧ cols[x.1]? = some x.2 ∧ x.2.key = true }
/-- The columns of the key among the first k. -/
def keysUp (cols : List Col) : Nat → List (KX cols)
  | 0 => []
  | k + 1 => if h : ∃ h : k < cols.length, cols[k].key = true then keysUp cols k ++ [⟨(k, cols[k]'h.1), h.1, List.getElem?_eq_getElem h.1, h.2⟩] else keysUp cols k
theorem keysUp_yes {cols : List Col} {k : Nat} (hk : k < cols.length) (h : cols[k].key = true) : keysUp cols (k + 1) = keysUp cols k ++ [⟨(k, cols[k]), hk, List.getElem?_eq_getElem hk, h⟩] := by
  unfold keysUp
  rw [dif_pos ⟨hk, h⟩]
  cases k <;> rfl
theorem keysUp_no {cols : List Col} {k : Nat} (hk : k < cols.length) (h : cols[k].key = false) : keysUp cols (k + 1) = keysUp cols k := by
  conv => lhs; unfold keysUp
  rw [dif_neg (by rintro ⟨_, h2⟩; rw [h] at h2; cases h2)]
theorem keysUp_len {cols : List Col} : ∀ k, (keysUp cols k).length ≤ k
  | 0 => Nat.le_refl _
  | k + 1 => by
    have := keysUp_len (cols := cols) k
    unfold keysUp
    split
    · rw [List.length_append, List.length_singleton]; omega
    · omega
theorem keysUp_mem {cols : List Col} : ∀ (k : Nat) (x : KX cols), x ∈ keysUp cols k ↔ x.1.1 < k
  | 0, x => by simp [keysUp]
  | k + 1, x => by
    have ih := keysUp_mem (cols := cols) k x
    obtain ⟨⟨i, c⟩, hi, hc, hk⟩ := x
    simp only at *
    unfold keysUp
    split
    · rename_i h
      rw [List.mem_append, ih, List.mem_singleton, Subtype.mk.injEq, Prod.mk.injEq]
      constructor
      · rintro (h1 | ⟨rfl, _⟩) <;> omega
      · intro h1
        by_cases e : i = k
        · subst e; right; refine ⟨rfl, ?_⟩; rw [List.getElem?_eq_getElem hi] at hc; exact (Option.some.inj hc).symm
        · left; omega
    · rename_i h
      rw [ih]
      constructor
      · intro h1; omega
      · intro h1
        by_cases e : i = k
        · subst e
          rw [List.getElem?_eq_getElem hi] at hc
          exact absurd ⟨hi, by rw [Option.some.inj hc]; exact hk⟩ h
        · omega
theorem keysUp_none {cols : List Col} : keysUp cols cols.length = [] ↔ cols.any Col.key = false := by
  constructor
  · intro h
    rw [List.any_eq_false]
    intro c hc
    obtain ⟨i, hi, rfl⟩ := List.getElem_of_mem hc
    intro hk
    have : (⟨(i, cols[i]), hi, List.getElem?_eq_getElem hi, hk⟩ : KX cols) ∈ keysUp cols cols.length := (keysUp_mem _ _).2 hi
    rw [h] at this; cases this
  · intro h
    rw [List.any_eq_false] at h
    rw [List.eq_nil_iff_forall_not_mem]
    rintro ⟨⟨i, c⟩, hi, hc, hk⟩ _
    exact h c (List.mem_of_getElem? hc) hk

/-- What a column of the key is handed out as. -/
def encK {cols : List Col} (x : KX cols) : Array Value := #[.int .i64 (x.1.1 : Int), .agg #[.string x.1.2.nm, .int .u8 x.1.2.ty, .bool x.1.2.key]]

set_option maxRecDepth 100000 in
set_option maxHeartbeats 2000000 in
theorem keys1_in (F : Fence) (n : Nat) (hF : F.fn 115) (hro : F.round = none) (hn : 1 ≤ n) (l Bs : Nat) (w0 : World) (a : Option Addr) (cap : Nat) (cols : List Col) (hlen : cols.length ≤ 1000) (hl : Hid (Sl w0 (.slice a cols.length cap) 3 (cols.map Col.cells)))
    (J Jx : List (KX cols) → World → Prop) (W0 : World) (hJ : Hid (AbidesFrom W0.heap.size J))
    (hY : Hid (∀ pre x W, J pre W → pre.length < cols.length → YieldAt F (n - 1) Tryz.prog l (encK x) W fun e W' => (e = .returned (.bool true) ∧ J (pre ++ [x]) W' ∧ Below w0.heap.size W W') ∨ (e = .returned (.bool false) ∧ Jx (pre ++ [x]) W')))
    (hE : Hid (Ext w0 W0)) (hBs : W0.cell? ⟨Bs, 4, none⟩ = some (.slice a cols.length cap)) (h0 : Hid (J [] W0)) :
    CallsIn F n Tryz.prog 115 #[.func (.yield l) #[] #[], .pointer (some ⟨Bs, 0, none⟩)] W0 fun e W' => (∃ v, e = .returned v) ∧
      ((∃ ys, ys = keysUp cols cols.length ∧ J ys W') ∨ (∃ pre, (∃ k, k ≤ cols.length ∧ pre = keysUp cols k) ∧ Jx pre W')) := by
  refine callsIn_of_wp Tryz.func115 rfl hF ?_ hro
  simp only [Tryz.ntmps115, List.size_toArray, List.length_cons, List.length_nil, Nat.reduceAdd, Nat.reduceSub, Array.replicate_succ, Array.replicate_zero, List.push_toArray, List.append_toArray, List.nil_append, List.cons_append]
  gi_wp2
  gi_loopw [8] (fun i wr => ∃ k : Nat, k ≤ cols.length ∧ i = .int .i64 k ∧ Hid (J (keysUp cols k) wr) ∧ Hid (Ext w0 wr)) (fun i _ => cols.length - (intOf i).toNat)
  case atStart => exact ⟨0, Nat.zero_le _, rfl, h0, hE⟩
  case round =>
    obtain ⟨k, hk, rfl, hJs, hEw⟩ := hrel
    by_cases hlt : k < cols.length
    · obtain ⟨b, o, rfl, hb, hx⟩ := hl.out.at_ (i := k) (by simpa using hlt)
      obtain ⟨f0, f1, f2⟩ := Col.at_ hlt hx hb hEw.out
      have hJa : Hid (∀ o : Obj, J (keysUp cols k) (wr.alloc o)) := Hid.mk' (fun o => hJ.out _ _ _ none hJs.out (World.grownBy_alloc _ _ none) (by simp))
      clear hx
      cases hq : cols[k].key with
      | true =>
        obtain ⟨x, hu, hx2⟩ : ∃ x : KX cols, keysUp cols (k + 1) = keysUp cols k ++ [x] ∧ x.1 = (k, cols[k]) := ⟨_, keysUp_yes hlt hq, rfl⟩
        have HU := Hid.mk' hu
        obtain ⟨fn, tmps, assign, body, hy, hR⟩ := hY.out (keysUp cols k) x (wr.alloc (.cells #[.string cols[k].nm, .int .u8 cols[k].ty, .bool true] 116)) (hJa.out _) (by have := keysUp_len (cols := cols) k; omega)
        simp only [encK, hx2, hq] at hy
        rw [hq] at f2
        clear hq hu hx2
        gi_wp2
        refine hR.mono ?_
        rintro e W3 (⟨rfl, hJ3, hk3⟩ | ⟨rfl, hJx3⟩)
        · gi_wp2
          go_roundw
          case rel => exact ⟨k + 1, by omega, by go_num, Hid.mk' (by rw [HU.out]; exact hJ3), Hid.mk' (Below.trans (hEw.out.alloc _) hk3)⟩
          case measure => simp [intOf]; omega
        · gi_wp2
          refine bodyPost_ret (results_none rfl _ _ _) rfl ?_
          exact ⟨⟨_, rfl⟩, .inr ⟨_, ⟨k + 1, by omega, HU.out.symm⟩, hJx3⟩⟩
      | false =>
        have HU := Hid.mk' (keysUp_no hlt hq)
        rw [hq] at f2
        clear hq
        gi_wp2
        refine ⟨fun _ h => (by cases h), ?_⟩
        gi_wp2
        go_roundw
        case rel => exact ⟨k + 1, by omega, by go_num, Hid.mk' (by rw [HU.out]; exact hJa.out _), Hid.mk' (hEw.out.alloc _)⟩
        case measure => simp [intOf]; omega
    · obtain rfl : k = cols.length := by omega
      gi_wp2
      go_end0
      exact ⟨⟨_, rfl⟩, .inl ⟨_, rfl, hJs.out⟩⟩

theorem keys_stops (F : Fence) (n : Nat) (hF : F.fn 115) (hro : F.round = none) (hn : 1 ≤ n) (Bs : Nat) (w0 : World) (a : Option Addr) (cap : Nat) (cols : List Col) (hlen : cols.length ≤ 1000) (hl : Sl w0 (.slice a cols.length cap) 3 (cols.map Col.cells))
    (w : World) (hE : Ext w0 w) (hBs : w.cell? ⟨Bs, 4, none⟩ = some (.slice a cols.length cap)) (hB : Bs < w.heap.size) :
    SeqStopsK F n Tryz.prog 115 #[.pointer (some ⟨Bs, 0, none⟩)] (encK (cols := cols)) (Below w0.heap.size) (fun ys => ys = keysUp cols cols.length) (fun pre => ∃ k, k ≤ cols.length ∧ pre = keysUp cols k) cols.length w := fun l J Jx W hW hJ _ hY h0 =>
  keys1_in F n hF hro hn l Bs w0 a cap cols hlen hl J Jx W hJ hY (Below.trans hE (hW.mono hE.size)) ((hW.cell (p := ⟨Bs, 4, none⟩) hB).trans hBs) h0

set_option maxHeartbeats 1000000 in
theorem keys_in (F : Fence) (n : Nat) (hF : F.fn 88) (hro : F.round = none) (oid ver : Int) (nm : ByteArray) (id : Int) (v : Value) (w : World) :
    CallsIn F n Tryz.prog 88 #[.agg #[.int .u32 oid, .int .u32 ver, .string nm, .int .u8 id, v]] w fun e w' => e = .returned (.func (.func 115) #[] #[.pointer (some ⟨w.heap.size, 0, none⟩)]) ∧ w' = w.alloc (.cells #[.int .u32 oid, .int .u32 ver, .string nm, .int .u8 id, v] 49) := by
  refine callsIn_of_wp Tryz.func88 rfl hF ?_ hro
  simp only [Tryz.ntmps88, List.size_toArray, List.length_cons, List.length_nil, Nat.reduceAdd, Nat.reduceSub, Array.replicate_succ, Array.replicate_zero, List.push_toArray, List.append_toArray, List.nil_append, List.cons_append]
  gi_wp2
  go_ret
  exact ⟨rfl, rfl⟩

end Go.Proofs.YtihldginolbooaaGreatDoor

/-
Has a relation a column of the key?
-/
namespace Go.Proofs.YtihldginolbooaaGreatDoor
open Go.RowKit Go.Shelf
attribute [local go_sem] Oper.semAt_some

theorem fold_two (t : Array Value) (p q : Nat) (u v : Value) : Array.foldl (fun t x => t.setIfInBounds x.1 x.2) t (#[p, q].zip #[u, v]) = (t.setIfInBounds p u).setIfInBounds q v := by
  simp [List.zip_toArray]
theorem keysUp_any {cols : List Col} {k : Nat} (h : keysUp cols k ≠ []) : cols.any Col.key = true := by
  rw [List.any_eq_true]
  obtain ⟨x, hx⟩ := List.exists_mem_of_ne_nil _ h
  obtain ⟨⟨i, c⟩, hi, hc, hk⟩ := x
  exact ⟨c, List.mem_of_getElem? hc, hk⟩

set_option maxRecDepth 100000 in
set_option maxHeartbeats 2000000 in
theorem keyed_in (F : Fence) (n : Nat) (h1F : F.fn 115) (hKF : F.fn 88) (hDF : F.fn 63) (hro : F.round = none) (hn : 3 ≤ n) (oid ver : Int) (nm : ByteArray) (id : Int) (cols : List Col) (a : Option Addr) (cap : Nat) (w : World) (hl : Sl w (.slice a cols.length cap) 3 (cols.map Col.cells)) (hlen : cols.length ≤ 1000) :
    CallsIn F n Tryz.prog 63 #[.agg #[.int .u32 oid, .int .u32 ver, .string nm, .int .u8 id, .slice a cols.length cap]] w fun e w' => e = .returned (.bool (cols.any Col.key)) ∧ Ext w w' := by
  have h1 : 1 ≤ n := by omega
  have HL := Hid.mk' hl
  clear hl
  refine callsIn_of_wp_marks Tryz.func63 rfl hDF ?_ hro
  simp only [Tryz.ntmps63, List.size_toArray, List.length_cons, List.length_nil, Nat.reduceAdd, Nat.reduceSub, Array.replicate_succ, Array.replicate_zero, List.push_toArray, List.append_toArray, List.nil_append, List.cons_append]
  gi_wp2_with (gi_at_call 88; refine (keys_in F (n - 1) hKF hro _ _ _ _ _ _).mono ?_; rintro e w' ⟨rfl, rfl⟩)
  have hE3 : Ext w (((w.alloc (.cells #[.int .u32 oid, .int .u32 ver, .string nm, .int .u8 id, .slice a cols.length cap] 49)).alloc (.cells #[.bool false] 4)).alloc (.cells #[.int .u32 oid, .int .u32 ver, .string nm, .int .u8 id, .slice a cols.length cap] 49)) := ((Ext.refl w).alloc _).alloc _ |>.alloc _
  have hB1 : Blk (((w.alloc (.cells #[.int .u32 oid, .int .u32 ver, .string nm, .int .u8 id, .slice a cols.length cap] 49)).alloc (.cells #[.bool false] 4)).alloc (.cells #[.int .u32 oid, .int .u32 ver, .string nm, .int .u8 id, .slice a cols.length cap] 49)) (w.heap.size + 1) #[.bool false] 4 := (Blk.new' _ _ (by simp)).alloc _
  have hB2 : Blk (((w.alloc (.cells #[.int .u32 oid, .int .u32 ver, .string nm, .int .u8 id, .slice a cols.length cap] 49)).alloc (.cells #[.bool false] 4)).alloc (.cells #[.int .u32 oid, .int .u32 ver, .string nm, .int .u8 id, .slice a cols.length cap] 49)) (w.heap.size + 1 + 1) #[.int .u32 oid, .int .u32 ver, .string nm, .int .u8 id, .slice a cols.length cap] 49 := Blk.new' _ _ (by simp)
  refine wpIn_rangeFunc_ownG hro h1 (gf := 115) (lb := #[.pointer (some ⟨w.heap.size + 1 + 1, 0, none⟩)]) rfl h1F (enters_of Tryz.func115 (by kernel_rfl) rfl)
    (keys_stops F (n - 1) h1F hro (by omega) (w.heap.size + 1 + 1) w a cap cols hlen HL.out _ hE3 (hB2.cell 4) hB2.lt) belowK_t (belowK_b (by simp; omega)) (Below.refl _ _) (fun _ => rfl)
    (fun pre W => (pre = [] ∧ W.cell? ⟨w.heap.size + 1, 0, none⟩ = some (.bool false) ∧ W.frozen? ⟨w.heap.size + 1, 0, none⟩ = false) ∧ Below w.heap.size w W)
    (fun c pre W => (c = .ret ∧ pre ≠ [] ∧ W.cell? ⟨w.heap.size + 1, 0, none⟩ = some (.bool true)) ∧ Below w.heap.size w W)
    (OwnFrom.and (Own.from (fun s A B row hs hg hr => ⟨hs.1, cell_kept hs.2.1 hg hr, (frozen_kept hs.2.1 hg hr).trans hs.2.2⟩) _) (ownFrom_below (Nat.le_refl _) (by simp; omega)))
    (fun c => OwnFrom.and (Own.from (fun s A B row hs hg hr => ⟨hs.1, hs.2.1, cell_kept hs.2.2 hg hr⟩) _) (ownFrom_below (Nat.le_refl _) (by simp; omega)))
    ⟨⟨rfl, hB1.cell 0, hB1.frozen 0⟩, hE3⟩
    (fun x => { tmps := #[.agg #[.int .u32 oid, .int .u32 ver, .string nm, .int .u8 id, .slice a cols.length cap], .pointer (some ⟨w.heap.size, 0, none⟩), .pointer (some ⟨w.heap.size + 1, 0, none⟩), .agg #[.int .u32 oid, .int .u32 ver, .string nm, .int .u8 id, .slice a cols.length cap], .func (.func 115) #[] #[.pointer (some ⟨w.heap.size + 1 + 1, 0, none⟩)], .int .i64 (x.1.1 : Int), .agg #[.string x.1.2.nm, .int .u8 x.1.2.ty, .bool x.1.2.key]], defers := [] }) ?assign ?body ?done ?stop
  case assign =>
    intro l x W K hK
    unfold encK
    rw [fold_two]
    gi_wp2
    exact hK
  case body =>
    rintro l pre x W ⟨⟨rfl, hc, hf⟩, hB⟩ _
    gi_wp2
    exact ⟨(KeepsOthers.setCell _ _ _).from _, ⟨rfl, by simp, World.cell?_setCell_same' _ _ _ (by rw [hc]; rfl)⟩, hB.setCell (p := ⟨w.heap.size + 1, 0, none⟩) (by simp) _⟩
  case done =>
    rintro D ys W hD hys ⟨⟨rfl, hc, hf⟩, hB⟩ hK
    gi_wp2
    have hK' := (KeepsOthers.setCell W ⟨w.heap.size + 1, 0, none⟩ (.bool false)).same D _ hK rfl
    refine ⟨by simp, .inl ⟨_, _, rfl, run_takeDeferred hK', ?_⟩⟩
    have hc5 := cell_kept (World.cell?_setCell_same' W ⟨w.heap.size + 1, 0, none⟩ (.bool false) (by rw [hc]; rfl)) (grownBy_putObj' _ D (.deferred none)) (fun r e => by cases e; exact ⟨_, hK', rfl⟩)
    refine ⟨.bool false, ?_, by rw [keysUp_none.1 hys.symm], (hB.setCell (p := ⟨w.heap.size + 1, 0, none⟩) (by simp) _).trans (belowK_b (w := w) (Nat.le_refl _) _ D _ _ (by simp at hD; omega) hK' rfl rfl)⟩
    simp [results, Tryz.f63, go_sem, hc5]
  case stop =>
    rintro D c pre W hD ⟨k, hk, rfl⟩ ⟨⟨rfl, hne, hc⟩, hB⟩ hK
    gi_wp2
    refine ⟨by simp, .inl ⟨_, _, rfl, run_takeDeferred hK, ?_⟩⟩
    have hc5 := cell_kept hc (grownBy_putObj' _ D (.deferred none)) (fun r e => by cases e; exact ⟨_, hK, rfl⟩)
    refine ⟨.bool true, ?_, by rw [keysUp_any hne], hB.trans (belowK_b (w := w) (Nat.le_refl _) W D _ _ (by simp at hD; omega) hK rfl rfl)⟩
    simp [results, Tryz.f63, go_sem, hc5]

theorem keyed_any (oid ver : Int) (nm : ByteArray) (id : Int) (cols : List Col) (a : Option Addr) (cap : Nat) (w : World) (hl : Sl w (.slice a cols.length cap) 3 (cols.map Col.cells)) (hlen : cols.length ≤ 1000) :
    Calls Tryz.prog 63 #[.agg #[.int .u32 oid, .int .u32 ver, .string nm, .int .u8 id, .slice a cols.length cap]] w fun e w' => e = .returned (.bool (cols.any Col.key)) ∧ Ext w w' :=
  callsIn_wide.1 (keyed_in Fence.wide 3 trivial trivial trivial rfl (Nat.le_refl _) oid ver nm id cols a cap w hl hlen)

end Go.Proofs.YtihldginolbooaaGreatDoor

/-
What is wrong with a relation, the program's answer.
-/
namespace Go.Proofs.YtihldginolbooaaGreatDoor
open Go.RowKit

theorem Sl.take {w : World} {a : Option Addr} {n cap k : Nat} {xss : List (List Value)} (h : Sl w (.slice a n cap) k xss) {i : Nat} (hi : i ≤ xss.length) : Sl w (.slice a i cap) k (xss.take i) := by
  obtain ⟨a', cap', hv, hs⟩ := h
  simp only [Value.slice.injEq] at hv
  obtain ⟨rfl, -, rfl⟩ := hv
  have hl : (xss.take i).length = i := by rw [List.length_take]; omega
  refine ⟨a, cap, by rw [hl], ?_⟩
  rcases hs with rfl | ⟨b, o, rfl, hb, hc⟩
  · left; simp
  · refine .inr ⟨b, o, rfl, hb, fun j hj q hq => ?_⟩
    rw [hl] at hj
    rw [hc j (by omega) q hq]
    simp [hj]

/-- The body's verdicts, in the order of the text. -/
theorem Rl.right_cols {r : Rl} (h1 : r.oid ≠ 0) (h2 : r.ver ≠ 0) (h3 : namedB r.nm = true) (h4 : r.id ≤ 2) (h5 : 1 ≤ r.cols.length) (h6 : r.cols.length ≤ 16) :
    r.right = if firstE (colAt r.cols) r.cols.length ≠ 0 then firstE (colAt r.cols) r.cols.length else if r.id = 1 ∧ r.cols.any Col.key = false then 13 else 0 := by
  unfold Rl.right
  rw [if_neg (by omega), if_neg (by rw [h3]; simp), if_neg (by omega), if_neg (by omega)]

set_option maxRecDepth 100000 in set_option maxHeartbeats 4000000 in
theorem right8_any (oid ver : Int) (nm : ByteArray) (id : Int) (cols : List Col) (a : Option Addr) (cap : Nat) (w : World) (hl : Sl w (.slice a cols.length cap) 3 (cols.map Col.cells)) (hcap : cols.length ≤ cap) (hlen : cols.length ≤ 1000)
    (hnm : nm.size ≤ 9223372036854775807) (hcs : ∀ c ∈ cols, c.nm.size ≤ 9223372036854775807) :
    Calls Tryz.prog 35 #[.agg #[.int .u32 oid, .int .u32 ver, .string nm, .int .u8 id, .slice a cols.length cap]] w fun e w' => e = .returned (.int .i64 (⟨oid, ver, nm, id, cols⟩ : Rl).right) ∧ Ext w w' := by
  have HN := Hid.mk' (fun w => named_any nm w hnm)
  have HK := Hid.mk' (fun W (h : Ext w W) => keyed_any oid ver nm id cols a cap W (hl.ext h) hlen)
  have HL := Hid.mk' hl
  have HCS := Hid.mk' hcs
  clear hl hcs
  by_cases h1 : oid = 0
  · have HR := Hid.mk' (show (⟨oid, ver, nm, id, cols⟩ : Rl).right = 4 by unfold Rl.right; rw [if_pos (.inl h1)])
    have e1 : (oid == 0) = true := by simpa using h1
    clear h1
    go_enter Tryz.func35, Tryz.ntmps35
    go_wp2
    go_ret
    exact ⟨ret_int HR.out.symm, by exact eX⟩
  have e1 : (oid == 0) = false := by simpa using h1
  by_cases h2 : ver = 0
  · have HR := Hid.mk' (show (⟨oid, ver, nm, id, cols⟩ : Rl).right = 4 by unfold Rl.right; rw [if_pos (.inr h2)])
    have e2 : (ver == 0) = true := by simpa using h2
    clear h2 h1
    go_enter Tryz.func35, Tryz.ntmps35
    go_wp2
    go_ret
    exact ⟨ret_int HR.out.symm, by exact eX⟩
  have e2 : (ver == 0) = false := by simpa using h2
  cases h3 : namedB nm with
  | false =>
    have HR := Hid.mk' (show (⟨oid, ver, nm, id, cols⟩ : Rl).right = 3 by unfold Rl.right; rw [if_neg (by simp only; omega), if_pos h3])
    rw [h3] at HN
    clear h3 h2 h1
    go_enter Tryz.func35, Tryz.ntmps35
    go_wp2_with (go_at_call 61; refine (HN.out _).mono ?_; rintro e w1 ⟨rfl, rfl⟩)
    go_ret
    exact ⟨ret_int HR.out.symm, by exact eX⟩
  | true =>
  by_cases h4 : 2 < id
  · have HR := Hid.mk' (show (⟨oid, ver, nm, id, cols⟩ : Rl).right = 7 by unfold Rl.right; rw [if_neg (by simp only; omega), if_neg (by simp only [h3]; simp), if_pos h4])
    rw [h3] at HN
    clear h3 h2 h1
    go_enter Tryz.func35, Tryz.ntmps35
    go_wp2_with (go_at_call 61; refine (HN.out _).mono ?_; rintro e w1 ⟨rfl, rfl⟩)
    go_ret
    exact ⟨ret_int HR.out.symm, by exact eX⟩
  by_cases h5 : cols.length < 1
  · have HR := Hid.mk' (show (⟨oid, ver, nm, id, cols⟩ : Rl).right = 17 by unfold Rl.right; rw [if_neg (by simp only; omega), if_neg (by simp only [h3]; simp), if_neg (by simp only; omega), if_pos (.inl h5)])
    have h4' : id ≤ 2 := by omega
    rw [h3] at HN
    clear h3 h2 h1
    go_enter Tryz.func35, Tryz.ntmps35
    go_wp2_with (go_at_call 61; refine (HN.out _).mono ?_; rintro e w1 ⟨rfl, rfl⟩)
    go_ret
    exact ⟨ret_int HR.out.symm, by exact eX⟩
  by_cases h6 : 16 < cols.length
  · have HR := Hid.mk' (show (⟨oid, ver, nm, id, cols⟩ : Rl).right = 17 by unfold Rl.right; rw [if_neg (by simp only; omega), if_neg (by simp only [h3]; simp), if_neg (by simp only; omega), if_pos (.inr h6)])
    have h4' : id ≤ 2 := by omega
    have h5' : 1 ≤ cols.length := by omega
    rw [h3] at HN
    clear h3 h2 h1
    go_enter Tryz.func35, Tryz.ntmps35
    go_wp2_with (go_at_call 61; refine (HN.out _).mono ?_; rintro e w1 ⟨rfl, rfl⟩)
    go_ret
    exact ⟨ret_int HR.out.symm, by exact eX⟩
  have HR := Hid.mk' (Rl.right_cols (r := (⟨oid, ver, nm, id, cols⟩ : Rl)) h1 h2 h3 (by simp only; omega) (by simp only; omega) (by simp only; omega))
  simp only at HR
  rw [h3] at HN
  have h4' : id ≤ 2 := by omega
  have h5' : 1 ≤ cols.length := by omega
  have h6' : cols.length ≤ 16 := by omega
  clear h3 h2 h1 h4 h5 h6
  go_enter Tryz.func35, Tryz.ntmps35
  go_wp2_with (go_at_call 61; refine (HN.out _).mono ?_; rintro e w1 ⟨rfl, rfl⟩)
  go_loopw [40] (fun i wr => ∃ k : Nat, k ≤ cols.length ∧ i = .int .i64 k ∧ Hid (∀ j, j < k → colAt cols j = 0) ∧ Hid (Ext (w.alloc (.cells #[.int .u32 oid, .int .u32 ver, .string nm, .int .u8 id, .slice a cols.length cap] 49)) wr)) (fun i _ => cols.length - (intOf i).toNat)
  case atStart => exact ⟨0, Nat.zero_le _, rfl, fun j h => by omega, Ext.refl _⟩
  case round =>
    obtain ⟨k, hk, rfl, hrel, hE⟩ := hrel
    have hBx := (Blk.new w #[.int .u32 oid, .int .u32 ver, .string nm, .int .u8 id, .slice a cols.length cap] 49).ext hE.out
    have g0 := hBx.cell
    have z0 := hBx.lt
    clear hBx
    by_cases hlt : k < cols.length
    · obtain ⟨b, o, rfl, hb, hx⟩ := HL.out.at_ (i := k) (by simpa using hlt)
      have hEw : Hid (Ext w wr) := Hid.mk' (((Ext.refl w).alloc _).trans hE.out)
      obtain ⟨f0, f1, f2⟩ := Col.at_ hlt hx hb hEw.out
      have hbw : b < wr.heap.size := Nat.lt_of_lt_of_le hb hEw.out.size
      have HF := Hid.mk' (fun W (h : Ext wr W) => column_any cols[k] (cols.take k) (some ⟨b, o, none⟩) k cap W (by rw [List.length_take]; omega) (by have := (HL.out.ext (hEw.out.trans h)).take (i := k) (by rw [List.length_map]; omega); rwa [← List.map_take] at this) (by rw [List.length_take]; omega) (HCS.out _ (List.getElem_mem hlt)))
      have hAt := colAt_lt hlt
      have q1 : (0 : Int) ≤ (k : Int) := by omega
      have q2 : (k : Int) ≤ (cap : Int) := by omega
      obtain ⟨E, hE0⟩ : ∃ E, E = colE cols[k] (cols.take k) := ⟨_, rfl⟩
      rw [← hE0] at HF hAt
      have HAt := Hid.mk' hAt
      clear hx hAt hE0
      by_cases h0 : E = 0
      · subst h0
        go_wp2
        go_region_held3 (fun w' => Ext (wr.alloc (.cells #[.string cols[k].nm, .int .u8 cols[k].ty, .bool cols[k].key] 116)) w' ∧ (∀ b o, b < (wr.alloc (.cells #[.string cols[k].nm, .int .u8 cols[k].ty, .bool cols[k].key] 116)).heap.size → w'.cell? ⟨b, o, none⟩ = (wr.alloc (.cells #[.string cols[k].nm, .int .u8 cols[k].ty, .bool cols[k].key] 116)).cell? ⟨b, o, none⟩) ∧ (∀ b o, b < (wr.alloc (.cells #[.string cols[k].nm, .int .u8 cols[k].ty, .bool cols[k].key] 116)).heap.size → w'.frozen? ⟨b, o, none⟩ = (wr.alloc (.cells #[.string cols[k].nm, .int .u8 cols[k].ty, .bool cols[k].key] 116)).frozen? ⟨b, o, none⟩)) ((exact held_of (by exact eX)))
          (first
            | (go_at_call 62; refine (HF.out _ (by exact eX)).mono ?_; rintro e w2 ⟨rfl, hb2⟩))
        go_wp2
        go_roundw
        case rel => exact ⟨k + 1, by omega, by go_num, fun j hj => by
          by_cases e : j = k
          · subst e; exact HAt.out
          · exact hrel.out j (by omega), Hid.mk' (hE.out.trans (by exact eX))⟩
        case measure => simp [intOf]; omega
      · have h0' : (E != 0) = true := by simpa using h0
        have HR2 := Hid.mk' (show (⟨oid, ver, nm, id, cols⟩ : Rl).right = E by rw [HR.out, firstE_at hrel.out hlt (by rw [HAt.out]; exact h0), HAt.out, if_pos h0])
        clear h0
        go_wp2
        go_region_held3 (fun w' => Ext (wr.alloc (.cells #[.string cols[k].nm, .int .u8 cols[k].ty, .bool cols[k].key] 116)) w' ∧ (∀ b o, b < (wr.alloc (.cells #[.string cols[k].nm, .int .u8 cols[k].ty, .bool cols[k].key] 116)).heap.size → w'.cell? ⟨b, o, none⟩ = (wr.alloc (.cells #[.string cols[k].nm, .int .u8 cols[k].ty, .bool cols[k].key] 116)).cell? ⟨b, o, none⟩) ∧ (∀ b o, b < (wr.alloc (.cells #[.string cols[k].nm, .int .u8 cols[k].ty, .bool cols[k].key] 116)).heap.size → w'.frozen? ⟨b, o, none⟩ = (wr.alloc (.cells #[.string cols[k].nm, .int .u8 cols[k].ty, .bool cols[k].key] 116)).frozen? ⟨b, o, none⟩)) ((exact held_of (by exact eX)))
          (first
            | (go_at_call 62; refine (HF.out _ (by exact eX)).mono ?_; rintro e w2 ⟨rfl, hb2⟩))
        go_wp2
        go_ret
        exact ⟨ret_int HR2.out.symm, hEw.out.trans (by exact eX)⟩
    · have hkk : k = cols.length := by omega
      have hEw : Hid (Ext w wr) := Hid.mk' (((Ext.refl w).alloc _).trans hE.out)
      have HR2 := Hid.mk' (show (⟨oid, ver, nm, id, cols⟩ : Rl).right = if id = 1 ∧ cols.any Col.key = false then 13 else 0 by rw [HR.out, firstE_zero (fun i hi => hrel.out i (by omega)), if_neg (by simp)])
      subst hkk
      clear hrel HR
      by_cases h7 : id = 1
      · subst h7
        cases h8 : cols.any Col.key with
        | false =>
          rw [h8] at HK HR2
          clear h8
          go_wp2_with (go_at_call 63; refine (HK.out _ hEw.out).mono ?_; rintro e w2 ⟨rfl, hb2⟩)
          go_ret
          exact ⟨ret_int (by rw [HR2.out]; simp), hEw.out.trans (by exact eX)⟩
        | true =>
          rw [h8] at HK HR2
          clear h8
          go_wp2_with (go_at_call 63; refine (HK.out _ hEw.out).mono ?_; rintro e w2 ⟨rfl, hb2⟩)
          go_ret
          exact ⟨ret_int (by rw [HR2.out]; simp), hEw.out.trans (by exact eX)⟩
      · have e7 : (id == 1) = false := by simpa using h7
        have HR3 := Hid.mk' (HR2.out.trans (if_neg (fun h => h7 h.1)))
        clear h7 HR2
        go_wp2
        go_ret
        exact ⟨ret_int HR3.out.symm, hEw.out⟩

end Go.Proofs.YtihldginolbooaaGreatDoor
