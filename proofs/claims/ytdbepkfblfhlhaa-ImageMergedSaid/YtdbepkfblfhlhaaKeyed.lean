/-
Has a relation a column of the key?
-/
import Derived.Test.YtdbepkfblfhlhaaKeys
namespace Go.Proofs.Ytdbepkfblfhlhaa
open Go.RowKit Go.Shelf
attribute [local go_sem] Oper.semAt_some

theorem fold_two (t : Array Value) (p q : Nat) (u v : Value) : Array.foldl (fun t x => t.setIfInBounds x.1 x.2) t (#[p, q].zip #[u, v]) = (t.setIfInBounds p u).setIfInBounds q v := by
  simp [List.zip_toArray]
theorem keysUp_any {cols : List Col} {k : Nat} (h : keysUp cols k ≠ []) : cols.any Col.key = true := by
  rw [List.any_eq_true]
  obtain ⟨x, hx⟩ := List.exists_mem_of_ne_nil _ h
  obtain ⟨⟨i, c⟩, hi, hc, hk⟩ := x
  exact ⟨c, List.mem_of_getElem? hc, hk⟩

set_option maxRecDepth 100000 in
set_option maxHeartbeats 2000000 in
theorem keyed_in (F : Fence) (n : Nat) (h1F : F.fn 105) (hKF : F.fn 67) (hDF : F.fn 96) (hro : F.round = none) (hn : 3 ≤ n) (oid ver : Int) (nm : ByteArray) (id : Int) (cols : List Col) (a : Option Addr) (cap : Nat) (w : World) (hl : Sl w (.slice a cols.length cap) 3 (cols.map Col.cells)) (hlen : cols.length ≤ 1000) :
    CallsIn F n Try.prog 96 #[.agg #[.int .u32 oid, .int .u32 ver, .string nm, .int .u8 id, .slice a cols.length cap]] w fun e w' => e = .returned (.bool (cols.any Col.key)) ∧ Ext w w' := by
  have h1 : 1 ≤ n := by omega
  have HL := Hid.mk' hl
  clear hl
  refine callsIn_of_wp_marks Try.func96 rfl hDF ?_ hro
  simp only [Try.ntmps96, List.size_toArray, List.length_cons, List.length_nil, Nat.reduceAdd, Nat.reduceSub, Array.replicate_succ, Array.replicate_zero, List.push_toArray, List.append_toArray, List.nil_append, List.cons_append]
  gi_wp2_with (gi_at_call 67; refine (keys_in F (n - 1) hKF hro _ _ _ _ _ _).mono ?_; rintro e w' ⟨rfl, rfl⟩)
  have hE3 : Ext w (((w.alloc (.cells #[.int .u32 oid, .int .u32 ver, .string nm, .int .u8 id, .slice a cols.length cap] 42)).alloc (.cells #[.bool false] 4)).alloc (.cells #[.int .u32 oid, .int .u32 ver, .string nm, .int .u8 id, .slice a cols.length cap] 42)) := ((Ext.refl w).alloc _).alloc _ |>.alloc _
  have hB1 : Blk (((w.alloc (.cells #[.int .u32 oid, .int .u32 ver, .string nm, .int .u8 id, .slice a cols.length cap] 42)).alloc (.cells #[.bool false] 4)).alloc (.cells #[.int .u32 oid, .int .u32 ver, .string nm, .int .u8 id, .slice a cols.length cap] 42)) (w.heap.size + 1) #[.bool false] 4 := (Blk.new' _ _ (by simp)).alloc _
  have hB2 : Blk (((w.alloc (.cells #[.int .u32 oid, .int .u32 ver, .string nm, .int .u8 id, .slice a cols.length cap] 42)).alloc (.cells #[.bool false] 4)).alloc (.cells #[.int .u32 oid, .int .u32 ver, .string nm, .int .u8 id, .slice a cols.length cap] 42)) (w.heap.size + 1 + 1) #[.int .u32 oid, .int .u32 ver, .string nm, .int .u8 id, .slice a cols.length cap] 42 := Blk.new' _ _ (by simp)
  refine wpIn_rangeFunc_ownG hro h1 (gf := 105) (lb := #[.pointer (some ⟨w.heap.size + 1 + 1, 0, none⟩)]) rfl h1F (enters_of Try.func105 (by kernel_rfl) rfl)
    (keys_stops F (n - 1) h1F hro (by omega) (w.heap.size + 1 + 1) w a cap cols hlen HL.out _ hE3 (hB2.cell 4) hB2.lt) belowK_t (belowK_b (by simp; omega)) (Below.refl _ _) (fun _ => rfl)
    (fun pre W => (pre = [] ∧ W.cell? ⟨w.heap.size + 1, 0, none⟩ = some (.bool false) ∧ W.frozen? ⟨w.heap.size + 1, 0, none⟩ = false) ∧ Below w.heap.size w W)
    (fun c pre W => (c = .ret ∧ pre ≠ [] ∧ W.cell? ⟨w.heap.size + 1, 0, none⟩ = some (.bool true)) ∧ Below w.heap.size w W)
    (OwnFrom.and (Own.from (fun s A B row hs hg hr => ⟨hs.1, cell_kept hs.2.1 hg hr, (frozen_kept hs.2.1 hg hr).trans hs.2.2⟩) _) (ownFrom_below (Nat.le_refl _) (by simp; omega)))
    (fun c => OwnFrom.and (Own.from (fun s A B row hs hg hr => ⟨hs.1, hs.2.1, cell_kept hs.2.2 hg hr⟩) _) (ownFrom_below (Nat.le_refl _) (by simp; omega)))
    ⟨⟨rfl, hB1.cell 0, hB1.frozen 0⟩, hE3⟩
    (fun x => { tmps := #[.agg #[.int .u32 oid, .int .u32 ver, .string nm, .int .u8 id, .slice a cols.length cap], .pointer (some ⟨w.heap.size, 0, none⟩), .pointer (some ⟨w.heap.size + 1, 0, none⟩), .agg #[.int .u32 oid, .int .u32 ver, .string nm, .int .u8 id, .slice a cols.length cap], .func (.func 105) #[] #[.pointer (some ⟨w.heap.size + 1 + 1, 0, none⟩)], .int .i64 (x.1.1 : Int), .agg #[.string x.1.2.nm, .int .u8 x.1.2.ty, .bool x.1.2.key]], defers := [] }) ?assign ?body ?done ?stop
  case assign =>
    intro l x W K hK
    unfold encK
    rw [fold_two]
    gi_wp2
    exact hK
  case body =>
    rintro l pre x W ⟨⟨rfl, hc, hf⟩, hB⟩ _
    gi_wp2
    exact ⟨(KeepsOthers.setCell _ _ _).from _, ⟨rfl, by simp, World.cell?_setCell_same' _ _ _ (by rw [hc]; rfl)⟩, hB.setCell (p := ⟨w.heap.size + 1, 0, none⟩) (by simp) _⟩
  case done =>
    rintro D ys W hD hys ⟨⟨rfl, hc, hf⟩, hB⟩ hK
    gi_wp2
    have hK' := (KeepsOthers.setCell W ⟨w.heap.size + 1, 0, none⟩ (.bool false)).same D _ hK rfl
    refine ⟨by simp, .inl ⟨_, _, rfl, run_takeDeferred hK', ?_⟩⟩
    have hc5 := cell_kept (World.cell?_setCell_same' W ⟨w.heap.size + 1, 0, none⟩ (.bool false) (by rw [hc]; rfl)) (grownBy_putObj' _ D (.deferred none)) (fun r e => by cases e; exact ⟨_, hK', rfl⟩)
    refine ⟨.bool false, ?_, by rw [keysUp_none.1 hys.symm], (hB.setCell (p := ⟨w.heap.size + 1, 0, none⟩) (by simp) _).trans (belowK_b (w := w) (Nat.le_refl _) _ D _ _ (by simp at hD; omega) hK' rfl rfl)⟩
    simp [results, Try.f96, go_sem, hc5]
  case stop =>
    rintro D c pre W hD ⟨k, hk, rfl⟩ ⟨⟨rfl, hne, hc⟩, hB⟩ hK
    gi_wp2
    refine ⟨by simp, .inl ⟨_, _, rfl, run_takeDeferred hK, ?_⟩⟩
    have hc5 := cell_kept hc (grownBy_putObj' _ D (.deferred none)) (fun r e => by cases e; exact ⟨_, hK, rfl⟩)
    refine ⟨.bool true, ?_, by rw [keysUp_any hne], hB.trans (belowK_b (w := w) (Nat.le_refl _) W D _ _ (by simp at hD; omega) hK rfl rfl)⟩
    simp [results, Try.f96, go_sem, hc5]

theorem keyed_any (oid ver : Int) (nm : ByteArray) (id : Int) (cols : List Col) (a : Option Addr) (cap : Nat) (w : World) (hl : Sl w (.slice a cols.length cap) 3 (cols.map Col.cells)) (hlen : cols.length ≤ 1000) :
    Calls Try.prog 96 #[.agg #[.int .u32 oid, .int .u32 ver, .string nm, .int .u8 id, .slice a cols.length cap]] w fun e w' => e = .returned (.bool (cols.any Col.key)) ∧ Ext w w' :=
  callsIn_wide.1 (keyed_in Fence.wide 3 trivial trivial trivial rfl (Nat.le_refl _) oid ver nm id cols a cap w hl hlen)

end Go.Proofs.Ytdbepkfblfhlhaa
