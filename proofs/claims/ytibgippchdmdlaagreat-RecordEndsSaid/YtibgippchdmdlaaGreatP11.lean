/-
A row of cells in a block of the call's own: read, written at an index, made, cloned.
-/
import Derived.RangeFuncBox
import Derived.Test.YtibgippchdmdlaaGreatP10
namespace Go.Proofs.YtibgippchdmdlaaGreat
open Go.RowKit

def RowAt (W : World) (g : Nat) (ks : List K) : Prop := ∃ cs : Array Value, Blk W g cs 195 ∧ ks.length * 5 ≤ cs.size ∧ ∀ i (hi : i < ks.length), ∀ j, j < 5 → cs[i * 5 + j]? = (ks[i].pc)[j]?
section
variable {W W' : World} {g : Nat} {ks : List K}
theorem RowAt.lt (h : RowAt W g ks) : g < W.heap.size := by obtain ⟨cs, hb, _⟩ := h; exact hb.lt
theorem RowAt.ext (h : RowAt W g ks) (he : Ext W W') : RowAt W' g ks := by obtain ⟨cs, hb, hr⟩ := h; exact ⟨cs, hb.ext he, hr⟩
theorem RowAt.drew (h : RowAt W g ks) : RowAt W.drew g ks := h
theorem RowAt.alloc (h : RowAt W g ks) (o : Obj) : RowAt (W.alloc o) g ks := h.ext ((Ext.refl W).alloc o)
theorem RowAt.other (h : RowAt W g ks) (a : Addr) (v : Value) (hne : g ≠ a.block) : RowAt (W.setCell a v) g ks := by obtain ⟨cs, hb, hr⟩ := h; exact ⟨cs, hb.other a v hne, hr⟩
theorem RowAt.kept (h : RowAt W g ks) {row : Option Nat} (hg : W.grownBy W' row) (hr : ∀ r, row = some r → ∃ o : Obj, W.heap[r]? = some o ∧ o.isCells = false) : RowAt W' g ks := by
  obtain ⟨cs, hb, hx⟩ := h
  refine ⟨cs, (hg.block g hb.lt (fun e => ?_)).trans hb, hx⟩
  obtain ⟨o, ho, hc⟩ := hr g e.symm
  rw [show W.heap[g]? = _ from hb] at ho
  cases ho; cases hc
theorem RowAt.frozen (h : RowAt W g ks) (o : Nat) : W.frozen? ⟨g, o, none⟩ = false := by obtain ⟨cs, hb, _⟩ := h; exact hb.frozen o
theorem RowAt.cells (h : RowAt W g ks) {i : Nat} (hi : i < ks.length) : W.cell? ⟨g, i * 5, none⟩ = some (.int .u8 ks[i].k) ∧ W.cell? ⟨g, i * 5 + 1, none⟩ = some (.int .u8 ks[i].v.ty) ∧ W.cell? ⟨g, i * 5 + 2, none⟩ = some (.int .i64 ks[i].v.n) ∧
    W.cell? ⟨g, i * 5 + 3, none⟩ = some (.complex .f64 ks[i].v.x ks[i].v.y) ∧ W.cell? ⟨g, i * 5 + 4, none⟩ = some (.string ks[i].v.s) := by
  obtain ⟨cs, hb, _, hx⟩ := h
  have hx := hx i hi
  exact ⟨(hb.cell _).trans (hx 0 (by omega)), (hb.cell _).trans (hx 1 (by omega)), (hb.cell _).trans (hx 2 (by omega)), (hb.cell _).trans (hx 3 (by omega)), (hb.cell _).trans (hx 4 (by omega))⟩
theorem RowAt.sl (h : RowAt W g ks) (cap : Nat) : Sl W (.slice (some ⟨g, 0, none⟩) ks.length cap) 5 (ks.map K.pc) := by
  obtain ⟨cs, hb, _, hx⟩ := h
  refine ⟨_, cap, by rw [List.length_map], .inr ⟨g, 0, rfl, hb.lt, fun i hi j hj => ?_⟩⟩
  rw [List.length_map] at hi
  rw [getD_map K.pc ks hi, ← hx i hi j hj, Nat.zero_add]
  exact hb.cell _
theorem RowAt.set (h : RowAt W g ks) {i : Nat} (hi : i < ks.length) (c : K) :
    RowAt (((((W.setCell ⟨g, i * 5, none⟩ (.int .u8 c.k)).setCell ⟨g, i * 5 + 1, none⟩ (.int .u8 c.v.ty)).setCell ⟨g, i * 5 + 2, none⟩ (.int .i64 c.v.n)).setCell ⟨g, i * 5 + 3, none⟩ (.complex .f64 c.v.x c.v.y)).setCell ⟨g, i * 5 + 4, none⟩ (.string c.v.s)) g (ks.set i c) := by
  obtain ⟨cs, hb, hs, hx⟩ := h
  refine ⟨_, ((((hb.set _ _).set _ _).set _ _).set _ _).set _ _, by simpa using hs, fun q hq j hj => ?_⟩
  rw [List.length_set] at hq
  simp only [Array.getElem?_setIfInBounds, Array.size_setIfInBounds]
  by_cases e : q = i
  · subst e
    rw [List.getElem_set_self]
    have : j = 0 ∨ j = 1 ∨ j = 2 ∨ j = 3 ∨ j = 4 := by omega
    rcases this with rfl | rfl | rfl | rfl | rfl
    all_goals
      simp [K.pc]
      (try omega)
  · rw [List.getElem_set_ne (Ne.symm e), ← hx q hq j hj]
    rw [if_neg (by omega), if_neg (by omega), if_neg (by omega), if_neg (by omega), if_neg (by omega)]
theorem RowAt.mono (h : RowAt W g ks) {ls : List K} (e : ks = ls) : RowAt W g ls := e ▸ h

theorem RowAt.of_owns {base n cap : Nat} (h : W.ownsRow base 195 5 (.slice (some ⟨g, 0, none⟩) n cap) n (ks.map K.pc).flatten) (hn : ks.length = n) : RowAt W g ks := by
  obtain ⟨h1, h2⟩ := h
  rcases h2 with ⟨h3, _⟩ | ⟨g', cap', cur, hv, hg, hh, hnc, hcap, hsz, htake⟩
  · cases h3
  · simp only [Value.slice.injEq, Option.some.injEq, Addr.mk.injEq] at hv
    obtain ⟨⟨rfl, -, -⟩, -, rfl⟩ := hv
    have hfl : (ks.map K.pc).flatten.length = ks.length * 5 := by
      have := flat_length 5 (ks.map K.pc) (fun xs hxs => by simp at hxs; obtain ⟨c, _, rfl⟩ := hxs; rfl)
      rwa [List.length_map] at this
    have hct : ks.length * 5 ≤ cur.size := by
      have := congrArg List.length htake
      rw [List.length_take, hfl] at this
      simp at this
      omega
    refine ⟨cur, hh, hct, fun i hi j hj => ?_⟩
    have := flat_get 5 (ks.map K.pc) (fun xs hxs => by simp at hxs; obtain ⟨c, _, rfl⟩ := hxs; rfl) i (by simpa using hi) j hj
    rw [getD_map K.pc ks hi] at this
    rw [← this, ← htake, List.getElem?_take, if_pos (by rw [← hn]; omega)]
    simp
end

/-- make of a row. -/
theorem run_makeK (n : Nat) (hn : n ≤ 1000) (w : World) :
    ∃ cs : Array Value, (Instr.makeSlice 47 (.int .i64 (n : Int)) (.int .i64 (n : Int))).run Tryz.prog w = .ok (.slice (some ⟨w.heap.size, 0, none⟩) n n) (w.alloc (.cells cs 195)) ∧ n * 5 ≤ cs.size ∧ ∀ i, i < n → ∀ j, j < 5 → cs[i * 5 + j]? = (K.zero.pc)[j]? := by
  obtain ⟨i0, hi, hz0, hz1, hz2⟩ := info_parts Tryz.infoCellP
  have hr := run_make (P := Tryz.prog) w 47 195 i0 _ Tryz.underlying47 hi hz0 .i64 .i64 (n : Int) (n : Int) (by omega) (by omega) (by rw [hz2]; omega) (by omega)
  simp only [Int.toNat_natCast, hz1] at hr
  refine ⟨_, hr, by rw [size_madeCells]; exact Nat.le_refl _, fun i hi j hj => ?_⟩
  have hlt : i * 5 + j < n * 5 := by omega
  have hm : (i * 5 + j) % 5 = j := by omega
  have : j = 0 ∨ j = 1 ∨ j = 2 ∨ j = 3 ∨ j = 4 := by omega
  simp only [madeCells, Array.getElem?_map, Array.getElem?_range, hlt]
  rcases this with rfl | rfl | rfl | rfl | rfl <;> simp [Value.cells, K.pc, K.zero, V.zero, hm]

end Go.Proofs.YtibgippchdmdlaaGreat

/-
The key of a row: the program's image.KeyOf.
-/
namespace Go.Proofs.YtibgippchdmdlaaGreat
open Go.RowKit Go.Shelf
attribute [local go_sem] Oper.semAt_some

/-- Is a column of the key? -/
def isKeyAt (cols : List Col) (i : Nat) : Bool := (cols[i]?.map Col.key).getD false
/-- A row with the columns of the key alone. -/
def keyOf (cols : List Col) (l : List K) : List K := l.mapIdx fun i c => if isKeyAt cols i = true then c else K.zero
/-- A row with some of its cells. -/
def fillK {cols : List Col} (l : List K) (pre : List (KX cols)) : List K := l.mapIdx fun i c => if pre.any (fun x => x.1.1 == i) = true then c else K.zero
theorem fillK_len {cols : List Col} {l : List K} {pre : List (KX cols)} : (fillK l pre).length = l.length := by simp [fillK]
theorem fillK_get {cols : List Col} {l : List K} {pre : List (KX cols)} {i : Nat} (h : i < (fillK l pre).length) : (fillK l pre)[i] = if pre.any (fun x => x.1.1 == i) = true then l[i]'(by rw [fillK_len] at h; exact h) else K.zero := by
  simp [fillK]
theorem fillK_nil {cols : List Col} {l : List K} : fillK l ([] : List (KX cols)) = List.replicate l.length K.zero := by
  apply List.ext_getElem
  · simp [fillK]
  · intro i h1 h2; rw [fillK_get]; simp
theorem fillK_set {cols : List Col} {l : List K} {pre : List (KX cols)} {x : KX cols} (h : x.1.1 < l.length) : fillK l (pre ++ [x]) = (fillK l pre).set x.1.1 l[x.1.1] := by
  apply List.ext_getElem
  · simp [fillK]
  · intro i h1 h2
    rw [fillK_get, List.getElem_set]
    by_cases e : x.1.1 = i
    · subst e; simp
    · rw [if_neg e, fillK_get, List.any_append]
      have : ([x].any fun x => x.1.1 == i) = false := by simp [e]
      rw [this, Bool.or_false]
theorem fillK_skip {cols : List Col} {l : List K} {pre : List (KX cols)} {x : KX cols} (h : l.length ≤ x.1.1) : fillK l (pre ++ [x]) = fillK l pre := by
  apply List.ext_getElem
  · simp [fillK]
  · intro i h1 h2
    rw [fillK_get, fillK_get, List.any_append]
    have hi : i < l.length := by rw [fillK_len] at h2; exact h2
    have : ([x].any fun x => x.1.1 == i) = false := by simp; omega
    rw [this, Bool.or_false]
theorem isKey_any {cols : List Col} {i : Nat} : (keysUp cols cols.length).any (fun x => x.1.1 == i) = isKeyAt cols i := by
  rw [Bool.eq_iff_iff, List.any_eq_true]
  unfold isKeyAt
  constructor
  · rintro ⟨⟨⟨j, c⟩, hj, hc, hk⟩, _, h⟩
    simp only [beq_iff_eq] at h
    subst h
    simp only at hc hk
    rw [hc]; simpa using hk
  · intro h
    cases hc : cols[i]? with
    | none => rw [hc] at h; simp at h
    | some c =>
      rw [hc] at h
      have hi : i < cols.length := (List.getElem?_eq_some_iff.1 hc).1
      exact ⟨⟨(i, c), hi, hc, by simpa using h⟩, (keysUp_mem _ _).2 hi, by simp⟩
theorem fillK_all {cols : List Col} {l : List K} : fillK l (keysUp cols cols.length) = keyOf cols l := by
  unfold fillK keyOf
  congr 1
  funext i c
  rw [isKey_any]

set_option maxRecDepth 100000 in
set_option maxHeartbeats 4000000 in
theorem keyOf_in (F : Fence) (n : Nat) (h1F : F.fn 196) (hKF : F.fn 164) (hDF : F.fn 129) (hro : F.round = none) (hn : 3 ≤ n) (oid ver : Int) (nm : ByteArray) (id : Int) (cols : List Col) (a2 : Option Addr) (cap2 : Nat) (l : List K) (a : Option Addr) (cap : Nat) (w : World)
    (hl2 : Sl w (.slice a2 cols.length cap2) 3 (cols.map Col.cells)) (hlen2 : cols.length ≤ 1000) (hl : Sl w (.slice a l.length cap) 5 (l.map K.pc)) (hlen : l.length ≤ 1000) :
    CallsIn F n Tryz.prog 129 #[.agg #[.int .u32 oid, .int .u32 ver, .string nm, .int .u8 id, .slice a2 cols.length cap2], .slice a l.length cap] w fun e w' => ∃ g cap', e = .returned (.slice (some ⟨g, 0, none⟩) l.length cap') ∧ l.length ≤ cap' ∧ w.heap.size ≤ g ∧ RowAt w' g (keyOf cols l) ∧ Ext w w' := by
  have h1 : 1 ≤ n := by omega
  have HL := Hid.mk' hl
  have HL2 := Hid.mk' hl2
  clear hl hl2
  obtain ⟨cs, hmk0, hcs1, hcs2⟩ := run_makeK l.length hlen ((w.alloc (.cells #[.int .u32 oid, .int .u32 ver, .string nm, .int .u8 id, .slice a2 cols.length cap2] 112)).alloc (.cells #[.slice a l.length cap] 47))
  have hmk : (Instr.makeSlice 47 (.int .i64 (l.length : Int)) (.int .i64 (l.length : Int))).run Tryz.prog ((w.alloc (.cells #[.int .u32 oid, .int .u32 ver, .string nm, .int .u8 id, .slice a2 cols.length cap2] 112)).alloc (.cells #[.slice a l.length cap] 47)) = .ok (.slice (some ⟨w.heap.size + 1 + 1, 0, none⟩) l.length l.length) (((w.alloc (.cells #[.int .u32 oid, .int .u32 ver, .string nm, .int .u8 id, .slice a2 cols.length cap2] 112)).alloc (.cells #[.slice a l.length cap] 47)).alloc (.cells cs 195)) := by
    rw [hmk0]; simp
  have HC := Hid.mk' (And.intro hcs1 hcs2)
  clear hmk0 hcs1 hcs2
  refine callsIn_of_wp_marks Tryz.func129 rfl hDF ?_ hro
  simp only [Tryz.ntmps129, List.size_toArray, List.length_cons, List.length_nil, Nat.reduceAdd, Nat.reduceSub, Array.replicate_succ, Array.replicate_zero, List.push_toArray, List.append_toArray, List.nil_append, List.cons_append]
  gi_wp2_with (gi_at_call 164; refine (keys_in F (n - 1) hKF hro _ _ _ _ _ _).mono ?_; rintro e w' ⟨rfl, rfl⟩)
  have hE5 : Ext w (((((w.alloc (.cells #[.int .u32 oid, .int .u32 ver, .string nm, .int .u8 id, .slice a2 cols.length cap2] 112)).alloc (.cells #[.slice a l.length cap] 47)).alloc (.cells cs 195)).alloc (.cells #[.slice (some ⟨w.heap.size + 1 + 1, 0, none⟩) l.length l.length] 47)).alloc (.cells #[.int .u32 oid, .int .u32 ver, .string nm, .int .u8 id, .slice a2 cols.length cap2] 112)) := (((((Ext.refl w).alloc _).alloc _).alloc _).alloc _).alloc _
  have hB1 : Blk (((((w.alloc (.cells #[.int .u32 oid, .int .u32 ver, .string nm, .int .u8 id, .slice a2 cols.length cap2] 112)).alloc (.cells #[.slice a l.length cap] 47)).alloc (.cells cs 195)).alloc (.cells #[.slice (some ⟨w.heap.size + 1 + 1, 0, none⟩) l.length l.length] 47)).alloc (.cells #[.int .u32 oid, .int .u32 ver, .string nm, .int .u8 id, .slice a2 cols.length cap2] 112)) (w.heap.size + 1) #[.slice a l.length cap] 47 := (((Blk.new' _ _ (by simp)).alloc _).alloc _).alloc _
  have hB2 : Blk (((((w.alloc (.cells #[.int .u32 oid, .int .u32 ver, .string nm, .int .u8 id, .slice a2 cols.length cap2] 112)).alloc (.cells #[.slice a l.length cap] 47)).alloc (.cells cs 195)).alloc (.cells #[.slice (some ⟨w.heap.size + 1 + 1, 0, none⟩) l.length l.length] 47)).alloc (.cells #[.int .u32 oid, .int .u32 ver, .string nm, .int .u8 id, .slice a2 cols.length cap2] 112)) (w.heap.size + 1 + 1) cs 195 := ((Blk.new' _ _ (by simp)).alloc _).alloc _
  have hB3 : Blk (((((w.alloc (.cells #[.int .u32 oid, .int .u32 ver, .string nm, .int .u8 id, .slice a2 cols.length cap2] 112)).alloc (.cells #[.slice a l.length cap] 47)).alloc (.cells cs 195)).alloc (.cells #[.slice (some ⟨w.heap.size + 1 + 1, 0, none⟩) l.length l.length] 47)).alloc (.cells #[.int .u32 oid, .int .u32 ver, .string nm, .int .u8 id, .slice a2 cols.length cap2] 112)) (w.heap.size + 1 + 1 + 1) #[.slice (some ⟨w.heap.size + 1 + 1, 0, none⟩) l.length l.length] 47 := (Blk.new' _ _ (by simp)).alloc _
  have hB4 : Blk (((((w.alloc (.cells #[.int .u32 oid, .int .u32 ver, .string nm, .int .u8 id, .slice a2 cols.length cap2] 112)).alloc (.cells #[.slice a l.length cap] 47)).alloc (.cells cs 195)).alloc (.cells #[.slice (some ⟨w.heap.size + 1 + 1, 0, none⟩) l.length l.length] 47)).alloc (.cells #[.int .u32 oid, .int .u32 ver, .string nm, .int .u8 id, .slice a2 cols.length cap2] 112)) (w.heap.size + 1 + 1 + 1 + 1) #[.int .u32 oid, .int .u32 ver, .string nm, .int .u8 id, .slice a2 cols.length cap2] 112 := Blk.new' _ _ (by simp)
  have hRow : RowAt (((((w.alloc (.cells #[.int .u32 oid, .int .u32 ver, .string nm, .int .u8 id, .slice a2 cols.length cap2] 112)).alloc (.cells #[.slice a l.length cap] 47)).alloc (.cells cs 195)).alloc (.cells #[.slice (some ⟨w.heap.size + 1 + 1, 0, none⟩) l.length l.length] 47)).alloc (.cells #[.int .u32 oid, .int .u32 ver, .string nm, .int .u8 id, .slice a2 cols.length cap2] 112)) (w.heap.size + 1 + 1) (fillK l ([] : List (KX cols))) := by
    rw [fillK_nil]
    refine ⟨cs, hB2, by rw [List.length_replicate]; exact HC.out.1, fun i hi j hj => ?_⟩
    rw [List.length_replicate] at hi
    rw [List.getElem_replicate]
    exact HC.out.2 i hi j hj
  clear hmk
  refine wpIn_rangeFunc_ownG hro h1 (gf := 196) (lb := #[.pointer (some ⟨w.heap.size + 1 + 1 + 1 + 1, 0, none⟩)]) rfl h1F (enters_of Tryz.func196 (by kernel_rfl) rfl)
    (keys_stops F (n - 1) h1F hro (by omega) (w.heap.size + 1 + 1 + 1 + 1) w a2 cap2 cols hlen2 HL2.out _ hE5 (hB4.cell 4) hB4.lt) belowK_t (belowK_b (by simp; omega)) (Below.refl _ _) (fun _ => rfl)
    (fun pre W => (RowAt W (w.heap.size + 1 + 1) (fillK l pre) ∧ W.cell? ⟨w.heap.size + 1 + 1 + 1, 0, none⟩ = some (.slice (some ⟨w.heap.size + 1 + 1, 0, none⟩) l.length l.length) ∧ W.cell? ⟨w.heap.size + 1, 0, none⟩ = some (.slice a l.length cap)) ∧ Below w.heap.size w W)
    (fun _ _ _ => False)
    (OwnFrom.and (Own.from (fun s A B row hs hg hr => ⟨hs.1.kept hg hr, cell_kept hs.2.1 hg hr, cell_kept hs.2.2 hg hr⟩) _) (ownFrom_below (Nat.le_refl _) (by simp; omega)))
    (fun _ _ _ _ _ hs _ _ => hs)
    ⟨⟨hRow, hB3.cell 0, hB1.cell 0⟩, hE5⟩
    (fun x => { tmps := #[.agg #[.int .u32 oid, .int .u32 ver, .string nm, .int .u8 id, .slice a2 cols.length cap2], .slice a l.length cap, .pointer (some ⟨w.heap.size, 0, none⟩), .pointer (some ⟨w.heap.size + 1, 0, none⟩), .slice none 0 0, .pointer (some ⟨w.heap.size + 1 + 1 + 1, 0, none⟩), .int .i64 (x.1.1 : Int), .slice a l.length cap, .int .i64 (l.length : Int), .slice (some ⟨w.heap.size + 1 + 1, 0, none⟩) l.length l.length, .agg #[.int .u32 oid, .int .u32 ver, .string nm, .int .u8 id, .slice a2 cols.length cap2], .func (.func 196) #[] #[.pointer (some ⟨w.heap.size + 1 + 1 + 1 + 1, 0, none⟩)], .int .i64 (x.1.1 : Int), .agg #[.string x.1.2.nm, .int .u8 x.1.2.ty, .bool x.1.2.key], undef, undef, undef, undef, undef, undef, undef, undef, undef, undef, undef, undef], defers := [] }) ?assign ?body ?done ?stop
  case assign =>
    intro l x W K hK
    unfold encK
    rw [fold_two]
    gi_wp2
    exact hK
  case body =>
    rintro lr pre x W ⟨⟨hr, hco, hcw⟩, hB⟩ _
    have HR := Hid.mk' hr
    have HB := Hid.mk' hB
    clear hr hB
    have hx : x.1.1 < cols.length := x.2.1
    have hmx : Tryz.prog.follows .mixedOrders = true := by kernel_rfl
    by_cases hlt : x.1.1 < l.length
    · obtain ⟨b, o, rfl, hb, hc⟩ := HL.out.at_ (i := x.1.1) (by simpa using hlt)
      obtain ⟨f0, f1, f2, f3, f4⟩ := K.pcAt hlt hc hb HB.out
      have hs := HR.out.cells (i := x.1.1) (by rw [fillK_len]; exact hlt)
      obtain ⟨s0, s1, s2, s3, s4⟩ := hs
      have sf := HR.out.frozen
      have HU := Hid.mk' (fillK_set (pre := pre) hlt)
      clear hc
      gi_wp2
      gi_region_with_o (fail)
      all_goals
        gi_wp2
        have HBW := Hid.mk' (((((((Below.refl w.heap.size W).setCell (p := ⟨w.heap.size + 1 + 1, x.1.1 * 5, none⟩) (by show w.heap.size ≤ w.heap.size + 1 + 1; omega) (.int .u8 l[x.1.1].k)).setCell (p := ⟨w.heap.size + 1 + 1, x.1.1 * 5 + 1, none⟩) (by show w.heap.size ≤ w.heap.size + 1 + 1; omega) (.int .u8 l[x.1.1].v.ty)).setCell (p := ⟨w.heap.size + 1 + 1, x.1.1 * 5 + 2, none⟩) (by show w.heap.size ≤ w.heap.size + 1 + 1; omega) (.int .i64 l[x.1.1].v.n)).setCell (p := ⟨w.heap.size + 1 + 1, x.1.1 * 5 + 3, none⟩) (by show w.heap.size ≤ w.heap.size + 1 + 1; omega) (.complex .f64 l[x.1.1].v.x l[x.1.1].v.y)).setCell (p := ⟨w.heap.size + 1 + 1, x.1.1 * 5 + 4, none⟩) (by show w.heap.size ≤ w.heap.size + 1 + 1; omega) (.string l[x.1.1].v.s)).drew)
        refine ⟨((((((KeepsOthers.setCell _ _ _).trans (KeepsOthers.setCell _ _ _)).trans (KeepsOthers.setCell _ _ _)).trans (KeepsOthers.setCell _ _ _)).trans (KeepsOthers.setCell _ _ _)).trans (KeepsOthers.drew _)).from _, HBW.out, ⟨by rw [HU.out]; exact (HR.out.set (by rw [fillK_len]; exact hlt) l[x.1.1]).drew, ?_, ?_⟩, HB.out.trans HBW.out⟩ <;> go_simp
    · have hge : l.length ≤ x.1.1 := by omega
      have HU := Hid.mk' (fillK_skip (pre := pre) hge)
      gi_wp2
      exact ⟨KeepsFrom.refl _ _, Below.refl _ _, ⟨by rw [HU.out]; exact HR.out, hco, hcw⟩, HB.out⟩
  case done =>
    rintro D ys W hD rfl ⟨⟨hr, hco, hcw⟩, hB⟩ hK
    gi_wp2
    refine ⟨by simp, .inl ⟨_, _, rfl, run_takeDeferred hK, ?_⟩⟩
    refine ⟨_, results_tmp rfl _ _ _, w.heap.size + 1 + 1, l.length, rfl, Nat.le_refl _, by omega, ?_, hB.trans (belowK_b (w := w) (Nat.le_refl _) W D _ _ (by simp at hD; omega) hK rfl rfl)⟩
    rw [← fillK_all]
    exact hr.kept (grownBy_putObj' _ D (.deferred none)) (fun r e => by cases e; exact ⟨_, hK, rfl⟩)
  case stop =>
    rintro D c pre W _ _ h _
    exact h.elim

theorem keyOf_any (oid ver : Int) (nm : ByteArray) (id : Int) (cols : List Col) (a2 : Option Addr) (cap2 : Nat) (l : List K) (a : Option Addr) (cap : Nat) (w : World)
    (hl2 : Sl w (.slice a2 cols.length cap2) 3 (cols.map Col.cells)) (hlen2 : cols.length ≤ 1000) (hl : Sl w (.slice a l.length cap) 5 (l.map K.pc)) (hlen : l.length ≤ 1000) :
    Calls Tryz.prog 129 #[.agg #[.int .u32 oid, .int .u32 ver, .string nm, .int .u8 id, .slice a2 cols.length cap2], .slice a l.length cap] w fun e w' => ∃ g cap', e = .returned (.slice (some ⟨g, 0, none⟩) l.length cap') ∧ l.length ≤ cap' ∧ w.heap.size ≤ g ∧ RowAt w' g (keyOf cols l) ∧ Ext w w' :=
  callsIn_wide.1 (keyOf_in Fence.wide 3 trivial trivial trivial rfl (Nat.le_refl _) oid ver nm id cols a2 cap2 l a cap w hl2 hlen2 hl hlen)

end Go.Proofs.YtibgippchdmdlaaGreat

/-
The reference's cell: Texty, Right.
-/
namespace Go.Proofs.YtibgippchdmdlaaGreat
open Go.RowKit

set_option maxRecDepth 20000 in
theorem neq_val2 (ty n : Int) (x y : Nat) (s : ByteArray) (ty' n' : Int) (x' y' : Nat) (s' : ByteArray) (w : World) :
    (binOp .neq 168 (.agg #[.int .u8 ty, .int .i64 n, .int .u64 x, .int .u64 y, .string s]) (.agg #[.int .u8 ty', .int .i64 n', .int .u64 x', .int .u64 y', .string s'])).run Tryz.prog w = .ok (.bool (!sameB ty n x y s ty' n' x' y' s')) w := by
  by_cases h1 : ty = ty' <;> by_cases h2 : n = n' <;> by_cases h3 : x = x' <;> by_cases h4 : y = y' <;> by_cases h5 : s = s' <;> simp [go_sem, sameB, h1, h2, h3, h4, h5]
  all_goals first
    | (intro h; exact absurd (toList_inj' h) h5)
    | omega
    | (intros; omega)
    | (intros; intro h; exact absurd (toList_inj' h) h5)

set_option maxRecDepth 20000 in set_option maxHeartbeats 400000 in
theorem rtexty_yes (kind : Int) (w : World) (h : kind = 5 ∨ kind = 6) : Calls Tryz.prog 148 #[.int .u8 kind] w fun e w' => e = .returned (.bool true) ∧ w = w' := by
  rcases h with rfl | rfl
  all_goals
    go_enter Tryz.func148, Tryz.ntmps148
    go_wp2
    go_ret
    exact ⟨rfl, rfl⟩
set_option maxRecDepth 20000 in set_option maxHeartbeats 400000 in
theorem rtexty_no (kind : Int) (w : World) (h : kind ≠ 5 ∧ kind ≠ 6) : Calls Tryz.prog 148 #[.int .u8 kind] w fun e w' => e = .returned (.bool false) ∧ w = w' := by
  have h5 : (kind == 5) = false := by simpa using h.1
  have h6 : (kind == 6) = false := by simpa using h.2
  clear h
  go_enter Tryz.func148, Tryz.ntmps148
  go_wp2
  go_ret
  exact ⟨rfl, rfl⟩

set_option maxRecDepth 100000 in set_option maxHeartbeats 1600000 in
theorem rcright_any (k ty n : Int) (x y : Nat) (s : ByteArray) (kind : Int) (w : World) (hk0 : 0 ≤ k) (hs : s.size ≤ 9223372036854775807) :
    Calls Tryz.prog 147 #[.agg #[.int .u8 k, .int .u8 ty, .int .i64 n, .int .u64 x, .int .u64 y, .string s], .int .u8 kind] w fun e w' => e = .returned (.int .i64 (rightC k ty n x y s kind)) ∧ Ext w w' := by
  have HV := Hid.mk' (fun w => rright_any ty n x y s w hs)
  by_cases hkd : kind < 1 ∨ 6 < kind
  · have HR : Hid (rightC k ty n x y s kind = 11) := Hid.mk' (by unfold rightC; rw [if_pos hkd])
    by_cases h1 : kind < 1
    · clear hkd
      go_enter Tryz.func147, Tryz.ntmps147
      go_wp2
      go_ret
      exact ⟨ret_int HR.out.symm, by (repeat (with_reducible (first | exact Ext.refl _ | assumption | exact held_left (by assumption) | apply Ext.drewN | apply Ext.drew | apply Ext.alloc | (refine Ext.setCell ?_ (by first | (simp; done) | (simp; omega) | omega) _) | (refine Ext.trans ?_ (by assumption)) | (refine Ext.trans ?_ (held_left (by assumption))))))⟩
    · have h6 : 6 < kind := by omega
      clear hkd
      go_enter Tryz.func147, Tryz.ntmps147
      go_wp2
      go_ret
      exact ⟨ret_int HR.out.symm, by (repeat (with_reducible (first | exact Ext.refl _ | assumption | exact held_left (by assumption) | apply Ext.drewN | apply Ext.drew | apply Ext.alloc | (refine Ext.setCell ?_ (by first | (simp; done) | (simp; omega) | omega) _) | (refine Ext.trans ?_ (by assumption)) | (refine Ext.trans ?_ (held_left (by assumption))))))⟩
  have hd1 : 1 ≤ kind := by omega
  have hd2 : kind ≤ 6 := by omega
  by_cases hk2 : 2 < k
  · have HR : Hid (rightC k ty n x y s kind = 7) := Hid.mk' (by unfold rightC; rw [if_neg hkd, if_pos hk2])
    clear hkd
    go_enter Tryz.func147, Tryz.ntmps147
    go_wp2
    go_ret
    exact ⟨ret_int HR.out.symm, by (repeat (with_reducible (first | exact Ext.refl _ | assumption | exact held_left (by assumption) | apply Ext.drewN | apply Ext.drew | apply Ext.alloc | (refine Ext.setCell ?_ (by first | (simp; done) | (simp; omega) | omega) _) | (refine Ext.trans ?_ (by assumption)) | (refine Ext.trans ?_ (held_left (by assumption))))))⟩
  by_cases hk3 : k < 2
  · by_cases hz : ty = 0 ∧ n = 0 ∧ (x : Int) = 0 ∧ (y : Int) = 0 ∧ s.size = 0
    · obtain ⟨h_1, h_2, h_3, h_4, h_5⟩ := hz
      obtain rfl := h_1
      obtain rfl := h_2
      obtain rfl : x = 0 := by omega
      obtain rfl : y = 0 := by omega
      obtain rfl : s = ByteArray.empty := (size_zero s).2 h_5
      have hz : (0 : Int) = 0 ∧ (0 : Int) = 0 ∧ ((0 : Nat) : Int) = 0 ∧ ((0 : Nat) : Int) = 0 ∧ ByteArray.empty.size = 0 := ⟨rfl, rfl, rfl, rfl, rfl⟩
      clear h_3 h_4 h_5
      by_cases h1 : k = 1
      · subst h1
        by_cases ht : kind = 5 ∨ kind = 6
        · have HR : Hid (rightC 1 0 0 ((0 : Nat) : Int) ((0 : Nat) : Int) ByteArray.empty kind = 0) := Hid.mk' (by unfold rightC; rw [if_neg hkd, if_neg hk2, if_pos hk3, if_pos hz, if_neg (by omega)])
          have HX := Hid.mk' (fun w => rtexty_yes kind w ht)
          clear hkd hz ht
          go_enter Tryz.func147, Tryz.ntmps147
          go_wp2_with (go_at_call 148; refine (HX.out _).mono ?_; rintro e w1 ⟨rfl, rfl⟩)
          go_ret
          exact ⟨ret_int HR.out.symm, by (repeat (with_reducible (first | exact Ext.refl _ | assumption | exact held_left (by assumption) | apply Ext.drewN | apply Ext.drew | apply Ext.alloc | (refine Ext.setCell ?_ (by first | (simp; done) | (simp; omega) | omega) _) | (refine Ext.trans ?_ (by assumption)) | (refine Ext.trans ?_ (held_left (by assumption))))))⟩
        · have HR : Hid (rightC 1 0 0 ((0 : Nat) : Int) ((0 : Nat) : Int) ByteArray.empty kind = 11) := Hid.mk' (by unfold rightC; rw [if_neg hkd, if_neg hk2, if_pos hk3, if_pos hz, if_pos (by omega)])
          have HX := Hid.mk' (fun w => rtexty_no kind w (by omega))
          clear hkd hz ht
          go_enter Tryz.func147, Tryz.ntmps147
          go_wp2_with (go_at_call 148; refine (HX.out _).mono ?_; rintro e w1 ⟨rfl, rfl⟩)
          go_ret
          exact ⟨ret_int HR.out.symm, by (repeat (with_reducible (first | exact Ext.refl _ | assumption | exact held_left (by assumption) | apply Ext.drewN | apply Ext.drew | apply Ext.alloc | (refine Ext.setCell ?_ (by first | (simp; done) | (simp; omega) | omega) _) | (refine Ext.trans ?_ (by assumption)) | (refine Ext.trans ?_ (held_left (by assumption))))))⟩
      · obtain rfl : k = 0 := by omega
        have HR : Hid (rightC 0 0 0 ((0 : Nat) : Int) ((0 : Nat) : Int) ByteArray.empty kind = 0) := Hid.mk' (by unfold rightC; rw [if_neg hkd, if_neg hk2, if_pos hk3, if_pos hz, if_neg (by omega)])
        clear hkd hz h1
        go_enter Tryz.func147, Tryz.ntmps147
        go_wp2
        go_ret
        exact ⟨ret_int HR.out.symm, by (repeat (with_reducible (first | exact Ext.refl _ | assumption | exact held_left (by assumption) | apply Ext.drewN | apply Ext.drew | apply Ext.alloc | (refine Ext.setCell ?_ (by first | (simp; done) | (simp; omega) | omega) _) | (refine Ext.trans ?_ (by assumption)) | (refine Ext.trans ?_ (held_left (by assumption))))))⟩
    · have HR : Hid (rightC k ty n x y s kind = 3) := Hid.mk' (by unfold rightC; rw [if_neg hkd, if_neg hk2, if_pos hk3, if_neg hz])
      have HZ := Hid.mk' hz
      clear hkd hz
      by_cases g1 : ty = 0
      · subst g1
        by_cases g2 : n = 0
        · subst g2
          by_cases g3 : x = 0
          · subst g3
            by_cases g4 : y = 0
            · subst g4
              have g5 : ¬ s.toList = [] := by
                intro h
                refine HZ.out ⟨rfl, rfl, rfl, rfl, ?_⟩
                have := isEmpty_size s
                rw [h] at this
                exact of_decide_eq_true this.symm
              have g6 : (s.toList == []) = false := by simpa using g5
              go_enter Tryz.func147, Tryz.ntmps147
              go_wp2
              go_ret
              exact ⟨ret_int HR.out.symm, by (repeat (with_reducible (first | exact Ext.refl _ | assumption | exact held_left (by assumption) | apply Ext.drewN | apply Ext.drew | apply Ext.alloc | (refine Ext.setCell ?_ (by first | (simp; done) | (simp; omega) | omega) _) | (refine Ext.trans ?_ (by assumption)) | (refine Ext.trans ?_ (held_left (by assumption))))))⟩
            · go_enter Tryz.func147, Tryz.ntmps147
              go_wp2
              go_ret
              exact ⟨ret_int HR.out.symm, by (repeat (with_reducible (first | exact Ext.refl _ | assumption | exact held_left (by assumption) | apply Ext.drewN | apply Ext.drew | apply Ext.alloc | (refine Ext.setCell ?_ (by first | (simp; done) | (simp; omega) | omega) _) | (refine Ext.trans ?_ (by assumption)) | (refine Ext.trans ?_ (held_left (by assumption))))))⟩
          · go_enter Tryz.func147, Tryz.ntmps147
            go_wp2
            go_ret
            exact ⟨ret_int HR.out.symm, by (repeat (with_reducible (first | exact Ext.refl _ | assumption | exact held_left (by assumption) | apply Ext.drewN | apply Ext.drew | apply Ext.alloc | (refine Ext.setCell ?_ (by first | (simp; done) | (simp; omega) | omega) _) | (refine Ext.trans ?_ (by assumption)) | (refine Ext.trans ?_ (held_left (by assumption))))))⟩
        · go_enter Tryz.func147, Tryz.ntmps147
          go_wp2
          go_ret
          exact ⟨ret_int HR.out.symm, by (repeat (with_reducible (first | exact Ext.refl _ | assumption | exact held_left (by assumption) | apply Ext.drewN | apply Ext.drew | apply Ext.alloc | (refine Ext.setCell ?_ (by first | (simp; done) | (simp; omega) | omega) _) | (refine Ext.trans ?_ (by assumption)) | (refine Ext.trans ?_ (held_left (by assumption))))))⟩
      · go_enter Tryz.func147, Tryz.ntmps147
        go_wp2
        go_ret
        exact ⟨ret_int HR.out.symm, by (repeat (with_reducible (first | exact Ext.refl _ | assumption | exact held_left (by assumption) | apply Ext.drewN | apply Ext.drew | apply Ext.alloc | (refine Ext.setCell ?_ (by first | (simp; done) | (simp; omega) | omega) _) | (refine Ext.trans ?_ (by assumption)) | (refine Ext.trans ?_ (held_left (by assumption))))))⟩
  · obtain rfl : k = 2 := by omega
    obtain ⟨R, hR⟩ : ∃ R, R = rightV ty n x y s := ⟨_, rfl⟩
    rw [← hR] at HV
    by_cases h0 : R = 0
    · subst h0
      by_cases ht : ty = kind
      · have HR : Hid (rightC 2 ty n x y s kind = 0) := Hid.mk' (right_mk hR.symm ht)
        subst ht
        clear hkd hR
        go_enter Tryz.func147, Tryz.ntmps147
        go_wp2_with (go_at_call 177; refine (HV.out _).mono ?_; rintro e w1 ⟨rfl, hb1⟩; have h1 := (Blk.new w #[.int .u8 2, .int .u8 ty, .int .i64 n, .int .u64 x, .int .u64 y, .string s] 170).ext hb1; have k1 := h1.cell; have z1 := h1.lt)
        go_ret
        exact ⟨ret_int HR.out.symm, by (repeat (with_reducible (first | exact Ext.refl _ | assumption | exact held_left (by assumption) | apply Ext.drewN | apply Ext.drew | apply Ext.alloc | (refine Ext.setCell ?_ (by first | (simp; done) | (simp; omega) | omega) _) | (refine Ext.trans ?_ (by assumption)) | (refine Ext.trans ?_ (held_left (by assumption))))))⟩
      · have HR : Hid (rightC 2 ty n x y s kind = 11) := Hid.mk' (by unfold rightC; rw [if_neg hkd, if_neg hk2, if_neg hk3, if_neg (by rw [← hR]; decide), if_pos ht])
        have ht2 : (ty != kind) = true := by simpa using ht
        clear hkd hR ht
        go_enter Tryz.func147, Tryz.ntmps147
        go_wp2_with (go_at_call 177; refine (HV.out _).mono ?_; rintro e w1 ⟨rfl, hb1⟩; have h1 := (Blk.new w #[.int .u8 2, .int .u8 ty, .int .i64 n, .int .u64 x, .int .u64 y, .string s] 170).ext hb1; have k1 := h1.cell; have z1 := h1.lt)
        go_ret
        exact ⟨ret_int HR.out.symm, by (repeat (with_reducible (first | exact Ext.refl _ | assumption | exact held_left (by assumption) | apply Ext.drewN | apply Ext.drew | apply Ext.alloc | (refine Ext.setCell ?_ (by first | (simp; done) | (simp; omega) | omega) _) | (refine Ext.trans ?_ (by assumption)) | (refine Ext.trans ?_ (held_left (by assumption))))))⟩
    · have HR : Hid (rightC 2 ty n x y s kind = R) := Hid.mk' (by unfold rightC; rw [if_neg hkd, if_neg hk2, if_neg hk3, if_pos (by rw [← hR]; exact h0), hR])
      have h02 : (R != 0) = true := by simpa using h0
      clear hkd hR h0
      go_enter Tryz.func147, Tryz.ntmps147
      go_wp2_with (go_at_call 177; refine (HV.out _).mono ?_; rintro e w1 ⟨rfl, hb1⟩; have h1 := (Blk.new w #[.int .u8 2, .int .u8 ty, .int .i64 n, .int .u64 x, .int .u64 y, .string s] 170).ext hb1; have k1 := h1.cell; have z1 := h1.lt)
      go_ret
      exact ⟨ret_int HR.out.symm, by (repeat (with_reducible (first | exact Ext.refl _ | assumption | exact held_left (by assumption) | apply Ext.drewN | apply Ext.drew | apply Ext.alloc | (refine Ext.setCell ?_ (by first | (simp; done) | (simp; omega) | omega) _) | (refine Ext.trans ?_ (by assumption)) | (refine Ext.trans ?_ (held_left (by assumption))))))⟩

end Go.Proofs.YtibgippchdmdlaaGreat

/-
Whether a row fits a relation: the program's answer, the reference's.
-/
namespace Go.Proofs.YtibgippchdmdlaaGreat
open Go.RowKit

/-- What is wrong with the cell of a column. -/
def fitAt (l : List K) (cols : List Col) (i : Nat) : Int := if h : i < l.length ∧ i < cols.length then (l[i]'h.1).right (cols[i]'h.2).ty else 0
theorem fitAt_lt {l : List K} {cols : List Col} {i : Nat} (h : i < l.length) (h2 : i < cols.length) : fitAt l cols i = l[i].right cols[i].ty := by unfold fitAt; rw [dif_pos ⟨h, h2⟩]
/-- What is wrong with a row of a relation. -/
def fitsE (l : List K) (r : Rl) : Int := if r.right ≠ 0 then r.right else if l.length ≠ r.cols.length then 17 else firstE (fitAt l r.cols) l.length

structure K.wk (c : K) : Prop where
  k : 0 ≤ c.k
  s : c.v.s.size ≤ 9223372036854775807

set_option maxRecDepth 100000 in set_option maxHeartbeats 4000000 in
theorem fits_any (l : List K) (a : Option Addr) (cap : Nat) (oid ver : Int) (nm : ByteArray) (id : Int) (cols : List Col) (a2 : Option Addr) (cap2 : Nat) (w : World) (hl : Sl w (.slice a l.length cap) 5 (l.map K.pc)) (hl2 : Sl w (.slice a2 cols.length cap2) 3 (cols.map Col.cells))
    (hcap2 : cols.length ≤ cap2) (_hlen : l.length ≤ 1000) (hlen2 : cols.length ≤ 1000) (hs : ∀ c ∈ l, c.wk) (hs2 : ∀ c ∈ cols, c.nm.size ≤ 9223372036854775807) (hnm : nm.size ≤ 9223372036854775807) :
    Calls Tryz.prog 137 #[.slice a l.length cap, .agg #[.int .u32 oid, .int .u32 ver, .string nm, .int .u8 id, .slice a2 cols.length cap2]] w fun e w' => e = .returned (.int .i64 (fitsE l (⟨oid, ver, nm, id, cols⟩ : Rl))) ∧ Ext w w' := by
  have HR := Hid.mk' (fun W (h : Ext w W) => right8_any oid ver nm id cols a2 cap2 W (hl2.ext h) hcap2 hlen2 hnm hs2)
  have HF : Hid (fitsE l (⟨oid, ver, nm, id, cols⟩ : Rl) = if (⟨oid, ver, nm, id, cols⟩ : Rl).right ≠ 0 then (⟨oid, ver, nm, id, cols⟩ : Rl).right else if l.length ≠ cols.length then 17 else firstE (fitAt l cols) l.length) := Hid.mk' rfl
  have HL := Hid.mk' hl
  have HL2 := Hid.mk' hl2
  have HS := Hid.mk' hs
  clear hl hl2 hs hs2
  generalize (⟨oid, ver, nm, id, cols⟩ : Rl).right = E at *
  by_cases h0 : E = 0
  case neg =>
    have HF2 := Hid.mk' (HF.out.trans (if_pos h0))
    have h0' : (E != 0) = true := by simpa using h0
    clear h0 HF
    go_enter Tryz.func137, Tryz.ntmps137
    go_wp2_with (go_at_call 130; refine (HR.out _ (by (repeat (with_reducible (first | exact Ext.refl _ | assumption | exact held_left (by assumption) | apply Ext.drewN | apply Ext.drew | apply Ext.alloc | (refine Ext.setCell ?_ (by first | (simp; done) | (simp; omega) | omega) _) | (refine Ext.trans ?_ (by assumption)) | (refine Ext.trans ?_ (held_left (by assumption)))))))).mono ?_; rintro e w1 ⟨rfl, hb1⟩; have hE1 : Ext w w1 := (by (repeat (with_reducible (first | exact Ext.refl _ | assumption | exact held_left (by assumption) | apply Ext.drewN | apply Ext.drew | apply Ext.alloc | (refine Ext.setCell ?_ (by first | (simp; done) | (simp; omega) | omega) _) | (refine Ext.trans ?_ (by assumption)) | (refine Ext.trans ?_ (held_left (by assumption))))))))
    go_ret
    exact ⟨ret_int HF2.out.symm, hE1⟩
  subst h0
  have HF2 := Hid.mk' (HF.out.trans (if_neg (by simp)))
  clear HF
  by_cases hn : l.length = cols.length
  case neg =>
    have HF3 := Hid.mk' (HF2.out.trans (if_pos hn))
    have hn' : (((l.length : Nat) : Int) != ((cols.length : Nat) : Int)) = true := by simp; omega
    clear hn HF2
    go_enter Tryz.func137, Tryz.ntmps137
    go_wp2_with (go_at_call 130; refine (HR.out _ (by (repeat (with_reducible (first | exact Ext.refl _ | assumption | exact held_left (by assumption) | apply Ext.drewN | apply Ext.drew | apply Ext.alloc | (refine Ext.setCell ?_ (by first | (simp; done) | (simp; omega) | omega) _) | (refine Ext.trans ?_ (by assumption)) | (refine Ext.trans ?_ (held_left (by assumption)))))))).mono ?_; rintro e w1 ⟨rfl, hb1⟩; have hE1 : Ext w w1 := (by (repeat (with_reducible (first | exact Ext.refl _ | assumption | exact held_left (by assumption) | apply Ext.drewN | apply Ext.drew | apply Ext.alloc | (refine Ext.setCell ?_ (by first | (simp; done) | (simp; omega) | omega) _) | (refine Ext.trans ?_ (by assumption)) | (refine Ext.trans ?_ (held_left (by assumption))))))); have g0 := ((Blk.new w #[.int .u32 oid, .int .u32 ver, .string nm, .int .u8 id, .slice a2 cols.length cap2] 112).ext hb1).cell)
    go_ret
    exact ⟨ret_int HF3.out.symm, hE1⟩
  have HF3 := Hid.mk' (HF2.out.trans (if_neg (by simpa using hn)))
  have hn' : (((l.length : Nat) : Int) != ((cols.length : Nat) : Int)) = false := by simp; omega
  have hnl : l.length ≤ cols.length := by omega
  clear HF2
  have HNE := Hid.mk' hn
  clear hn
  go_enter Tryz.func137, Tryz.ntmps137
  go_wp2_with (go_at_call 130; refine (HR.out _ (by (repeat (with_reducible (first | exact Ext.refl _ | assumption | exact held_left (by assumption) | apply Ext.drewN | apply Ext.drew | apply Ext.alloc | (refine Ext.setCell ?_ (by first | (simp; done) | (simp; omega) | omega) _) | (refine Ext.trans ?_ (by assumption)) | (refine Ext.trans ?_ (held_left (by assumption)))))))).mono ?_; rintro e w1 ⟨rfl, hb1⟩; have hE1 := Hid.mk' hb1; have g0 := ((Blk.new w #[.int .u32 oid, .int .u32 ver, .string nm, .int .u8 id, .slice a2 cols.length cap2] 112).ext hb1).cell; clear hb1)
  go_loopw [22] (fun i wr => ∃ k : Nat, k ≤ l.length ∧ i = .int .i64 k ∧ Hid (∀ j, j < k → fitAt l cols j = 0) ∧ Hid (Ext (w.alloc (.cells #[.int .u32 oid, .int .u32 ver, .string nm, .int .u8 id, .slice a2 cols.length cap2] 112)) wr)) (fun i _ => l.length - (intOf i).toNat)
  case atStart => exact ⟨0, Nat.zero_le _, rfl, fun j h => by omega, hE1⟩
  case round =>
    obtain ⟨k, hk, rfl, hrel, hE⟩ := hrel
    have hEw : Hid (Ext w wr) := Hid.mk' (((Ext.refl w).alloc _).trans hE.out)
    by_cases hlt : k < l.length
    · have hlt2 : k < cols.length := by omega
      have hBx := (Blk.new w #[.int .u32 oid, .int .u32 ver, .string nm, .int .u8 id, .slice a2 cols.length cap2] 112).ext hE.out
      have g0 := hBx.cell
      have z0 := hBx.lt
      obtain ⟨b, o, rfl, hb, hx⟩ := HL.out.at_ (i := k) (by simpa using hlt)
      obtain ⟨f0, f1, f2, f3, f4⟩ := K.pcAt hlt hx hb hEw.out
      obtain ⟨b2, o2, rfl, hb2, hx2⟩ := HL2.out.at_ (i := k) (by simpa using hlt2)
      obtain ⟨p0, p1, p2⟩ := Col.at_ hlt2 hx2 hb2 hEw.out
      have hbw : b < wr.heap.size := Nat.lt_of_lt_of_le hb hEw.out.size
      have hbw2 : b2 < wr.heap.size := Nat.lt_of_lt_of_le hb2 hEw.out.size
      have hwk := HS.out _ (List.getElem_mem hlt)
      have HC := Hid.mk' (fun W => cright_any l[k].k l[k].v.ty l[k].v.n l[k].v.x l[k].v.y l[k].v.s cols[k].ty W hwk.k hwk.s)
      have hAt := fitAt_lt hlt hlt2
      unfold K.right at hAt
      obtain ⟨E, hE0⟩ : ∃ E, E = rightC l[k].k l[k].v.ty l[k].v.n l[k].v.x l[k].v.y l[k].v.s cols[k].ty := ⟨_, rfl⟩
      rw [← hE0] at HC hAt
      have HAt := Hid.mk' hAt
      clear hx hx2 hAt hE0 hBx hwk
      by_cases h0 : E = 0
      · subst h0
        go_wp2
        go_region_held3 (fun w' => Ext (wr.alloc (.cells #[.int .u8 l[k].k, .int .u8 l[k].v.ty, .int .i64 l[k].v.n, .complex .f64 l[k].v.x l[k].v.y, .string l[k].v.s] 195)) w' ∧ (∀ b o, b < (wr.alloc (.cells #[.int .u8 l[k].k, .int .u8 l[k].v.ty, .int .i64 l[k].v.n, .complex .f64 l[k].v.x l[k].v.y, .string l[k].v.s] 195)).heap.size → w'.cell? ⟨b, o, none⟩ = (wr.alloc (.cells #[.int .u8 l[k].k, .int .u8 l[k].v.ty, .int .i64 l[k].v.n, .complex .f64 l[k].v.x l[k].v.y, .string l[k].v.s] 195)).cell? ⟨b, o, none⟩) ∧ (∀ b o, b < (wr.alloc (.cells #[.int .u8 l[k].k, .int .u8 l[k].v.ty, .int .i64 l[k].v.n, .complex .f64 l[k].v.x l[k].v.y, .string l[k].v.s] 195)).heap.size → w'.frozen? ⟨b, o, none⟩ = (wr.alloc (.cells #[.int .u8 l[k].k, .int .u8 l[k].v.ty, .int .i64 l[k].v.n, .complex .f64 l[k].v.x l[k].v.y, .string l[k].v.s] 195)).frozen? ⟨b, o, none⟩)) ((exact held_of (by (repeat (with_reducible (first | exact Ext.refl _ | assumption | exact held_left (by assumption) | apply Ext.drewN | apply Ext.drew | apply Ext.alloc | (refine Ext.setCell ?_ (by first | (simp; done) | (simp; omega) | omega) _) | (refine Ext.trans ?_ (by assumption)) | (refine Ext.trans ?_ (held_left (by assumption)))))))))
          (first
            | (go_at_call 171; refine (HC.out _).mono ?_; rintro e w2 ⟨rfl, hb2'⟩))
        go_wp2
        go_roundw
        case rel => exact ⟨k + 1, by omega, by go_num, fun j hj => by
          by_cases e : j = k
          · subst e; exact HAt.out
          · exact hrel.out j (by omega), Hid.mk' (hE.out.trans (by (repeat (with_reducible (first | exact Ext.refl _ | assumption | exact held_left (by assumption) | apply Ext.drewN | apply Ext.drew | apply Ext.alloc | (refine Ext.setCell ?_ (by first | (simp; done) | (simp; omega) | omega) _) | (refine Ext.trans ?_ (by assumption)) | (refine Ext.trans ?_ (held_left (by assumption))))))))⟩
        case measure => simp [intOf]; omega
      · have h0' : (E != 0) = true := by simpa using h0
        have HR2 := Hid.mk' (HF3.out.trans (show firstE (fitAt l cols) l.length = E by rw [firstE_at hrel.out hlt (by rw [HAt.out]; exact h0), HAt.out]))
        clear h0
        go_wp2
        go_region_held3 (fun w' => Ext (wr.alloc (.cells #[.int .u8 l[k].k, .int .u8 l[k].v.ty, .int .i64 l[k].v.n, .complex .f64 l[k].v.x l[k].v.y, .string l[k].v.s] 195)) w' ∧ (∀ b o, b < (wr.alloc (.cells #[.int .u8 l[k].k, .int .u8 l[k].v.ty, .int .i64 l[k].v.n, .complex .f64 l[k].v.x l[k].v.y, .string l[k].v.s] 195)).heap.size → w'.cell? ⟨b, o, none⟩ = (wr.alloc (.cells #[.int .u8 l[k].k, .int .u8 l[k].v.ty, .int .i64 l[k].v.n, .complex .f64 l[k].v.x l[k].v.y, .string l[k].v.s] 195)).cell? ⟨b, o, none⟩) ∧ (∀ b o, b < (wr.alloc (.cells #[.int .u8 l[k].k, .int .u8 l[k].v.ty, .int .i64 l[k].v.n, .complex .f64 l[k].v.x l[k].v.y, .string l[k].v.s] 195)).heap.size → w'.frozen? ⟨b, o, none⟩ = (wr.alloc (.cells #[.int .u8 l[k].k, .int .u8 l[k].v.ty, .int .i64 l[k].v.n, .complex .f64 l[k].v.x l[k].v.y, .string l[k].v.s] 195)).frozen? ⟨b, o, none⟩)) ((exact held_of (by (repeat (with_reducible (first | exact Ext.refl _ | assumption | exact held_left (by assumption) | apply Ext.drewN | apply Ext.drew | apply Ext.alloc | (refine Ext.setCell ?_ (by first | (simp; done) | (simp; omega) | omega) _) | (refine Ext.trans ?_ (by assumption)) | (refine Ext.trans ?_ (held_left (by assumption)))))))))
          (first
            | (go_at_call 171; refine (HC.out _).mono ?_; rintro e w2 ⟨rfl, hb2'⟩))
        go_wp2
        go_ret
        exact ⟨ret_int HR2.out.symm, hEw.out.trans (by (repeat (with_reducible (first | exact Ext.refl _ | assumption | exact held_left (by assumption) | apply Ext.drewN | apply Ext.drew | apply Ext.alloc | (refine Ext.setCell ?_ (by first | (simp; done) | (simp; omega) | omega) _) | (refine Ext.trans ?_ (by assumption)) | (refine Ext.trans ?_ (held_left (by assumption)))))))⟩
    · have hkk : k = l.length := by omega
      have HR2 := Hid.mk' (HF3.out.trans (firstE_zero (fun i hi => hrel.out i (by omega))))
      subst hkk
      go_wp2
      go_ret
      exact ⟨ret_int HR2.out.symm, hEw.out⟩

set_option maxRecDepth 100000 in set_option maxHeartbeats 4000000 in
theorem rfits_big (l : List K) (a : Option Addr) (cap : Nat) (oid ver : Int) (nm : ByteArray) (id : Int) (cols : List Col) (a2 : Option Addr) (cap2 : Nat) (w : World) (hl : Sl w (.slice a l.length cap) 6 (l.map K.rc)) (hl2 : Sl w (.slice a2 cols.length cap2) 3 (cols.map Col.cells))
    (_hlen : l.length ≤ 9223372036854775807) (hlen2 : cols.length ≤ 9223372036854775807) (hs : ∀ c ∈ l, c.wk) (hs2 : ∀ c ∈ cols, c.nm.size ≤ 9223372036854775807) (hnm : nm.size ≤ 9223372036854775807) :
    Calls Tryz.prog 98 #[.slice a l.length cap, .agg #[.int .u32 oid, .int .u32 ver, .string nm, .int .u8 id, .slice a2 cols.length cap2]] w fun e w' => e = .returned (.int .i64 (fitsE l (⟨oid, ver, nm, id, cols⟩ : Rl))) ∧ Ext w w' := by
  have HR := Hid.mk' (fun W (h : Ext w W) => rright8_big oid ver nm id cols a2 cap2 W (hl2.ext h) hlen2 hnm hs2)
  have HF : Hid (fitsE l (⟨oid, ver, nm, id, cols⟩ : Rl) = if (⟨oid, ver, nm, id, cols⟩ : Rl).right ≠ 0 then (⟨oid, ver, nm, id, cols⟩ : Rl).right else if l.length ≠ cols.length then 17 else firstE (fitAt l cols) l.length) := Hid.mk' rfl
  have HL := Hid.mk' hl
  have HL2 := Hid.mk' hl2
  have HS := Hid.mk' hs
  clear hl hl2 hs hs2
  generalize (⟨oid, ver, nm, id, cols⟩ : Rl).right = E at *
  by_cases h0 : E = 0
  case neg =>
    have HF2 := Hid.mk' (HF.out.trans (if_pos h0))
    have h0' : (E != 0) = true := by simpa using h0
    clear h0 HF
    go_enter Tryz.func98, Tryz.ntmps98
    go_wp2_with (go_at_call 118; refine (HR.out _ (by (repeat (with_reducible (first | exact Ext.refl _ | assumption | exact held_left (by assumption) | apply Ext.drewN | apply Ext.drew | apply Ext.alloc | (refine Ext.setCell ?_ (by first | (simp; done) | (simp; omega) | omega) _) | (refine Ext.trans ?_ (by assumption)) | (refine Ext.trans ?_ (held_left (by assumption)))))))).mono ?_; rintro e w1 ⟨rfl, hb1⟩; have hE1 : Ext w w1 := (by (repeat (with_reducible (first | exact Ext.refl _ | assumption | exact held_left (by assumption) | apply Ext.drewN | apply Ext.drew | apply Ext.alloc | (refine Ext.setCell ?_ (by first | (simp; done) | (simp; omega) | omega) _) | (refine Ext.trans ?_ (by assumption)) | (refine Ext.trans ?_ (held_left (by assumption))))))))
    go_ret
    exact ⟨ret_int HF2.out.symm, hE1⟩
  subst h0
  have HF2 := Hid.mk' (HF.out.trans (if_neg (by simp)))
  clear HF
  by_cases hn : l.length = cols.length
  case neg =>
    have HF3 := Hid.mk' (HF2.out.trans (if_pos hn))
    have hn' : (((l.length : Nat) : Int) != ((cols.length : Nat) : Int)) = true := by simp; omega
    clear hn HF2
    go_enter Tryz.func98, Tryz.ntmps98
    go_wp2_with (go_at_call 118; refine (HR.out _ (by (repeat (with_reducible (first | exact Ext.refl _ | assumption | exact held_left (by assumption) | apply Ext.drewN | apply Ext.drew | apply Ext.alloc | (refine Ext.setCell ?_ (by first | (simp; done) | (simp; omega) | omega) _) | (refine Ext.trans ?_ (by assumption)) | (refine Ext.trans ?_ (held_left (by assumption)))))))).mono ?_; rintro e w1 ⟨rfl, hb1⟩; have hE1 : Ext w w1 := (by (repeat (with_reducible (first | exact Ext.refl _ | assumption | exact held_left (by assumption) | apply Ext.drewN | apply Ext.drew | apply Ext.alloc | (refine Ext.setCell ?_ (by first | (simp; done) | (simp; omega) | omega) _) | (refine Ext.trans ?_ (by assumption)) | (refine Ext.trans ?_ (held_left (by assumption))))))); have g0 := ((Blk.new w #[.int .u32 oid, .int .u32 ver, .string nm, .int .u8 id, .slice a2 cols.length cap2] 101).ext hb1).cell)
    go_ret
    exact ⟨ret_int HF3.out.symm, hE1⟩
  have HF3 := Hid.mk' (HF2.out.trans (if_neg (by simpa using hn)))
  have hn' : (((l.length : Nat) : Int) != ((cols.length : Nat) : Int)) = false := by simp; omega
  have hnl : l.length ≤ cols.length := by omega
  clear HF2
  have HNE := Hid.mk' hn
  clear hn
  go_enter Tryz.func98, Tryz.ntmps98
  go_wp2_with (go_at_call 118; refine (HR.out _ (by (repeat (with_reducible (first | exact Ext.refl _ | assumption | exact held_left (by assumption) | apply Ext.drewN | apply Ext.drew | apply Ext.alloc | (refine Ext.setCell ?_ (by first | (simp; done) | (simp; omega) | omega) _) | (refine Ext.trans ?_ (by assumption)) | (refine Ext.trans ?_ (held_left (by assumption)))))))).mono ?_; rintro e w1 ⟨rfl, hb1⟩; have hE1 := Hid.mk' hb1; have g0 := ((Blk.new w #[.int .u32 oid, .int .u32 ver, .string nm, .int .u8 id, .slice a2 cols.length cap2] 101).ext hb1).cell; clear hb1)
  go_loopw [6] (fun i wr => ∃ k : Nat, k ≤ l.length ∧ i = .int .i64 k ∧ Hid (∀ j, j < k → fitAt l cols j = 0) ∧ Hid (Ext (w.alloc (.cells #[.int .u32 oid, .int .u32 ver, .string nm, .int .u8 id, .slice a2 cols.length cap2] 101)) wr)) (fun i _ => l.length - (intOf i).toNat)
  case atStart => exact ⟨0, Nat.zero_le _, rfl, fun j h => by omega, hE1⟩
  case round =>
    obtain ⟨k, hk, rfl, hrel, hE⟩ := hrel
    have hEw : Hid (Ext w wr) := Hid.mk' (((Ext.refl w).alloc _).trans hE.out)
    by_cases hlt : k < l.length
    · have hlt2 : k < cols.length := by omega
      have hBx := (Blk.new w #[.int .u32 oid, .int .u32 ver, .string nm, .int .u8 id, .slice a2 cols.length cap2] 101).ext hE.out
      have g0 := hBx.cell
      have z0 := hBx.lt
      obtain ⟨b, o, rfl, hb, hx⟩ := HL.out.at_ (i := k) (by simpa using hlt)
      obtain ⟨f0, f1, f2, f3, f4, f5⟩ := K.rcAt hlt hx hb hEw.out
      obtain ⟨b2, o2, rfl, hb2, hx2⟩ := HL2.out.at_ (i := k) (by simpa using hlt2)
      obtain ⟨p0, p1, p2⟩ := Col.at_ hlt2 hx2 hb2 hEw.out
      have hbw : b < wr.heap.size := Nat.lt_of_lt_of_le hb hEw.out.size
      have hbw2 : b2 < wr.heap.size := Nat.lt_of_lt_of_le hb2 hEw.out.size
      have hwk := HS.out _ (List.getElem_mem hlt)
      have HC := Hid.mk' (fun W => rcright_any l[k].k l[k].v.ty l[k].v.n l[k].v.x l[k].v.y l[k].v.s cols[k].ty W hwk.k hwk.s)
      have hAt := fitAt_lt hlt hlt2
      unfold K.right at hAt
      obtain ⟨E, hE0⟩ : ∃ E, E = rightC l[k].k l[k].v.ty l[k].v.n l[k].v.x l[k].v.y l[k].v.s cols[k].ty := ⟨_, rfl⟩
      rw [← hE0] at HC hAt
      have HAt := Hid.mk' hAt
      clear hx hx2 hAt hE0 hBx hwk
      by_cases h0 : E = 0
      · subst h0
        go_wp2
        go_region_held3 (fun w' => Ext (wr) w' ∧ (∀ b o, b < (wr).heap.size → w'.cell? ⟨b, o, none⟩ = (wr).cell? ⟨b, o, none⟩) ∧ (∀ b o, b < (wr).heap.size → w'.frozen? ⟨b, o, none⟩ = (wr).frozen? ⟨b, o, none⟩)) ((exact held_of (by (repeat (with_reducible (first | exact Ext.refl _ | assumption | exact held_left (by assumption) | apply Ext.drewN | apply Ext.drew | apply Ext.alloc | (refine Ext.setCell ?_ (by first | (simp; done) | (simp; omega) | omega) _) | (refine Ext.trans ?_ (by assumption)) | (refine Ext.trans ?_ (held_left (by assumption)))))))))
          (first
            | (go_at_call 147; refine (HC.out _).mono ?_; rintro e w2 ⟨rfl, hb2'⟩))
        go_wp2
        go_roundw
        case rel => exact ⟨k + 1, by omega, by go_num, fun j hj => by
          by_cases e : j = k
          · subst e; exact HAt.out
          · exact hrel.out j (by omega), Hid.mk' (hE.out.trans (by (repeat (with_reducible (first | exact Ext.refl _ | assumption | exact held_left (by assumption) | apply Ext.drewN | apply Ext.drew | apply Ext.alloc | (refine Ext.setCell ?_ (by first | (simp; done) | (simp; omega) | omega) _) | (refine Ext.trans ?_ (by assumption)) | (refine Ext.trans ?_ (held_left (by assumption))))))))⟩
        case measure => simp [intOf]; omega
      · have h0' : (E != 0) = true := by simpa using h0
        have HR2 := Hid.mk' (HF3.out.trans (show firstE (fitAt l cols) l.length = E by rw [firstE_at hrel.out hlt (by rw [HAt.out]; exact h0), HAt.out]))
        clear h0
        go_wp2
        go_region_held3 (fun w' => Ext (wr) w' ∧ (∀ b o, b < (wr).heap.size → w'.cell? ⟨b, o, none⟩ = (wr).cell? ⟨b, o, none⟩) ∧ (∀ b o, b < (wr).heap.size → w'.frozen? ⟨b, o, none⟩ = (wr).frozen? ⟨b, o, none⟩)) ((exact held_of (by (repeat (with_reducible (first | exact Ext.refl _ | assumption | exact held_left (by assumption) | apply Ext.drewN | apply Ext.drew | apply Ext.alloc | (refine Ext.setCell ?_ (by first | (simp; done) | (simp; omega) | omega) _) | (refine Ext.trans ?_ (by assumption)) | (refine Ext.trans ?_ (held_left (by assumption)))))))))
          (first
            | (go_at_call 147; refine (HC.out _).mono ?_; rintro e w2 ⟨rfl, hb2'⟩))
        go_wp2
        go_ret
        exact ⟨ret_int HR2.out.symm, hEw.out.trans (by (repeat (with_reducible (first | exact Ext.refl _ | assumption | exact held_left (by assumption) | apply Ext.drewN | apply Ext.drew | apply Ext.alloc | (refine Ext.setCell ?_ (by first | (simp; done) | (simp; omega) | omega) _) | (refine Ext.trans ?_ (by assumption)) | (refine Ext.trans ?_ (held_left (by assumption)))))))⟩
    · have hkk : k = l.length := by omega
      have HR2 := Hid.mk' (HF3.out.trans (firstE_zero (fun i hi => hrel.out i (by omega))))
      subst hkk
      go_wp2
      go_ret
      exact ⟨ret_int HR2.out.symm, hEw.out⟩

theorem rfits_any (l : List K) (a : Option Addr) (cap : Nat) (oid ver : Int) (nm : ByteArray) (id : Int) (cols : List Col) (a2 : Option Addr) (cap2 : Nat) (w : World) (hl : Sl w (.slice a l.length cap) 6 (l.map K.rc)) (hl2 : Sl w (.slice a2 cols.length cap2) 3 (cols.map Col.cells))
    (hlen : l.length ≤ 1000) (hlen2 : cols.length ≤ 1000) (hs : ∀ c ∈ l, c.wk) (hs2 : ∀ c ∈ cols, c.nm.size ≤ 9223372036854775807) (hnm : nm.size ≤ 9223372036854775807) :
    Calls Tryz.prog 98 #[.slice a l.length cap, .agg #[.int .u32 oid, .int .u32 ver, .string nm, .int .u8 id, .slice a2 cols.length cap2]] w fun e w' => e = .returned (.int .i64 (fitsE l (⟨oid, ver, nm, id, cols⟩ : Rl))) ∧ Ext w w' :=
  rfits_big l a cap oid ver nm id cols a2 cap2 w hl hl2 (by omega) (by omega) hs hs2 hnm

end Go.Proofs.YtibgippchdmdlaaGreat

/-
What is wrong with the key of a row: the program's image.keyed.
-/
namespace Go.Proofs.YtibgippchdmdlaaGreat
open Go.RowKit Go.Shelf
attribute [local go_sem] Oper.semAt_some

def kindAt (l : List K) (i : Nat) : Int := if h : i < l.length then l[i].k else 2
theorem kindAt_lt {l : List K} {i : Nat} (h : i < l.length) : kindAt l i = l[i].k := by unfold kindAt; rw [dif_pos h]
def kindE (k : Int) : Int := if k = 0 then 12 else if k = 1 then 13 else 0
/-- What is wrong with a cell of the key. -/
def keyE (cols : List Col) (l : List K) (i : Nat) : Int := if isKeyAt cols i = true then kindE (kindAt l i) else 0
/-- What is wrong with a row, and its key. -/
def keyedE (l : List K) (r : Rl) : Int := if fitsE l r ≠ 0 then fitsE l r else firstE (keyE r.cols l) l.length

theorem isKey_x {cols : List Col} (x : KX cols) : isKeyAt cols x.1.1 = true := by
  obtain ⟨⟨j, c⟩, hj, hc, hk⟩ := x
  unfold isKeyAt; simp only at hc hk; rw [hc]; simpa using hk
theorem fits_zero {l : List K} {r : Rl} (h : fitsE l r = 0) : r.right = 0 ∧ l.length = r.cols.length ∧ ∀ i (h1 : i < l.length) (h2 : i < r.cols.length), l[i].right r.cols[i].ty = 0 := by
  unfold fitsE at h
  split at h
  · rename_i h1; exact absurd h h1
  · rename_i h1
    split at h
    · cases h
    · rename_i h2
      refine ⟨by simpa using h1, by simpa using h2, fun i h3 h4 => ?_⟩
      have := firstE_all h i h3
      rwa [fitAt_lt h3 h4] at this
/-- The first error among the columns of the key. -/
theorem keyE_first {cols : List Col} {l : List K} {k : Nat} {pre : List (KX cols)} {x : KX cols} (he : keysUp cols k = pre ++ [x]) (hl : l.length = cols.length) (h0 : ∀ y ∈ pre, keyE cols l y.1.1 = 0) (h1 : keyE cols l x.1.1 ≠ 0) :
    firstE (keyE cols l) l.length = keyE cols l x.1.1 := by
  have hx : x ∈ keysUp cols k := by rw [he]; simp
  have hxk := (keysUp_mem k x).1 hx
  refine firstE_at ?_ (by omega) h1
  intro i hi
  by_cases hq : isKeyAt cols i = true
  · have hic : i < cols.length := by omega
    have hkey : cols[i].key = true := by unfold isKeyAt at hq; rw [List.getElem?_eq_getElem hic] at hq; simpa using hq
    have hm : (⟨(i, cols[i]), hic, List.getElem?_eq_getElem hic, hkey⟩ : KX cols) ∈ keysUp cols k := (keysUp_mem k _).2 (by simp only; omega)
    rw [he, List.mem_append] at hm
    rcases hm with hm | hm
    · exact h0 _ hm
    · rw [List.mem_singleton] at hm
      have := congrArg (fun y : KX cols => y.1.1) hm
      simp only at this
      omega
  · unfold keyE; rw [if_neg hq]
theorem keyE_none {cols : List Col} {l : List K} (hl : l.length = cols.length) (h0 : ∀ y ∈ keysUp cols cols.length, keyE cols l y.1.1 = 0) : firstE (keyE cols l) l.length = 0 := by
  refine firstE_zero fun i hi => ?_
  by_cases hq : isKeyAt cols i = true
  · have hic : i < cols.length := by omega
    have hkey : cols[i].key = true := by unfold isKeyAt at hq; rw [List.getElem?_eq_getElem hic] at hq; simpa using hq
    exact h0 ⟨(i, cols[i]), hic, List.getElem?_eq_getElem hic, hkey⟩ ((keysUp_mem _ _).2 hic)
  · unfold keyE; rw [if_neg hq]

set_option maxRecDepth 100000 in
set_option maxHeartbeats 4000000 in
theorem keyedI_in (F : Fence) (n : Nat) (hFe : F = Fence.wide) (h1F : F.fn 196) (hKF : F.fn 164) (hFF : F.fn 137) (hDF : F.fn 128) (hro : F.round = none) (hn : 3 ≤ n) (oid ver : Int) (nm : ByteArray) (id : Int) (cols : List Col) (a2 : Option Addr) (cap2 : Nat) (l : List K) (a : Option Addr) (cap : Nat) (w : World)
    (hl2 : Sl w (.slice a2 cols.length cap2) 3 (cols.map Col.cells)) (hcap2 : cols.length ≤ cap2) (hlen2 : cols.length ≤ 1000) (hl : Sl w (.slice a l.length cap) 5 (l.map K.pc)) (hlen : l.length ≤ 1000)
    (hs : ∀ c ∈ l, c.wk) (hs2 : ∀ c ∈ cols, c.nm.size ≤ 9223372036854775807) (hnm : nm.size ≤ 9223372036854775807) :
    CallsIn F n Tryz.prog 128 #[.agg #[.int .u32 oid, .int .u32 ver, .string nm, .int .u8 id, .slice a2 cols.length cap2], .slice a l.length cap] w fun e w' => e = .returned (.int .i64 (keyedE l (⟨oid, ver, nm, id, cols⟩ : Rl))) ∧ Ext w w' := by
  have h1 : 1 ≤ n := by omega
  have HFT := Hid.mk' (fun m W (h : Ext w W) => (show CallsIn F m Tryz.prog 137 #[.slice a l.length cap, .agg #[.int .u32 oid, .int .u32 ver, .string nm, .int .u8 id, .slice a2 cols.length cap2]] W _ from by rw [hFe]; exact callsIn_wide.2 (fits_any l a cap oid ver nm id cols a2 cap2 W (hl.ext h) (hl2.ext h) hcap2 hlen hlen2 hs hs2 hnm)))
  have HL := Hid.mk' hl
  have HL2 := Hid.mk' hl2
  have HKE : Hid (keyedE l (⟨oid, ver, nm, id, cols⟩ : Rl) = if fitsE l (⟨oid, ver, nm, id, cols⟩ : Rl) ≠ 0 then fitsE l (⟨oid, ver, nm, id, cols⟩ : Rl) else firstE (keyE cols l) l.length) := Hid.mk' rfl
  obtain ⟨E, hE⟩ : ∃ E, E = fitsE l (⟨oid, ver, nm, id, cols⟩ : Rl) := ⟨_, rfl⟩
  rw [← hE] at HFT HKE
  have HEQ := Hid.mk' hE
  clear hl hl2 hs hs2 hFe hE
  by_cases h0 : E = 0
  case neg =>
    have HKE2 := Hid.mk' (HKE.out.trans (if_pos h0))
    have h0' : (E != 0) = true := by simpa using h0
    clear h0 HKE HEQ
    refine callsIn_of_wp_marks Tryz.func128 rfl hDF ?_ hro
    simp only [Tryz.ntmps128, List.size_toArray, List.length_cons, List.length_nil, Nat.reduceAdd, Nat.reduceSub, Array.replicate_succ, Array.replicate_zero, List.push_toArray, List.append_toArray, List.nil_append, List.cons_append]
    gi_wp2_with (gi_at_call 137; refine (HFT.out _ _ (by (repeat (with_reducible (first | exact Ext.refl _ | assumption | exact held_left (by assumption) | apply Ext.drewN | apply Ext.drew | apply Ext.alloc | (refine Ext.setCell ?_ (by first | (simp; done) | (simp; omega) | omega) _) | (refine Ext.trans ?_ (by assumption)) | (refine Ext.trans ?_ (held_left (by assumption)))))))).mono ?_; rintro e w' ⟨rfl, hb1⟩; have hE1 : Ext w w' := (by (repeat (with_reducible (first | exact Ext.refl _ | assumption | exact held_left (by assumption) | apply Ext.drewN | apply Ext.drew | apply Ext.alloc | (refine Ext.setCell ?_ (by first | (simp; done) | (simp; omega) | omega) _) | (refine Ext.trans ?_ (by assumption)) | (refine Ext.trans ?_ (held_left (by assumption))))))); have g2 := ((Blk.new' (w := (w.alloc (.cells #[.int .u32 oid, .int .u32 ver, .string nm, .int .u8 id, .slice a2 cols.length cap2] 112)).alloc (.cells #[.slice a l.length cap] 47)) (b := w.heap.size + 1 + 1) #[.int .i64 0] 42 (by simp)).ext hb1); have g2c := g2.cell; have g2f := g2.frozen; have g2z := g2.lt)
    refine ⟨.int .i64 E, ?_, by rw [HKE2.out], hE1.setCell (p := ⟨w.heap.size + 1 + 1, 0, none⟩) (by show w.heap.size ≤ w.heap.size + 1 + 1; omega) _⟩
    simp [results, Tryz.f128, go_sem, g2c]
  subst h0
  have HKE2 := Hid.mk' (HKE.out.trans (if_neg (by simp)))
  have hfz := fits_zero HEQ.out.symm
  have hll : l.length = cols.length := hfz.2.1
  have HLL := Hid.mk' hll
  have hle : cols.length ≤ l.length := by omega
  clear HKE HEQ hfz hll
  refine callsIn_of_wp_marks Tryz.func128 rfl hDF ?_ hro
  simp only [Tryz.ntmps128, List.size_toArray, List.length_cons, List.length_nil, Nat.reduceAdd, Nat.reduceSub, Array.replicate_succ, Array.replicate_zero, List.push_toArray, List.append_toArray, List.nil_append, List.cons_append]
  gi_wp2_with (first
    | (gi_at_call 137; refine (HFT.out _ _ (by (repeat (with_reducible (first | exact Ext.refl _ | assumption | exact held_left (by assumption) | apply Ext.drewN | apply Ext.drew | apply Ext.alloc | (refine Ext.setCell ?_ (by first | (simp; done) | (simp; omega) | omega) _) | (refine Ext.trans ?_ (by assumption)) | (refine Ext.trans ?_ (held_left (by assumption)))))))).mono ?_; rintro e w4 ⟨rfl, hb4⟩; have HE4 := Hid.mk' hb4; have g0 := (((Blk.new w #[.int .u32 oid, .int .u32 ver, .string nm, .int .u8 id, .slice a2 cols.length cap2] 112).alloc _).alloc _).ext hb4; have g0c := g0.cell; have g1 := ((Blk.new' (w := w.alloc (.cells #[.int .u32 oid, .int .u32 ver, .string nm, .int .u8 id, .slice a2 cols.length cap2] 112)) (b := w.heap.size + 1) #[.slice a l.length cap] 47 (by simp)).alloc (.cells #[.int .i64 0] 42)).ext hb4; have g1c := g1.cell; have g2 := ((Blk.new' (w := (w.alloc (.cells #[.int .u32 oid, .int .u32 ver, .string nm, .int .u8 id, .slice a2 cols.length cap2] 112)).alloc (.cells #[.slice a l.length cap] 47)) (b := w.heap.size + 1 + 1) #[.int .i64 0] 42 (by simp)).ext hb4); have g2c := g2.cell; have g2f := g2.frozen; have g2z := g2.lt; have HG1 := Hid.mk' g1; have HG2 := Hid.mk' g2; clear g0 g1 g2 hb4)
    | (gi_at_call 164; refine (keys_in F (n - 1) hKF hro _ _ _ _ _ _).mono ?_; rintro e w' ⟨rfl, rfl⟩))
  have hE5 : Ext w (w4.alloc (.cells #[.int .u32 oid, .int .u32 ver, .string nm, .int .u8 id, .slice a2 cols.length cap2] 112)) := ((((Ext.refl w).alloc _).alloc _).alloc _ |>.trans HE4.out).alloc _
  have hB1 := HG1.out.alloc (.cells #[.int .u32 oid, .int .u32 ver, .string nm, .int .u8 id, .slice a2 cols.length cap2] 112)
  have hB2 := HG2.out.alloc (.cells #[.int .u32 oid, .int .u32 ver, .string nm, .int .u8 id, .slice a2 cols.length cap2] 112)
  have hB4 : Blk (w4.alloc (.cells #[.int .u32 oid, .int .u32 ver, .string nm, .int .u8 id, .slice a2 cols.length cap2] 112)) w4.heap.size #[.int .u32 oid, .int .u32 ver, .string nm, .int .u8 id, .slice a2 cols.length cap2] 112 := Blk.new _ _ _
  have hw4 : w.heap.size + 1 + 1 < w4.heap.size := g2z
  clear g0c g1c g2c g2f g2z
  refine wpIn_rangeFunc_ownG hro h1 (gf := 196) (lb := #[.pointer (some ⟨w4.heap.size, 0, none⟩)]) rfl h1F (enters_of Tryz.func196 (by kernel_rfl) rfl)
    (keys_stops F (n - 1) h1F hro (by omega) w4.heap.size w a2 cap2 cols hlen2 HL2.out _ hE5 (hB4.cell 4) hB4.lt) belowK_t (belowK_b (by simp; omega)) (Below.refl _ _) (fun _ => rfl)
    (fun pre W => (Hid (∀ y ∈ pre, keyE cols l y.1.1 = 0) ∧ W.cell? ⟨w.heap.size + 1 + 1, 0, none⟩ = some (.int .i64 0) ∧ W.frozen? ⟨w.heap.size + 1 + 1, 0, none⟩ = false ∧ W.cell? ⟨w.heap.size + 1, 0, none⟩ = some (.slice a l.length cap)) ∧ Below w.heap.size w W)
    (fun c pre W => (c = .ret ∧ ∃ ini last, pre = ini ++ [last] ∧ (∀ y ∈ ini, keyE cols l y.1.1 = 0) ∧ keyE cols l last.1.1 ≠ 0 ∧ W.cell? ⟨w.heap.size + 1 + 1, 0, none⟩ = some (.int .i64 (keyE cols l last.1.1))) ∧ Below w.heap.size w W)
    (OwnFrom.and (Own.from (fun s A B row hs hg hr => ⟨hs.1, cell_kept hs.2.1 hg hr, (frozen_kept hs.2.1 hg hr).trans hs.2.2.1, cell_kept hs.2.2.2 hg hr⟩) _) (ownFrom_below (Nat.le_refl _) (by simp; omega)))
    (fun c => OwnFrom.and (Own.from (fun s A B row hs hg hr => by obtain ⟨hc, ini, last, e1, e2, e3, e4⟩ := hs; exact ⟨hc, ini, last, e1, e2, e3, cell_kept e4 hg hr⟩) _) (ownFrom_below (Nat.le_refl _) (by simp; omega)))
    ⟨⟨(fun y hy => by cases hy), hB2.cell 0, hB2.frozen 0, hB1.cell 0⟩, hE5⟩
    (fun x => { tmps := #[.agg #[.int .u32 oid, .int .u32 ver, .string nm, .int .u8 id, .slice a2 cols.length cap2], .slice a l.length cap, .pointer (some ⟨w.heap.size, 0, none⟩), .pointer (some ⟨w.heap.size + 1, 0, none⟩), .pointer (some ⟨w.heap.size + 1 + 1, 0, none⟩), .int .i64 0, .int .i64 (x.1.1 : Int), .slice a l.length cap, .agg #[.int .u32 oid, .int .u32 ver, .string nm, .int .u8 id, .slice a2 cols.length cap2], .int .i64 0, .int .i64 0, .bool false, undef, .agg #[.int .u32 oid, .int .u32 ver, .string nm, .int .u8 id, .slice a2 cols.length cap2], .func (.func 196) #[] #[.pointer (some ⟨w4.heap.size, 0, none⟩)], .int .i64 (x.1.1 : Int), .agg #[.string x.1.2.nm, .int .u8 x.1.2.ty, .bool x.1.2.key], undef, undef, undef, undef, undef, undef, undef, undef, undef], defers := [] }) ?assign ?body ?done ?stop
  case assign =>
    intro l x W K hK
    unfold encK
    rw [fold_two]
    gi_wp2
    exact hK
  case body =>
    rintro lr pre x W ⟨⟨hpre, hc, hf, hcw⟩, hB⟩ _
    have HB := Hid.mk' hB
    clear hB
    have hx : x.1.1 < cols.length := x.2.1
    have hlt : x.1.1 < l.length := by omega
    obtain ⟨b, o, rfl, hb, hc2⟩ := HL.out.at_ (i := x.1.1) (by simpa using hlt)
    obtain ⟨f0, f1, f2, f3, f4⟩ := K.pcAt hlt hc2 hb HB.out
    have HKX : Hid (keyE cols l x.1.1 = kindE l[x.1.1].k) := Hid.mk' (by unfold keyE; rw [if_pos (isKey_x x), kindAt_lt hlt])
    clear hc2
    by_cases hk0 : l[x.1.1].k = 0
    · rw [hk0] at f0 HKX
      clear hk0
      gi_wp2
      exact ⟨(KeepsOthers.setCell _ _ _).from _, ⟨rfl, pre, x, rfl, hpre.out, by rw [HKX.out]; decide, by rw [HKX.out]; exact World.cell?_setCell_same' _ _ _ (by rw [hc]; rfl)⟩, HB.out.setCell (p := ⟨w.heap.size + 1 + 1, 0, none⟩) (by show w.heap.size ≤ w.heap.size + 1 + 1; omega) _⟩
    · by_cases hk1 : l[x.1.1].k = 1
      · rw [hk1] at f0 HKX
        clear hk0 hk1
        gi_wp2
        exact ⟨(KeepsOthers.setCell _ _ _).from _, ⟨rfl, pre, x, rfl, hpre.out, by rw [HKX.out]; decide, by rw [HKX.out]; exact World.cell?_setCell_same' _ _ _ (by rw [hc]; rfl)⟩, HB.out.setCell (p := ⟨w.heap.size + 1 + 1, 0, none⟩) (by show w.heap.size ≤ w.heap.size + 1 + 1; omega) _⟩
      · have e0 : (l[x.1.1].k == 0) = false := by simpa using hk0
        have e1 : (l[x.1.1].k == 1) = false := by simpa using hk1
        have HZ : Hid (keyE cols l x.1.1 = 0) := Hid.mk' (by rw [HKX.out]; unfold kindE; rw [if_neg hk0, if_neg hk1])
        clear hk0 hk1
        gi_wp2
        exact ⟨KeepsFrom.refl _ _, Below.refl _ _, ⟨fun y hy => (List.mem_append.1 hy).elim (hpre.out y) (fun e => by simp at e; subst e; exact HZ.out), hc, hf, hcw⟩, HB.out⟩
  case done =>
    rintro D ys W hD rfl ⟨⟨hpre, hc, hf, hcw⟩, hB⟩ hK
    have HK0 := Hid.mk' (HKE2.out.trans (keyE_none HLL.out hpre.out))
    gi_wp2
    have hK' := (KeepsOthers.setCell W ⟨w.heap.size + 1 + 1, 0, none⟩ (.int .i64 0)).same D _ hK rfl
    refine ⟨by simp, .inl ⟨_, _, rfl, run_takeDeferred hK', ?_⟩⟩
    have hc5 := cell_kept (World.cell?_setCell_same' W ⟨w.heap.size + 1 + 1, 0, none⟩ (.int .i64 0) (by rw [hc]; rfl)) (grownBy_putObj' _ D (.deferred none)) (fun r e => by cases e; exact ⟨_, hK', rfl⟩)
    refine ⟨.int .i64 0, ?_, by rw [HK0.out], (hB.setCell (p := ⟨w.heap.size + 1 + 1, 0, none⟩) (by show w.heap.size ≤ w.heap.size + 1 + 1; omega) _).trans (belowK_b (w := w) (Nat.le_refl _) _ D _ _ (by simp at hD; omega) hK' rfl rfl)⟩
    simp [results, Tryz.f128, go_sem, hc5]
  case stop =>
    rintro D c pre W hD ⟨k, hk, hpk⟩ ⟨⟨rfl, ini, last, e1, e2, e3, hc⟩, hB⟩ hK
    have HK0 := Hid.mk' (HKE2.out.trans (keyE_first (hpk.symm.trans e1) HLL.out e2 e3))
    gi_wp2
    refine ⟨by simp, .inl ⟨_, _, rfl, run_takeDeferred hK, ?_⟩⟩
    have hc5 := cell_kept hc (grownBy_putObj' _ D (.deferred none)) (fun r e => by cases e; exact ⟨_, hK, rfl⟩)
    refine ⟨_, ?_, by rw [HK0.out], hB.trans (belowK_b (w := w) (Nat.le_refl _) W D _ _ (by simp at hD; omega) hK rfl rfl)⟩
    simp [results, Tryz.f128, go_sem, hc5]

theorem keyedI_any (oid ver : Int) (nm : ByteArray) (id : Int) (cols : List Col) (a2 : Option Addr) (cap2 : Nat) (l : List K) (a : Option Addr) (cap : Nat) (w : World)
    (hl2 : Sl w (.slice a2 cols.length cap2) 3 (cols.map Col.cells)) (hcap2 : cols.length ≤ cap2) (hlen2 : cols.length ≤ 1000) (hl : Sl w (.slice a l.length cap) 5 (l.map K.pc)) (hlen : l.length ≤ 1000)
    (hs : ∀ c ∈ l, c.wk) (hs2 : ∀ c ∈ cols, c.nm.size ≤ 9223372036854775807) (hnm : nm.size ≤ 9223372036854775807) :
    Calls Tryz.prog 128 #[.agg #[.int .u32 oid, .int .u32 ver, .string nm, .int .u8 id, .slice a2 cols.length cap2], .slice a l.length cap] w fun e w' => e = .returned (.int .i64 (keyedE l (⟨oid, ver, nm, id, cols⟩ : Rl))) ∧ Ext w w' :=
  callsIn_wide.1 (keyedI_in Fence.wide 3 rfl trivial trivial trivial trivial rfl (Nat.le_refl _) oid ver nm id cols a2 cap2 l a cap w hl2 hcap2 hlen2 hl hlen hs hs2 hnm)

end Go.Proofs.YtibgippchdmdlaaGreat
