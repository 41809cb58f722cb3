/-
A row of cells in a block of the call's own: read, written at an index, made, cloned.
-/
import Derived.RangeFuncBox
import Derived.Test.YtdlhaidlokkmnaaGreatDoorP5
import Derived.Test.YtdlhaidlokkmnaaGreatDoorP8
set_option maxRecDepth 100000
set_option maxHeartbeats 16000000
namespace Go.Proofs.YtdlhaidlokkmnaaGreatDoor
open Go.RowKit
def RowAt (W : World) (g : Nat) (ks : List K) : Prop := ∃ cs : Array Value, Blk W g cs 159 ∧ ks.length * 5 ≤ cs.size ∧ ∀ i (hi : i < ks.length), ∀ j, j < 5 → cs[i * 5 + j]? = (ks[i].pc)[j]?
section
variable {W W' : World} {g : Nat} {ks : List K}
theorem RowAt.lt (h : RowAt W g ks) : g < W.heap.size := by obtain ⟨cs, hb, _⟩ := h; exact hb.lt
theorem RowAt.ext (h : RowAt W g ks) (he : Ext W W') : RowAt W' g ks := by obtain ⟨cs, hb, hr⟩ := h; exact ⟨cs, hb.ext he, hr⟩
theorem RowAt.drew (h : RowAt W g ks) : RowAt W.drew g ks := h
theorem RowAt.alloc (h : RowAt W g ks) (o : Obj) : RowAt (W.alloc o) g ks := h.ext ((Ext.refl W).alloc o)
theorem RowAt.other (h : RowAt W g ks) (a : Addr) (v : Value) (hne : g ≠ a.block) : RowAt (W.setCell a v) g ks := by obtain ⟨cs, hb, hr⟩ := h; exact ⟨cs, hb.other a v hne, hr⟩
theorem RowAt.kept (h : RowAt W g ks) {row : Option Nat} (hg : W.grownBy W' row) (hr : ∀ r, row = some r → ∃ o : Obj, W.heap[r]? = some o ∧ o.isCells = false) : RowAt W' g ks := by
  obtain ⟨cs, hb, hx⟩ := h
  refine ⟨cs, (hg.block g hb.lt (fun e => ?_)).trans hb, hx⟩
  obtain ⟨o, ho, hc⟩ := hr g e.symm
  rw [show W.heap[g]? = _ from hb] at ho
  cases ho; cases hc
theorem RowAt.frozen (h : RowAt W g ks) (o : Nat) : W.frozen? ⟨g, o, none⟩ = false := by obtain ⟨cs, hb, _⟩ := h; exact hb.frozen o
theorem RowAt.cells (h : RowAt W g ks) {i : Nat} (hi : i < ks.length) : W.cell? ⟨g, i * 5, none⟩ = some (.int .u8 ks[i].k) ∧ W.cell? ⟨g, i * 5 + 1, none⟩ = some (.int .u8 ks[i].v.ty) ∧ W.cell? ⟨g, i * 5 + 2, none⟩ = some (.int .i64 ks[i].v.n) ∧
    W.cell? ⟨g, i * 5 + 3, none⟩ = some (.complex .f64 ks[i].v.x ks[i].v.y) ∧ W.cell? ⟨g, i * 5 + 4, none⟩ = some (.string ks[i].v.s) := by
  obtain ⟨cs, hb, _, hx⟩ := h
  have hx := hx i hi
  exact ⟨(hb.cell _).trans (hx 0 (by omega)), (hb.cell _).trans (hx 1 (by omega)), (hb.cell _).trans (hx 2 (by omega)), (hb.cell _).trans (hx 3 (by omega)), (hb.cell _).trans (hx 4 (by omega))⟩
theorem RowAt.sl (h : RowAt W g ks) (cap : Nat) : Sl W (.slice (some ⟨g, 0, none⟩) ks.length cap) 5 (ks.map K.pc) := by
  obtain ⟨cs, hb, _, hx⟩ := h
  refine ⟨_, cap, by rw [List.length_map], .inr ⟨g, 0, rfl, hb.lt, fun i hi j hj => ?_⟩⟩
  rw [List.length_map] at hi
  rw [getD_map K.pc ks hi, ← hx i hi j hj, Nat.zero_add]
  exact hb.cell _
theorem RowAt.set (h : RowAt W g ks) {i : Nat} (hi : i < ks.length) (c : K) :
    RowAt (((((W.setCell ⟨g, i * 5, none⟩ (.int .u8 c.k)).setCell ⟨g, i * 5 + 1, none⟩ (.int .u8 c.v.ty)).setCell ⟨g, i * 5 + 2, none⟩ (.int .i64 c.v.n)).setCell ⟨g, i * 5 + 3, none⟩ (.complex .f64 c.v.x c.v.y)).setCell ⟨g, i * 5 + 4, none⟩ (.string c.v.s)) g (ks.set i c) := by
  obtain ⟨cs, hb, hs, hx⟩ := h
  refine ⟨_, ((((hb.set _ _).set _ _).set _ _).set _ _).set _ _, by simpa using hs, fun q hq j hj => ?_⟩
  rw [List.length_set] at hq
  simp only [Array.getElem?_setIfInBounds, Array.size_setIfInBounds]
  by_cases e : q = i
  · subst e
    rw [List.getElem_set_self]
    have : j = 0 ∨ j = 1 ∨ j = 2 ∨ j = 3 ∨ j = 4 := by omega
    rcases this with rfl | rfl | rfl | rfl | rfl
    all_goals
      simp [K.pc]
      (try omega)
  · rw [List.getElem_set_ne (Ne.symm e), ← hx q hq j hj]
    rw [if_neg (by omega), if_neg (by omega), if_neg (by omega), if_neg (by omega), if_neg (by omega)]
theorem RowAt.mono (h : RowAt W g ks) {ls : List K} (e : ks = ls) : RowAt W g ls := e ▸ h
theorem RowAt.of_owns {base n cap : Nat} (h : W.ownsRow base 159 5 (.slice (some ⟨g, 0, none⟩) n cap) n (ks.map K.pc).flatten) (hn : ks.length = n) : RowAt W g ks := by
  obtain ⟨h1, h2⟩ := h
  rcases h2 with ⟨h3, _⟩ | ⟨g', cap', cur, hv, hg, hh, hnc, hcap, hsz, htake⟩
  · cases h3
  · simp only [Value.slice.injEq, Option.some.injEq, Addr.mk.injEq] at hv
    obtain ⟨⟨rfl, -, -⟩, -, rfl⟩ := hv
    have hfl : (ks.map K.pc).flatten.length = ks.length * 5 := by
      have := flat_length 5 (ks.map K.pc) (fun xs hxs => by simp at hxs; obtain ⟨c, _, rfl⟩ := hxs; rfl)
      rwa [List.length_map] at this
    have hct : ks.length * 5 ≤ cur.size := by
      have := congrArg List.length htake
      rw [List.length_take, hfl] at this
      simp at this
      omega
    refine ⟨cur, hh, hct, fun i hi j hj => ?_⟩
    have := flat_get 5 (ks.map K.pc) (fun xs hxs => by simp at hxs; obtain ⟨c, _, rfl⟩ := hxs; rfl) i (by simpa using hi) j hj
    rw [getD_map K.pc ks hi] at this
    rw [← this, ← htake, List.getElem?_take, if_pos (by rw [← hn]; omega)]
    simp
end
theorem run_makeK (n : Nat) (hn : n ≤ 1000) (w : World) :
    ∃ cs : Array Value, (Instr.makeSlice 71 (.int .i64 (n : Int)) (.int .i64 (n : Int))).run Tryz.prog w = .ok (.slice (some ⟨w.heap.size, 0, none⟩) n n) (w.alloc (.cells cs 159)) ∧ n * 5 ≤ cs.size ∧ ∀ i, i < n → ∀ j, j < 5 → cs[i * 5 + j]? = (K.zero.pc)[j]? := by
  obtain ⟨i0, hi, hz0, hz1, hz2⟩ := info_parts Tryz.infoCellP
  have hr := run_make (P := Tryz.prog) w 71 159 i0 _ Tryz.underlying71 hi hz0 .i64 .i64 (n : Int) (n : Int) (by omega) (by omega) (by rw [hz2]; omega) (by omega)
  simp only [Int.toNat_natCast, hz1] at hr
  refine ⟨_, hr, by rw [size_madeCells]; exact Nat.le_refl _, fun i hi j hj => ?_⟩
  have hlt : i * 5 + j < n * 5 := by omega
  have hm : (i * 5 + j) % 5 = j := by omega
  have : j = 0 ∨ j = 1 ∨ j = 2 ∨ j = 3 ∨ j = 4 := by omega
  simp only [madeCells, Array.getElem?_map, Array.getElem?_range, hlt]
  rcases this with rfl | rfl | rfl | rfl | rfl <;> simp [Value.cells, K.pc, K.zero, V.zero, hm]
open Go.RowKit Go.Shelf
attribute [local go_sem] Oper.semAt_some
def isKeyAt (cols : List Col) (i : Nat) : Bool := (cols[i]?.map Col.key).getD false
def keyOf (cols : List Col) (l : List K) : List K := l.mapIdx fun i c => if isKeyAt cols i = true then c else K.zero
def fillK {cols : List Col} (l : List K) (pre : List (KX cols)) : List K := l.mapIdx fun i c => if pre.any (fun x => x.1.1 == i) = true then c else K.zero
theorem fillK_len {cols : List Col} {l : List K} {pre : List (KX cols)} : (fillK l pre).length = l.length := by simp [fillK]
theorem fillK_get {cols : List Col} {l : List K} {pre : List (KX cols)} {i : Nat} (h : i < (fillK l pre).length) : (fillK l pre)[i] = if pre.any (fun x => x.1.1 == i) = true then l[i]'(by rw [fillK_len] at h; exact h) else K.zero := by
  simp [fillK]
theorem fillK_nil {cols : List Col} {l : List K} : fillK l ([] : List (KX cols)) = List.replicate l.length K.zero := by
  apply List.ext_getElem
  · simp [fillK]
  · intro i h1 h2; rw [fillK_get]; simp
theorem fillK_set {cols : List Col} {l : List K} {pre : List (KX cols)} {x : KX cols} (h : x.1.1 < l.length) : fillK l (pre ++ [x]) = (fillK l pre).set x.1.1 l[x.1.1] := by
  apply List.ext_getElem
  · simp [fillK]
  · intro i h1 h2
    rw [fillK_get, List.getElem_set]
    by_cases e : x.1.1 = i
    · subst e; simp
    · rw [if_neg e, fillK_get, List.any_append]
      have : ([x].any fun x => x.1.1 == i) = false := by simp [e]
      rw [this, Bool.or_false]
theorem fillK_skip {cols : List Col} {l : List K} {pre : List (KX cols)} {x : KX cols} (h : l.length ≤ x.1.1) : fillK l (pre ++ [x]) = fillK l pre := by
  apply List.ext_getElem
  · simp [fillK]
  · intro i h1 h2
    rw [fillK_get, fillK_get, List.any_append]
    have hi : i < l.length := by rw [fillK_len] at h2; exact h2
    have : ([x].any fun x => x.1.1 == i) = false := by simp; omega
    rw [this, Bool.or_false]
theorem isKey_any {cols : List Col} {i : Nat} : (keysUp cols cols.length).any (fun x => x.1.1 == i) = isKeyAt cols i := by
  rw [Bool.eq_iff_iff, List.any_eq_true]
  unfold isKeyAt
  constructor
  · rintro ⟨⟨⟨j, c⟩, hj, hc, hk⟩, _, h⟩
    simp only [beq_iff_eq] at h
    subst h
    simp only at hc hk
    rw [hc]; simpa using hk
  · intro h
    cases hc : cols[i]? with
    | none => rw [hc] at h; simp at h
    | some c =>
      rw [hc] at h
      have hi : i < cols.length := (List.getElem?_eq_some_iff.1 hc).1
      exact ⟨⟨(i, c), hi, hc, by simpa using h⟩, (keysUp_mem _ _).2 hi, by simp⟩
theorem fillK_all {cols : List Col} {l : List K} : fillK l (keysUp cols cols.length) = keyOf cols l := by
  unfold fillK keyOf
  congr 1
  funext i c
  rw [isKey_any]
theorem keyOf_in (F : Fence) (n : Nat) (h1F : F.fn 143) (hKF : F.fn 116) (hDF : F.fn 126) (hro : F.round = none) (hn : 3 ≤ n) (oid ver : Int) (nm : ByteArray) (id : Int) (cols : List Col) (a2 : Option Addr) (cap2 : Nat) (l : List K) (a : Option Addr) (cap : Nat) (w : World)
    (hl2 : Sl w (.slice a2 cols.length cap2) 3 (cols.map Col.cells)) (hlen2 : cols.length ≤ 1000) (hl : Sl w (.slice a l.length cap) 5 (l.map K.pc)) (hlen : l.length ≤ 1000) :
    CallsIn F n Tryz.prog 126 #[.agg #[.int .u32 oid, .int .u32 ver, .string nm, .int .u8 id, .slice a2 cols.length cap2], .slice a l.length cap] w fun e w' => ∃ g cap', e = .returned (.slice (some ⟨g, 0, none⟩) l.length cap') ∧ l.length ≤ cap' ∧ w.heap.size ≤ g ∧ RowAt w' g (keyOf cols l) ∧ Ext w w' := by
  have h1 : 1 ≤ n := by omega
  have HL := Hm hl
  have HL2 := Hm hl2
  clear hl hl2
  obtain ⟨cs, hmk0, hcs1, hcs2⟩ := run_makeK l.length hlen ((w.alloc (.cells #[.int .u32 oid, .int .u32 ver, .string nm, .int .u8 id, .slice a2 cols.length cap2] 69)).alloc (.cells #[.slice a l.length cap] 71))
  have hmk : (Instr.makeSlice 71 (.int .i64 (l.length : Int)) (.int .i64 (l.length : Int))).run Tryz.prog ((w.alloc (.cells #[.int .u32 oid, .int .u32 ver, .string nm, .int .u8 id, .slice a2 cols.length cap2] 69)).alloc (.cells #[.slice a l.length cap] 71)) = .ok (.slice (some ⟨w.heap.size + 1 + 1, 0, none⟩) l.length l.length) (((w.alloc (.cells #[.int .u32 oid, .int .u32 ver, .string nm, .int .u8 id, .slice a2 cols.length cap2] 69)).alloc (.cells #[.slice a l.length cap] 71)).alloc (.cells cs 159)) := by
    rw [hmk0]; simp
  have HC := Hm (And.intro hcs1 hcs2)
  clear hmk0 hcs1 hcs2
  refine callsIn_of_wp_marks Tryz.func126 rfl hDF ?_ hro
  simp only [Tryz.ntmps126, List.size_toArray, List.length_cons, List.length_nil, Nat.reduceAdd, Nat.reduceSub, Array.replicate_succ, Array.replicate_zero, List.push_toArray, List.append_toArray, List.nil_append, List.cons_append]
  gi_wp2_with (gi_at_call 116; refine (keys_in F (n - 1) hKF hro _ _ _ _ _ _).mono ?_; rintro e w' ⟨rfl, rfl⟩)
  have hE5 : Ext w (((((w.alloc (.cells #[.int .u32 oid, .int .u32 ver, .string nm, .int .u8 id, .slice a2 cols.length cap2] 69)).alloc (.cells #[.slice a l.length cap] 71)).alloc (.cells cs 159)).alloc (.cells #[.slice (some ⟨w.heap.size + 1 + 1, 0, none⟩) l.length l.length] 71)).alloc (.cells #[.int .u32 oid, .int .u32 ver, .string nm, .int .u8 id, .slice a2 cols.length cap2] 69)) := (((((Ext.refl w).alloc _).alloc _).alloc _).alloc _).alloc _
  have hB1 : Blk (((((w.alloc (.cells #[.int .u32 oid, .int .u32 ver, .string nm, .int .u8 id, .slice a2 cols.length cap2] 69)).alloc (.cells #[.slice a l.length cap] 71)).alloc (.cells cs 159)).alloc (.cells #[.slice (some ⟨w.heap.size + 1 + 1, 0, none⟩) l.length l.length] 71)).alloc (.cells #[.int .u32 oid, .int .u32 ver, .string nm, .int .u8 id, .slice a2 cols.length cap2] 69)) (w.heap.size + 1) #[.slice a l.length cap] 71 := (((Blk.new' _ _ (by simp)).alloc _).alloc _).alloc _
  have hB2 : Blk (((((w.alloc (.cells #[.int .u32 oid, .int .u32 ver, .string nm, .int .u8 id, .slice a2 cols.length cap2] 69)).alloc (.cells #[.slice a l.length cap] 71)).alloc (.cells cs 159)).alloc (.cells #[.slice (some ⟨w.heap.size + 1 + 1, 0, none⟩) l.length l.length] 71)).alloc (.cells #[.int .u32 oid, .int .u32 ver, .string nm, .int .u8 id, .slice a2 cols.length cap2] 69)) (w.heap.size + 1 + 1) cs 159 := ((Blk.new' _ _ (by simp)).alloc _).alloc _
  have hB3 : Blk (((((w.alloc (.cells #[.int .u32 oid, .int .u32 ver, .string nm, .int .u8 id, .slice a2 cols.length cap2] 69)).alloc (.cells #[.slice a l.length cap] 71)).alloc (.cells cs 159)).alloc (.cells #[.slice (some ⟨w.heap.size + 1 + 1, 0, none⟩) l.length l.length] 71)).alloc (.cells #[.int .u32 oid, .int .u32 ver, .string nm, .int .u8 id, .slice a2 cols.length cap2] 69)) (w.heap.size + 1 + 1 + 1) #[.slice (some ⟨w.heap.size + 1 + 1, 0, none⟩) l.length l.length] 71 := (Blk.new' _ _ (by simp)).alloc _
  have hB4 : Blk (((((w.alloc (.cells #[.int .u32 oid, .int .u32 ver, .string nm, .int .u8 id, .slice a2 cols.length cap2] 69)).alloc (.cells #[.slice a l.length cap] 71)).alloc (.cells cs 159)).alloc (.cells #[.slice (some ⟨w.heap.size + 1 + 1, 0, none⟩) l.length l.length] 71)).alloc (.cells #[.int .u32 oid, .int .u32 ver, .string nm, .int .u8 id, .slice a2 cols.length cap2] 69)) (w.heap.size + 1 + 1 + 1 + 1) #[.int .u32 oid, .int .u32 ver, .string nm, .int .u8 id, .slice a2 cols.length cap2] 69 := Blk.new' _ _ (by simp)
  have hRow : RowAt (((((w.alloc (.cells #[.int .u32 oid, .int .u32 ver, .string nm, .int .u8 id, .slice a2 cols.length cap2] 69)).alloc (.cells #[.slice a l.length cap] 71)).alloc (.cells cs 159)).alloc (.cells #[.slice (some ⟨w.heap.size + 1 + 1, 0, none⟩) l.length l.length] 71)).alloc (.cells #[.int .u32 oid, .int .u32 ver, .string nm, .int .u8 id, .slice a2 cols.length cap2] 69)) (w.heap.size + 1 + 1) (fillK l ([] : List (KX cols))) := by
    rw [fillK_nil]
    refine ⟨cs, hB2, by rw [List.length_replicate]; exact HC.out.1, fun i hi j hj => ?_⟩
    rw [List.length_replicate] at hi
    rw [List.getElem_replicate]
    exact HC.out.2 i hi j hj
  clear hmk
  refine wpIn_rangeFunc_ownG hro h1 (gf := 143) (lb := #[.pointer (some ⟨w.heap.size + 1 + 1 + 1 + 1, 0, none⟩)]) rfl h1F (enters_of Tryz.func143 (by kernel_rfl) rfl)
    (keys_stops F (n - 1) h1F hro (by omega) (w.heap.size + 1 + 1 + 1 + 1) w a2 cap2 cols hlen2 HL2.out _ hE5 (hB4.cell 4) hB4.lt) belowK_t (belowK_b (by simp; omega)) (Below.refl _ _) (fun _ => rfl)
    (fun pre W => (RowAt W (w.heap.size + 1 + 1) (fillK l pre) ∧ W.cell? ⟨w.heap.size + 1 + 1 + 1, 0, none⟩ = some (.slice (some ⟨w.heap.size + 1 + 1, 0, none⟩) l.length l.length) ∧ W.cell? ⟨w.heap.size + 1, 0, none⟩ = some (.slice a l.length cap)) ∧ Below w.heap.size w W)
    (fun _ _ _ => False)
    (OwnFrom.and (Own.from (fun s A B row hs hg hr => ⟨hs.1.kept hg hr, cell_kept hs.2.1 hg hr, cell_kept hs.2.2 hg hr⟩) _) (ownFrom_below (Nat.le_refl _) (by simp; omega)))
    (fun _ _ _ _ _ hs _ _ => hs)
    ⟨⟨hRow, hB3.cell 0, hB1.cell 0⟩, hE5⟩
    (fun x => { tmps := #[.agg #[.int .u32 oid, .int .u32 ver, .string nm, .int .u8 id, .slice a2 cols.length cap2], .slice a l.length cap, .pointer (some ⟨w.heap.size, 0, none⟩), .pointer (some ⟨w.heap.size + 1, 0, none⟩), .slice none 0 0, .pointer (some ⟨w.heap.size + 1 + 1 + 1, 0, none⟩), .int .i64 (x.1.1 : Int), .slice a l.length cap, .int .i64 (l.length : Int), .slice (some ⟨w.heap.size + 1 + 1, 0, none⟩) l.length l.length, .agg #[.int .u32 oid, .int .u32 ver, .string nm, .int .u8 id, .slice a2 cols.length cap2], .func (.func 143) #[] #[.pointer (some ⟨w.heap.size + 1 + 1 + 1 + 1, 0, none⟩)], .int .i64 (x.1.1 : Int), .agg #[.string x.1.2.nm, .int .u8 x.1.2.ty, .bool x.1.2.key], undef, undef, undef, undef, undef, undef, undef, undef, undef, undef, undef, undef], defers := [] }) ?assign ?body ?done ?stop
  case assign =>
    intro l x W K hK
    unfold encK
    rw [fold_two]
    gi_wp2
    exact hK
  case body =>
    rintro lr pre x W ⟨⟨hr, hco, hcw⟩, hB⟩ _
    have HR := Hm hr
    have HB := Hm hB
    clear hr hB
    have hx : x.1.1 < cols.length := x.2.1
    have hmx : Tryz.prog.follows .mixedOrders = true := by kernel_rfl
    by_cases hlt : x.1.1 < l.length
    · obtain ⟨b, o, rfl, hb, hc⟩ := HL.out.at_ (i := x.1.1) (by simpa using hlt)
      obtain ⟨f0, f1, f2, f3, f4⟩ := K.pcAt hlt hc hb HB.out
      have hs := HR.out.cells (i := x.1.1) (by rw [fillK_len]; exact hlt)
      obtain ⟨s0, s1, s2, s3, s4⟩ := hs
      have sf := HR.out.frozen
      have HU := Hm (fillK_set (pre := pre) hlt)
      clear hc
      gi_wp2
      gi_region_with_o (fail)
      all_goals
        gi_wp2
        have HBW := Hm (((((((Below.refl w.heap.size W).setCell (p := ⟨w.heap.size + 1 + 1, x.1.1 * 5, none⟩) (by show w.heap.size ≤ w.heap.size + 1 + 1; omega) (.int .u8 l[x.1.1].k)).setCell (p := ⟨w.heap.size + 1 + 1, x.1.1 * 5 + 1, none⟩) (by show w.heap.size ≤ w.heap.size + 1 + 1; omega) (.int .u8 l[x.1.1].v.ty)).setCell (p := ⟨w.heap.size + 1 + 1, x.1.1 * 5 + 2, none⟩) (by show w.heap.size ≤ w.heap.size + 1 + 1; omega) (.int .i64 l[x.1.1].v.n)).setCell (p := ⟨w.heap.size + 1 + 1, x.1.1 * 5 + 3, none⟩) (by show w.heap.size ≤ w.heap.size + 1 + 1; omega) (.complex .f64 l[x.1.1].v.x l[x.1.1].v.y)).setCell (p := ⟨w.heap.size + 1 + 1, x.1.1 * 5 + 4, none⟩) (by show w.heap.size ≤ w.heap.size + 1 + 1; omega) (.string l[x.1.1].v.s)).drew)
        refine ⟨((((((KeepsOthers.setCell _ _ _).trans (KeepsOthers.setCell _ _ _)).trans (KeepsOthers.setCell _ _ _)).trans (KeepsOthers.setCell _ _ _)).trans (KeepsOthers.setCell _ _ _)).trans (KeepsOthers.drew _)).from _, HBW.out, ⟨by rw [HU.out]; exact (HR.out.set (by rw [fillK_len]; exact hlt) l[x.1.1]).drew, ?_, ?_⟩, HB.out.trans HBW.out⟩ <;> go_simp
    · have hge : l.length ≤ x.1.1 := by omega
      have HU := Hm (fillK_skip (pre := pre) hge)
      gi_wp2
      exact ⟨KeepsFrom.refl _ _, Below.refl _ _, ⟨by rw [HU.out]; exact HR.out, hco, hcw⟩, HB.out⟩
  case done =>
    rintro D ys W hD rfl ⟨⟨hr, hco, hcw⟩, hB⟩ hK
    gi_wp2
    refine ⟨by simp, .inl ⟨_, _, rfl, run_takeDeferred hK, ?_⟩⟩
    refine ⟨_, results_tmp rfl _ _ _, w.heap.size + 1 + 1, l.length, rfl, Nat.le_refl _, by omega, ?_, hB.trans (belowK_b (w := w) (Nat.le_refl _) W D _ _ (by simp at hD; omega) hK rfl rfl)⟩
    rw [← fillK_all]
    exact hr.kept (grownBy_putObj' _ D (.deferred none)) (fun r e => by cases e; exact ⟨_, hK, rfl⟩)
  case stop =>
    rintro D c pre W _ _ h _
    exact h.elim
theorem keyOf_any (oid ver : Int) (nm : ByteArray) (id : Int) (cols : List Col) (a2 : Option Addr) (cap2 : Nat) (l : List K) (a : Option Addr) (cap : Nat) (w : World)
    (hl2 : Sl w (.slice a2 cols.length cap2) 3 (cols.map Col.cells)) (hlen2 : cols.length ≤ 1000) (hl : Sl w (.slice a l.length cap) 5 (l.map K.pc)) (hlen : l.length ≤ 1000) :
    Calls Tryz.prog 126 #[.agg #[.int .u32 oid, .int .u32 ver, .string nm, .int .u8 id, .slice a2 cols.length cap2], .slice a l.length cap] w fun e w' => ∃ g cap', e = .returned (.slice (some ⟨g, 0, none⟩) l.length cap') ∧ l.length ≤ cap' ∧ w.heap.size ≤ g ∧ RowAt w' g (keyOf cols l) ∧ Ext w w' :=
  callsIn_wide.1 (keyOf_in Fence.wide 3 trivial trivial trivial rfl (Nat.le_refl _) oid ver nm id cols a2 cap2 l a cap w hl2 hlen2 hl hlen)
end Go.Proofs.YtdlhaidlokkmnaaGreatDoor
namespace Go.Proofs.YtdlhaidlokkmnaaGreatDoor
open Go.RowKit
theorem rtexty_yes (kind : Int) (w : World) (h : kind = 5 ∨ kind = 6) : Calls Tryz.prog 181 #[.int .u8 kind] w fun e w' => e = .returned (.bool true) ∧ w = w' := by
  rcases h with rfl | rfl
  all_goals
    go_enter Tryz.func181, Tryz.ntmps181
    go_wp2
    go_ret
    exact ⟨rfl, rfl⟩
theorem rtexty_no (kind : Int) (w : World) (h : kind ≠ 5 ∧ kind ≠ 6) : Calls Tryz.prog 181 #[.int .u8 kind] w fun e w' => e = .returned (.bool false) ∧ w = w' := by
  have h5 : (kind == 5) = false := by simpa using h.1
  have h6 : (kind == 6) = false := by simpa using h.2
  clear h
  go_enter Tryz.func181, Tryz.ntmps181
  go_wp2
  go_ret
  exact ⟨rfl, rfl⟩
theorem rcright_any (k ty n : Int) (x y : Nat) (s : ByteArray) (kind : Int) (w : World) (hk0 : 0 ≤ k) (hs : s.size ≤ 9223372036854775807) :
    Calls Tryz.prog 169 #[.agg #[.int .u8 k, .int .u8 ty, .int .i64 n, .int .u64 x, .int .u64 y, .string s], .int .u8 kind] w fun e w' => e = .returned (.int .i64 (rightC k ty n x y s kind)) ∧ Ext w w' := by
  have HV := Hm (fun w => rright_any ty n x y s w hs)
  by_cases hkd : kind < 1 ∨ 6 < kind
  · have HR : Hid (rightC k ty n x y s kind = 11) := Hm (by unfold rightC; rw [if_pos hkd])
    by_cases h1 : kind < 1
    · clear hkd
      go_enter Tryz.func169, Tryz.ntmps169
      go_wp2
      go_ret
      exact ⟨ret_int HR.out.symm, by exact eX⟩
    · have h6 : 6 < kind := by omega
      clear hkd
      go_enter Tryz.func169, Tryz.ntmps169
      go_wp2
      go_ret
      exact ⟨ret_int HR.out.symm, by exact eX⟩
  have hd1 : 1 ≤ kind := by omega
  have hd2 : kind ≤ 6 := by omega
  by_cases hk2 : 2 < k
  · have HR : Hid (rightC k ty n x y s kind = 7) := Hm (by unfold rightC; rw [if_neg hkd, if_pos hk2])
    clear hkd
    go_enter Tryz.func169, Tryz.ntmps169
    go_wp2
    go_ret
    exact ⟨ret_int HR.out.symm, by exact eX⟩
  by_cases hk3 : k < 2
  · by_cases hz : ty = 0 ∧ n = 0 ∧ (x : Int) = 0 ∧ (y : Int) = 0 ∧ s.size = 0
    · obtain ⟨h_1, h_2, h_3, h_4, h_5⟩ := hz
      obtain rfl := h_1
      obtain rfl := h_2
      obtain rfl : x = 0 := by omega
      obtain rfl : y = 0 := by omega
      obtain rfl : s = ByteArray.empty := (size_zero s).2 h_5
      have hz : (0 : Int) = 0 ∧ (0 : Int) = 0 ∧ ((0 : Nat) : Int) = 0 ∧ ((0 : Nat) : Int) = 0 ∧ ByteArray.empty.size = 0 := ⟨rfl, rfl, rfl, rfl, rfl⟩
      clear h_3 h_4 h_5
      by_cases h1 : k = 1
      · subst h1
        by_cases ht : kind = 5 ∨ kind = 6
        · have HR : Hid (rightC 1 0 0 ((0 : Nat) : Int) ((0 : Nat) : Int) ByteArray.empty kind = 0) := Hm (by unfold rightC; rw [if_neg hkd, if_neg hk2, if_pos hk3, if_pos hz, if_neg (by omega)])
          have HX := Hm (fun w => rtexty_yes kind w ht)
          clear hkd hz ht
          go_enter Tryz.func169, Tryz.ntmps169
          go_wp2_with (go_at_call 181; refine (HX.out _).mono ?_; rintro e w1 ⟨rfl, rfl⟩)
          go_ret
          exact ⟨ret_int HR.out.symm, by exact eX⟩
        · have HR : Hid (rightC 1 0 0 ((0 : Nat) : Int) ((0 : Nat) : Int) ByteArray.empty kind = 11) := Hm (by unfold rightC; rw [if_neg hkd, if_neg hk2, if_pos hk3, if_pos hz, if_pos (by omega)])
          have HX := Hm (fun w => rtexty_no kind w (by omega))
          clear hkd hz ht
          go_enter Tryz.func169, Tryz.ntmps169
          go_wp2_with (go_at_call 181; refine (HX.out _).mono ?_; rintro e w1 ⟨rfl, rfl⟩)
          go_ret
          exact ⟨ret_int HR.out.symm, by exact eX⟩
      · obtain rfl : k = 0 := by omega
        have HR : Hid (rightC 0 0 0 ((0 : Nat) : Int) ((0 : Nat) : Int) ByteArray.empty kind = 0) := Hm (by unfold rightC; rw [if_neg hkd, if_neg hk2, if_pos hk3, if_pos hz, if_neg (by omega)])
        clear hkd hz h1
        go_enter Tryz.func169, Tryz.ntmps169
        go_wp2
        go_ret
        exact ⟨ret_int HR.out.symm, by exact eX⟩
    · have HR : Hid (rightC k ty n x y s kind = 3) := Hm (by unfold rightC; rw [if_neg hkd, if_neg hk2, if_pos hk3, if_neg hz])
      have HZ := Hm hz
      clear hkd hz
      by_cases g1 : ty = 0
      · subst g1
        by_cases g2 : n = 0
        · subst g2
          by_cases g3 : x = 0
          · subst g3
            by_cases g4 : y = 0
            · subst g4
              have g5 : ¬ s.toList = [] := by
                intro h
                refine HZ.out ⟨rfl, rfl, rfl, rfl, ?_⟩
                have := isEmpty_size s
                rw [h] at this
                exact of_decide_eq_true this.symm
              have g6 : (s.toList == []) = false := by simpa using g5
              go_enter Tryz.func169, Tryz.ntmps169
              go_wp2
              go_ret
              exact ⟨ret_int HR.out.symm, by exact eX⟩
            · go_enter Tryz.func169, Tryz.ntmps169
              go_wp2
              go_ret
              exact ⟨ret_int HR.out.symm, by exact eX⟩
          · go_enter Tryz.func169, Tryz.ntmps169
            go_wp2
            go_ret
            exact ⟨ret_int HR.out.symm, by exact eX⟩
        · go_enter Tryz.func169, Tryz.ntmps169
          go_wp2
          go_ret
          exact ⟨ret_int HR.out.symm, by exact eX⟩
      · go_enter Tryz.func169, Tryz.ntmps169
        go_wp2
        go_ret
        exact ⟨ret_int HR.out.symm, by exact eX⟩
  · obtain rfl : k = 2 := by omega
    obtain ⟨R, hR⟩ : ∃ R, R = rightV ty n x y s := ⟨_, rfl⟩
    rw [← hR] at HV
    by_cases h0 : R = 0
    · subst h0
      by_cases ht : ty = kind
      · have HR : Hid (rightC 2 ty n x y s kind = 0) := Hm (right_mk hR.symm ht)
        subst ht
        clear hkd hR
        go_enter Tryz.func169, Tryz.ntmps169
        go_wp2_with (go_at_call 105; refine (HV.out _).mono ?_; rintro e w1 ⟨rfl, hb1⟩; have h1 := (Blk.new w #[.int .u8 2, .int .u8 ty, .int .i64 n, .int .u64 x, .int .u64 y, .string s] 97).ext hb1; have k1 := h1.cell; have z1 := h1.lt)
        go_ret
        exact ⟨ret_int HR.out.symm, by exact eX⟩
      · have HR : Hid (rightC 2 ty n x y s kind = 11) := Hm (by unfold rightC; rw [if_neg hkd, if_neg hk2, if_neg hk3, if_neg (by rw [← hR]; decide), if_pos ht])
        have ht2 : (ty != kind) = true := by simpa using ht
        clear hkd hR ht
        go_enter Tryz.func169, Tryz.ntmps169
        go_wp2_with (go_at_call 105; refine (HV.out _).mono ?_; rintro e w1 ⟨rfl, hb1⟩; have h1 := (Blk.new w #[.int .u8 2, .int .u8 ty, .int .i64 n, .int .u64 x, .int .u64 y, .string s] 97).ext hb1; have k1 := h1.cell; have z1 := h1.lt)
        go_ret
        exact ⟨ret_int HR.out.symm, by exact eX⟩
    · have HR : Hid (rightC 2 ty n x y s kind = R) := Hm (by unfold rightC; rw [if_neg hkd, if_neg hk2, if_neg hk3, if_pos (by rw [← hR]; exact h0), hR])
      have h02 : (R != 0) = true := by simpa using h0
      clear hkd hR h0
      go_enter Tryz.func169, Tryz.ntmps169
      go_wp2_with (go_at_call 105; refine (HV.out _).mono ?_; rintro e w1 ⟨rfl, hb1⟩; have h1 := (Blk.new w #[.int .u8 2, .int .u8 ty, .int .i64 n, .int .u64 x, .int .u64 y, .string s] 97).ext hb1; have k1 := h1.cell; have z1 := h1.lt)
      go_ret
      exact ⟨ret_int HR.out.symm, by exact eX⟩
end Go.Proofs.YtdlhaidlokkmnaaGreatDoor
