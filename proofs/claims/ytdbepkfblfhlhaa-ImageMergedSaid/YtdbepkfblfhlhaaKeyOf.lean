/-
The key of a row: the program's image.KeyOf.
-/
import Derived.Test.YtdbepkfblfhlhaaKeyed
import Derived.Test.YtdbepkfblfhlhaaRowAt
namespace Go.Proofs.Ytdbepkfblfhlhaa
open Go.RowKit Go.Shelf
attribute [local go_sem] Oper.semAt_some

/-- Is a column of the key? -/
def isKeyAt (cols : List Col) (i : Nat) : Bool := (cols[i]?.map Col.key).getD false
/-- A row with the columns of the key alone. -/
def keyOf (cols : List Col) (l : List K) : List K := l.mapIdx fun i c => if isKeyAt cols i = true then c else K.zero
/-- A row with some of its cells. -/
def fillK {cols : List Col} (l : List K) (pre : List (KX cols)) : List K := l.mapIdx fun i c => if pre.any (fun x => x.1.1 == i) = true then c else K.zero
theorem fillK_len {cols : List Col} {l : List K} {pre : List (KX cols)} : (fillK l pre).length = l.length := by simp [fillK]
theorem fillK_get {cols : List Col} {l : List K} {pre : List (KX cols)} {i : Nat} (h : i < (fillK l pre).length) : (fillK l pre)[i] = if pre.any (fun x => x.1.1 == i) = true then l[i]'(by rw [fillK_len] at h; exact h) else K.zero := by
  simp [fillK]
theorem fillK_nil {cols : List Col} {l : List K} : fillK l ([] : List (KX cols)) = List.replicate l.length K.zero := by
  apply List.ext_getElem
  · simp [fillK]
  · intro i h1 h2; rw [fillK_get]; simp
theorem fillK_set {cols : List Col} {l : List K} {pre : List (KX cols)} {x : KX cols} (h : x.1.1 < l.length) : fillK l (pre ++ [x]) = (fillK l pre).set x.1.1 l[x.1.1] := by
  apply List.ext_getElem
  · simp [fillK]
  · intro i h1 h2
    rw [fillK_get, List.getElem_set]
    by_cases e : x.1.1 = i
    · subst e; simp
    · rw [if_neg e, fillK_get, List.any_append]
      have : ([x].any fun x => x.1.1 == i) = false := by simp [e]
      rw [this, Bool.or_false]
theorem fillK_skip {cols : List Col} {l : List K} {pre : List (KX cols)} {x : KX cols} (h : l.length ≤ x.1.1) : fillK l (pre ++ [x]) = fillK l pre := by
  apply List.ext_getElem
  · simp [fillK]
  · intro i h1 h2
    rw [fillK_get, fillK_get, List.any_append]
    have hi : i < l.length := by rw [fillK_len] at h2; exact h2
    have : ([x].any fun x => x.1.1 == i) = false := by simp; omega
    rw [this, Bool.or_false]
theorem isKey_any {cols : List Col} {i : Nat} : (keysUp cols cols.length).any (fun x => x.1.1 == i) = isKeyAt cols i := by
  rw [Bool.eq_iff_iff, List.any_eq_true]
  unfold isKeyAt
  constructor
  · rintro ⟨⟨⟨j, c⟩, hj, hc, hk⟩, _, h⟩
    simp only [beq_iff_eq] at h
    subst h
    simp only at hc hk
    rw [hc]; simpa using hk
  · intro h
    cases hc : cols[i]? with
    | none => rw [hc] at h; simp at h
    | some c =>
      rw [hc] at h
      have hi : i < cols.length := (List.getElem?_eq_some_iff.1 hc).1
      exact ⟨⟨(i, c), hi, hc, by simpa using h⟩, (keysUp_mem _ _).2 hi, by simp⟩
theorem fillK_all {cols : List Col} {l : List K} : fillK l (keysUp cols cols.length) = keyOf cols l := by
  unfold fillK keyOf
  congr 1
  funext i c
  rw [isKey_any]

set_option maxRecDepth 100000 in
set_option maxHeartbeats 4000000 in
theorem keyOf_in (F : Fence) (n : Nat) (h1F : F.fn 105) (hKF : F.fn 67) (hDF : F.fn 25) (hro : F.round = none) (hn : 3 ≤ n) (oid ver : Int) (nm : ByteArray) (id : Int) (cols : List Col) (a2 : Option Addr) (cap2 : Nat) (l : List K) (a : Option Addr) (cap : Nat) (w : World)
    (hl2 : Sl w (.slice a2 cols.length cap2) 3 (cols.map Col.cells)) (hlen2 : cols.length ≤ 1000) (hl : Sl w (.slice a l.length cap) 5 (l.map K.pc)) (hlen : l.length ≤ 1000) :
    CallsIn F n Try.prog 25 #[.agg #[.int .u32 oid, .int .u32 ver, .string nm, .int .u8 id, .slice a2 cols.length cap2], .slice a l.length cap] w fun e w' => ∃ g cap', e = .returned (.slice (some ⟨g, 0, none⟩) l.length cap') ∧ l.length ≤ cap' ∧ w.heap.size ≤ g ∧ RowAt w' g (keyOf cols l) ∧ Ext w w' := by
  have h1 : 1 ≤ n := by omega
  have HL := Hid.mk' hl
  have HL2 := Hid.mk' hl2
  clear hl hl2
  obtain ⟨cs, hmk0, hcs1, hcs2⟩ := run_makeK l.length hlen ((w.alloc (.cells #[.int .u32 oid, .int .u32 ver, .string nm, .int .u8 id, .slice a2 cols.length cap2] 42)).alloc (.cells #[.slice a l.length cap] 33))
  have hmk : (Instr.makeSlice 33 (.int .i64 (l.length : Int)) (.int .i64 (l.length : Int))).run Try.prog ((w.alloc (.cells #[.int .u32 oid, .int .u32 ver, .string nm, .int .u8 id, .slice a2 cols.length cap2] 42)).alloc (.cells #[.slice a l.length cap] 33)) = .ok (.slice (some ⟨w.heap.size + 1 + 1, 0, none⟩) l.length l.length) (((w.alloc (.cells #[.int .u32 oid, .int .u32 ver, .string nm, .int .u8 id, .slice a2 cols.length cap2] 42)).alloc (.cells #[.slice a l.length cap] 33)).alloc (.cells cs 78)) := by
    rw [hmk0]; simp
  have HC := Hid.mk' (And.intro hcs1 hcs2)
  clear hmk0 hcs1 hcs2
  refine callsIn_of_wp_marks Try.func25 rfl hDF ?_ hro
  simp only [Try.ntmps25, List.size_toArray, List.length_cons, List.length_nil, Nat.reduceAdd, Nat.reduceSub, Array.replicate_succ, Array.replicate_zero, List.push_toArray, List.append_toArray, List.nil_append, List.cons_append]
  gi_wp2_with (gi_at_call 67; refine (keys_in F (n - 1) hKF hro _ _ _ _ _ _).mono ?_; rintro e w' ⟨rfl, rfl⟩)
  have hE5 : Ext w (((((w.alloc (.cells #[.int .u32 oid, .int .u32 ver, .string nm, .int .u8 id, .slice a2 cols.length cap2] 42)).alloc (.cells #[.slice a l.length cap] 33)).alloc (.cells cs 78)).alloc (.cells #[.slice (some ⟨w.heap.size + 1 + 1, 0, none⟩) l.length l.length] 33)).alloc (.cells #[.int .u32 oid, .int .u32 ver, .string nm, .int .u8 id, .slice a2 cols.length cap2] 42)) := (((((Ext.refl w).alloc _).alloc _).alloc _).alloc _).alloc _
  have hB1 : Blk (((((w.alloc (.cells #[.int .u32 oid, .int .u32 ver, .string nm, .int .u8 id, .slice a2 cols.length cap2] 42)).alloc (.cells #[.slice a l.length cap] 33)).alloc (.cells cs 78)).alloc (.cells #[.slice (some ⟨w.heap.size + 1 + 1, 0, none⟩) l.length l.length] 33)).alloc (.cells #[.int .u32 oid, .int .u32 ver, .string nm, .int .u8 id, .slice a2 cols.length cap2] 42)) (w.heap.size + 1) #[.slice a l.length cap] 33 := (((Blk.new' _ _ (by simp)).alloc _).alloc _).alloc _
  have hB2 : Blk (((((w.alloc (.cells #[.int .u32 oid, .int .u32 ver, .string nm, .int .u8 id, .slice a2 cols.length cap2] 42)).alloc (.cells #[.slice a l.length cap] 33)).alloc (.cells cs 78)).alloc (.cells #[.slice (some ⟨w.heap.size + 1 + 1, 0, none⟩) l.length l.length] 33)).alloc (.cells #[.int .u32 oid, .int .u32 ver, .string nm, .int .u8 id, .slice a2 cols.length cap2] 42)) (w.heap.size + 1 + 1) cs 78 := ((Blk.new' _ _ (by simp)).alloc _).alloc _
  have hB3 : Blk (((((w.alloc (.cells #[.int .u32 oid, .int .u32 ver, .string nm, .int .u8 id, .slice a2 cols.length cap2] 42)).alloc (.cells #[.slice a l.length cap] 33)).alloc (.cells cs 78)).alloc (.cells #[.slice (some ⟨w.heap.size + 1 + 1, 0, none⟩) l.length l.length] 33)).alloc (.cells #[.int .u32 oid, .int .u32 ver, .string nm, .int .u8 id, .slice a2 cols.length cap2] 42)) (w.heap.size + 1 + 1 + 1) #[.slice (some ⟨w.heap.size + 1 + 1, 0, none⟩) l.length l.length] 33 := (Blk.new' _ _ (by simp)).alloc _
  have hB4 : Blk (((((w.alloc (.cells #[.int .u32 oid, .int .u32 ver, .string nm, .int .u8 id, .slice a2 cols.length cap2] 42)).alloc (.cells #[.slice a l.length cap] 33)).alloc (.cells cs 78)).alloc (.cells #[.slice (some ⟨w.heap.size + 1 + 1, 0, none⟩) l.length l.length] 33)).alloc (.cells #[.int .u32 oid, .int .u32 ver, .string nm, .int .u8 id, .slice a2 cols.length cap2] 42)) (w.heap.size + 1 + 1 + 1 + 1) #[.int .u32 oid, .int .u32 ver, .string nm, .int .u8 id, .slice a2 cols.length cap2] 42 := Blk.new' _ _ (by simp)
  have hRow : RowAt (((((w.alloc (.cells #[.int .u32 oid, .int .u32 ver, .string nm, .int .u8 id, .slice a2 cols.length cap2] 42)).alloc (.cells #[.slice a l.length cap] 33)).alloc (.cells cs 78)).alloc (.cells #[.slice (some ⟨w.heap.size + 1 + 1, 0, none⟩) l.length l.length] 33)).alloc (.cells #[.int .u32 oid, .int .u32 ver, .string nm, .int .u8 id, .slice a2 cols.length cap2] 42)) (w.heap.size + 1 + 1) (fillK l ([] : List (KX cols))) := by
    rw [fillK_nil]
    refine ⟨cs, hB2, by rw [List.length_replicate]; exact HC.out.1, fun i hi j hj => ?_⟩
    rw [List.length_replicate] at hi
    rw [List.getElem_replicate]
    exact HC.out.2 i hi j hj
  clear hmk
  refine wpIn_rangeFunc_ownG hro h1 (gf := 105) (lb := #[.pointer (some ⟨w.heap.size + 1 + 1 + 1 + 1, 0, none⟩)]) rfl h1F (enters_of Try.func105 (by kernel_rfl) rfl)
    (keys_stops F (n - 1) h1F hro (by omega) (w.heap.size + 1 + 1 + 1 + 1) w a2 cap2 cols hlen2 HL2.out _ hE5 (hB4.cell 4) hB4.lt) belowK_t (belowK_b (by simp; omega)) (Below.refl _ _) (fun _ => rfl)
    (fun pre W => (RowAt W (w.heap.size + 1 + 1) (fillK l pre) ∧ W.cell? ⟨w.heap.size + 1 + 1 + 1, 0, none⟩ = some (.slice (some ⟨w.heap.size + 1 + 1, 0, none⟩) l.length l.length) ∧ W.cell? ⟨w.heap.size + 1, 0, none⟩ = some (.slice a l.length cap)) ∧ Below w.heap.size w W)
    (fun _ _ _ => False)
    (OwnFrom.and (Own.from (fun s A B row hs hg hr => ⟨hs.1.kept hg hr, cell_kept hs.2.1 hg hr, cell_kept hs.2.2 hg hr⟩) _) (ownFrom_below (Nat.le_refl _) (by simp; omega)))
    (fun _ _ _ _ _ hs _ _ => hs)
    ⟨⟨hRow, hB3.cell 0, hB1.cell 0⟩, hE5⟩
    (fun x => { tmps := #[.agg #[.int .u32 oid, .int .u32 ver, .string nm, .int .u8 id, .slice a2 cols.length cap2], .slice a l.length cap, .pointer (some ⟨w.heap.size, 0, none⟩), .pointer (some ⟨w.heap.size + 1, 0, none⟩), .slice none 0 0, .pointer (some ⟨w.heap.size + 1 + 1 + 1, 0, none⟩), .int .i64 (x.1.1 : Int), .slice a l.length cap, .int .i64 (l.length : Int), .slice (some ⟨w.heap.size + 1 + 1, 0, none⟩) l.length l.length, .agg #[.int .u32 oid, .int .u32 ver, .string nm, .int .u8 id, .slice a2 cols.length cap2], .func (.func 105) #[] #[.pointer (some ⟨w.heap.size + 1 + 1 + 1 + 1, 0, none⟩)], .int .i64 (x.1.1 : Int), .agg #[.string x.1.2.nm, .int .u8 x.1.2.ty, .bool x.1.2.key], undef, undef, undef, undef, undef, undef, undef, undef, undef, undef, undef, undef], defers := [] }) ?assign ?body ?done ?stop
  case assign =>
    intro l x W K hK
    unfold encK
    rw [fold_two]
    gi_wp2
    exact hK
  case body =>
    rintro lr pre x W ⟨⟨hr, hco, hcw⟩, hB⟩ _
    have HR := Hid.mk' hr
    have HB := Hid.mk' hB
    clear hr hB
    have hx : x.1.1 < cols.length := x.2.1
    have hmx : Try.prog.follows .mixedOrders = true := by kernel_rfl
    by_cases hlt : x.1.1 < l.length
    · obtain ⟨b, o, rfl, hb, hc⟩ := HL.out.at_ (i := x.1.1) (by simpa using hlt)
      obtain ⟨f0, f1, f2, f3, f4⟩ := K.pcAt hlt hc hb HB.out
      have hs := HR.out.cells (i := x.1.1) (by rw [fillK_len]; exact hlt)
      obtain ⟨s0, s1, s2, s3, s4⟩ := hs
      have sf := HR.out.frozen
      have HU := Hid.mk' (fillK_set (pre := pre) hlt)
      clear hc
      gi_wp2
      gi_region_with_o (fail)
      all_goals
        gi_wp2
        have HBW := Hid.mk' (((((((Below.refl w.heap.size W).setCell (p := ⟨w.heap.size + 1 + 1, x.1.1 * 5, none⟩) (by show w.heap.size ≤ w.heap.size + 1 + 1; omega) (.int .u8 l[x.1.1].k)).setCell (p := ⟨w.heap.size + 1 + 1, x.1.1 * 5 + 1, none⟩) (by show w.heap.size ≤ w.heap.size + 1 + 1; omega) (.int .u8 l[x.1.1].v.ty)).setCell (p := ⟨w.heap.size + 1 + 1, x.1.1 * 5 + 2, none⟩) (by show w.heap.size ≤ w.heap.size + 1 + 1; omega) (.int .i64 l[x.1.1].v.n)).setCell (p := ⟨w.heap.size + 1 + 1, x.1.1 * 5 + 3, none⟩) (by show w.heap.size ≤ w.heap.size + 1 + 1; omega) (.complex .f64 l[x.1.1].v.x l[x.1.1].v.y)).setCell (p := ⟨w.heap.size + 1 + 1, x.1.1 * 5 + 4, none⟩) (by show w.heap.size ≤ w.heap.size + 1 + 1; omega) (.string l[x.1.1].v.s)).drew)
        refine ⟨((((((KeepsOthers.setCell _ _ _).trans (KeepsOthers.setCell _ _ _)).trans (KeepsOthers.setCell _ _ _)).trans (KeepsOthers.setCell _ _ _)).trans (KeepsOthers.setCell _ _ _)).trans (KeepsOthers.drew _)).from _, HBW.out, ⟨by rw [HU.out]; exact (HR.out.set (by rw [fillK_len]; exact hlt) l[x.1.1]).drew, ?_, ?_⟩, HB.out.trans HBW.out⟩ <;> go_simp
    · have hge : l.length ≤ x.1.1 := by omega
      have HU := Hid.mk' (fillK_skip (pre := pre) hge)
      gi_wp2
      exact ⟨KeepsFrom.refl _ _, Below.refl _ _, ⟨by rw [HU.out]; exact HR.out, hco, hcw⟩, HB.out⟩
  case done =>
    rintro D ys W hD rfl ⟨⟨hr, hco, hcw⟩, hB⟩ hK
    gi_wp2
    refine ⟨by simp, .inl ⟨_, _, rfl, run_takeDeferred hK, ?_⟩⟩
    refine ⟨_, results_tmp rfl _ _ _, w.heap.size + 1 + 1, l.length, rfl, Nat.le_refl _, by omega, ?_, hB.trans (belowK_b (w := w) (Nat.le_refl _) W D _ _ (by simp at hD; omega) hK rfl rfl)⟩
    rw [← fillK_all]
    exact hr.kept (grownBy_putObj' _ D (.deferred none)) (fun r e => by cases e; exact ⟨_, hK, rfl⟩)
  case stop =>
    rintro D c pre W _ _ h _
    exact h.elim

theorem keyOf_any (oid ver : Int) (nm : ByteArray) (id : Int) (cols : List Col) (a2 : Option Addr) (cap2 : Nat) (l : List K) (a : Option Addr) (cap : Nat) (w : World)
    (hl2 : Sl w (.slice a2 cols.length cap2) 3 (cols.map Col.cells)) (hlen2 : cols.length ≤ 1000) (hl : Sl w (.slice a l.length cap) 5 (l.map K.pc)) (hlen : l.length ≤ 1000) :
    Calls Try.prog 25 #[.agg #[.int .u32 oid, .int .u32 ver, .string nm, .int .u8 id, .slice a2 cols.length cap2], .slice a l.length cap] w fun e w' => ∃ g cap', e = .returned (.slice (some ⟨g, 0, none⟩) l.length cap') ∧ l.length ≤ cap' ∧ w.heap.size ≤ g ∧ RowAt w' g (keyOf cols l) ∧ Ext w w' :=
  callsIn_wide.1 (keyOf_in Fence.wide 3 trivial trivial trivial rfl (Nat.le_refl _) oid ver nm id cols a2 cap2 l a cap w hl2 hlen2 hl hlen)

end Go.Proofs.Ytdbepkfblfhlhaa
