/-
What is told of each column of rows: in plain words; the program's Columns.
-/
import Derived.Test.YtdbepkfblfhlhaaP16
import Derived.Test.YtdbepkfblfhlhaaSumOf
namespace Go.Proofs.Ytdbepkfblfhlhaa
open Go.RowKit

noncomputable def K.S (c : K) : S := contrib c.k c.v.ty c.v.n c.v.x c.v.y c.v.s.size
/-- What the first k rows come to in a column. -/
noncomputable def colUp (ls : List (List K)) (j : Nat) : Nat → S
  | 0 => S.zero
  | k + 1 => if h : ∃ h : k < ls.length, j < (ls[k]'h).length then (colUp ls j k).plus ((ls[k]'h.1)[j]'h.2).S else colUp ls j k
theorem colUp_succ {ls : List (List K)} {j k : Nat} (hk : k < ls.length) (hj : j < ls[k].length) : colUp ls j (k + 1) = (colUp ls j k).plus (ls[k][j]).S := by
  conv => lhs; unfold colUp
  rw [dif_pos ⟨hk, hj⟩]
theorem colUp_small (ls : List (List K)) (j : Nat) : ∀ k, (colUp ls j k).re.natAbs ≤ k * 1048576 ∧ (colUp ls j k).im.natAbs ≤ k * 1048576
  | 0 => by simp [colUp, S.zero]
  | k + 1 => by
    have ih := colUp_small ls j k
    unfold colUp
    split
    · rename_i h
      have hc := contrib_small (ls[k]'h.1)[j].k (ls[k]'h.1)[j].v.ty (ls[k]'h.1)[j].v.n (ls[k]'h.1)[j].v.x (ls[k]'h.1)[j].v.y (ls[k]'h.1)[j].v.s.size
      rw [Nat.succ_mul]
      exact ⟨Nat.le_trans (Int.natAbs_add_le _ _) (Nat.add_le_add ih.1 hc.1), Nat.le_trans (Int.natAbs_add_le _ _) (Nat.add_le_add ih.2 hc.2)⟩
    · rw [Nat.succ_mul]
      exact ⟨Nat.le_trans ih.1 (Nat.le_add_right _ _), Nat.le_trans ih.2 (Nat.le_add_right _ _)⟩
def rowE (ls : List (List K)) (r : Rl) (i : Nat) : Int := if h : i < ls.length then fitsE ls[i] r else 0
theorem rowE_lt {ls : List (List K)} {r : Rl} {i : Nat} (h : i < ls.length) : rowE ls r i = fitsE ls[i] r := by unfold rowE; rw [dif_pos h]
/-- What is wrong with rows of a relation. -/
def colsE (ls : List (List K)) (r : Rl) : Int := if r.right ≠ 0 then r.right else firstE (rowE ls r) ls.length
theorem colsE_right {ls : List (List K)} {r : Rl} {E : Int} (h : r.right = E) (h0 : E ≠ 0) : colsE ls r = E := by unfold colsE; rw [h, if_pos h0]
theorem colsE_at {ls : List (List K)} {r : Rl} (h : r.right = 0) {k : Nat} (hk : k < ls.length) (hp : ∀ j, j < k → rowE ls r j = 0) {E : Int} (hE : rowE ls r k = E) (h0 : E ≠ 0) : colsE ls r = E := by
  unfold colsE
  rw [if_neg (by simpa using h), firstE_at hp hk (by rw [hE]; exact h0), hE]
theorem colsE_ok {ls : List (List K)} {r : Rl} (h : r.right = 0) (hp : ∀ j, j < ls.length → rowE ls r j = 0) : colsE ls r = 0 := by
  unfold colsE
  rw [if_neg (by simpa using h), firstE_zero hp]

/-- A sum in the program's memory. -/
structure T where
  s : S
  x : Nat
  y : Nat
def T.ok (t : T) : Prop := W2 t.x t.y t.s.re t.s.im
def T.cells (t : T) : List Value := [.int .i64 (wrap64 t.s.c), .int .i64 (wrap64 t.s.n), .int .i64 (wrap64 t.s.o), .int .i64 (wrap64 t.s.b), .int .i64 (wrap64 t.s.i), .complex .f64 t.x t.y]
def T.zero : T := ⟨S.zero, 0, 0⟩
theorem T.zero_ok : T.zero.ok := w2_zero
def SumAt (W : World) (g : Nat) (ts : List T) : Prop := ∃ cs : Array Value, Blk W g cs 50 ∧ ts.length * 6 ≤ cs.size ∧ ∀ i (hi : i < ts.length), ∀ j, j < 6 → cs[i * 6 + j]? = (ts[i].cells)[j]?
section
variable {W W' : World} {g : Nat} {ts : List T}
theorem SumAt.lt (h : SumAt W g ts) : g < W.heap.size := by obtain ⟨cs, hb, _⟩ := h; exact hb.lt
theorem SumAt.ext (h : SumAt W g ts) (he : Ext W W') : SumAt W' g ts := by obtain ⟨cs, hb, hr⟩ := h; exact ⟨cs, hb.ext he, hr⟩
theorem SumAt.frozen (h : SumAt W g ts) (o : Nat) : W.frozen? ⟨g, o, none⟩ = false := by obtain ⟨cs, hb, _⟩ := h; exact hb.frozen o
theorem SumAt.at_ (h : SumAt W g ts) {i : Nat} (hi : i < ts.length) : W.cell? ⟨g, i * 6, none⟩ = some (.int .i64 (wrap64 ts[i].s.c)) ∧ W.cell? ⟨g, i * 6 + 1, none⟩ = some (.int .i64 (wrap64 ts[i].s.n)) ∧ W.cell? ⟨g, i * 6 + 2, none⟩ = some (.int .i64 (wrap64 ts[i].s.o)) ∧
    W.cell? ⟨g, i * 6 + 3, none⟩ = some (.int .i64 (wrap64 ts[i].s.b)) ∧ W.cell? ⟨g, i * 6 + 4, none⟩ = some (.int .i64 (wrap64 ts[i].s.i)) ∧ W.cell? ⟨g, i * 6 + 5, none⟩ = some (.complex .f64 ts[i].x ts[i].y) := by
  obtain ⟨cs, hb, _, hx⟩ := h
  have hx := hx i hi
  exact ⟨(hb.cell _).trans (hx 0 (by omega)), (hb.cell _).trans (hx 1 (by omega)), (hb.cell _).trans (hx 2 (by omega)), (hb.cell _).trans (hx 3 (by omega)), (hb.cell _).trans (hx 4 (by omega)), (hb.cell _).trans (hx 5 (by omega))⟩
theorem SumAt.sl (h : SumAt W g ts) (cap : Nat) : Sl W (.slice (some ⟨g, 0, none⟩) ts.length cap) 6 (ts.map T.cells) := by
  obtain ⟨cs, hb, _, hx⟩ := h
  refine ⟨_, cap, by rw [List.length_map], .inr ⟨g, 0, rfl, hb.lt, fun i hi j hj => ?_⟩⟩
  rw [List.length_map] at hi
  rw [getD_map T.cells ts hi, ← hx i hi j hj, Nat.zero_add]
  exact hb.cell _
theorem SumAt.set (h : SumAt W g ts) {i : Nat} (hi : i < ts.length) (t : T) :
    SumAt ((((((W.setCell ⟨g, i * 6, none⟩ (.int .i64 (wrap64 t.s.c))).setCell ⟨g, i * 6 + 1, none⟩ (.int .i64 (wrap64 t.s.n))).setCell ⟨g, i * 6 + 2, none⟩ (.int .i64 (wrap64 t.s.o))).setCell ⟨g, i * 6 + 3, none⟩ (.int .i64 (wrap64 t.s.b))).setCell ⟨g, i * 6 + 4, none⟩ (.int .i64 (wrap64 t.s.i))).setCell ⟨g, i * 6 + 5, none⟩ (.complex .f64 t.x t.y)) g (ts.set i t) := by
  obtain ⟨cs, hb, hs, hx⟩ := h
  refine ⟨_, (((((hb.set _ _).set _ _).set _ _).set _ _).set _ _).set _ _, by simpa using hs, fun q hq j hj => ?_⟩
  rw [List.length_set] at hq
  simp only [Array.getElem?_setIfInBounds, Array.size_setIfInBounds]
  by_cases e : q = i
  · subst e
    rw [List.getElem_set_self]
    have : j = 0 ∨ j = 1 ∨ j = 2 ∨ j = 3 ∨ j = 4 ∨ j = 5 := by omega
    rcases this with rfl | rfl | rfl | rfl | rfl | rfl
    all_goals
      simp [T.cells]
      (try omega)
  · rw [List.getElem_set_ne (Ne.symm e), ← hx q hq j hj]
    rw [if_neg (by omega), if_neg (by omega), if_neg (by omega), if_neg (by omega), if_neg (by omega), if_neg (by omega)]
end

theorem Try.infoSum : (Try.prog.info? 50).map (fun i => (i.zero, i.size, i.bytes)) = some (some (.agg #[.int .i64 0, .int .i64 0, .int .i64 0, .int .i64 0, .int .i64 0, .complex .f64 0 0]), 6, 56) := by kernel_rfl
theorem T.zero_cells : T.zero.cells = [.int .i64 0, .int .i64 0, .int .i64 0, .int .i64 0, .int .i64 0, .complex .f64 0 0] := by
  have w0 : wrap64 0 = 0 := by unfold wrap64; omega
  unfold T.cells T.zero S.zero; simp only [w0]
theorem run_makeS (n : Nat) (hn : n ≤ 1000) (w : World) :
    ∃ cs : Array Value, (Instr.makeSlice 35 (.int .i64 (n : Int)) (.int .i64 (n : Int))).run Try.prog w = .ok (.slice (some ⟨w.heap.size, 0, none⟩) n n) (w.alloc (.cells cs 50)) ∧ n * 6 ≤ cs.size ∧ ∀ i, i < n → ∀ j, j < 6 → cs[i * 6 + j]? = (T.zero.cells)[j]? := by
  obtain ⟨i0, hi, hz0, hz1, hz2⟩ := info_parts Try.infoSum
  have hr := run_make (P := Try.prog) w 35 50 i0 _ Try.underlying35 hi hz0 .i64 .i64 (n : Int) (n : Int) (by omega) (by omega) (by rw [hz2]; omega) (by omega)
  simp only [Int.toNat_natCast, hz1] at hr
  refine ⟨_, hr, by rw [size_madeCells]; exact Nat.le_refl _, fun i hi j hj => ?_⟩
  have hlt : i * 6 + j < n * 6 := by omega
  have hm : (i * 6 + j) % 6 = j := by omega
  have : j = 0 ∨ j = 1 ∨ j = 2 ∨ j = 3 ∨ j = 4 ∨ j = 5 := by omega
  rw [T.zero_cells]
  simp only [madeCells, Array.getElem?_map, Array.getElem?_range, hlt]
  rcases this with rfl | rfl | rfl | rfl | rfl | rfl <;> simp [Value.cells, hm]

/-- A row that lies somewhere. -/
structure PR where
  l : List K
  a : Option Addr
  c : Nat
def PR.val (p : PR) : Value := .slice p.a p.l.length p.c
def PR.cell (p : PR) : List Value := [p.val]
theorem PR.at_ {w wr : World} {b o : Nat} {ps : List PR} {k : Nat} (hk : k < ps.length) (hc : ∀ j, j < 1 → w.cell? ⟨b, o + k * 1 + j, none⟩ = ((ps.map PR.cell).getD k [])[j]?) (hb : b < w.heap.size) (hE : Ext w wr) : wr.cell? ⟨b, o + k, none⟩ = some (.slice ps[k].a ps[k].l.length ps[k].c) := by
  rw [getD_map PR.cell ps hk] at hc
  have := (hE.cells.1 b _ hb).trans (hc 0 (by omega))
  rw [Nat.mul_one, Nat.add_zero] at this
  exact this
/-- The sums while cell q of row k is next. -/
structure ColsAt (ls : List (List K)) (n k q : Nat) (ts : List T) : Prop where
  len : ts.length = n
  s : ∀ j (h : j < ts.length), ts[j].s = colUp ls j (if j < q then k + 1 else k)
  ok : ∀ j (h : j < ts.length), ts[j].ok
theorem ColsAt.zero (ls : List (List K)) (n : Nat) : ColsAt ls n 0 0 (List.replicate n T.zero) :=
  ⟨by simp, fun j h => by rw [List.getElem_replicate, if_neg (Nat.not_lt_zero _)]; rfl, fun j h => by rw [List.getElem_replicate]; exact T.zero_ok⟩
theorem ColsAt.step {ls : List (List K)} {n k q : Nat} {ts : List T} (h : ColsAt ls n k q ts) (hk : k < ls.length) (hq : q < ls[k].length) (hqn : q < ts.length) {t : T} (ht : t.s = ts[q].s.plus (ls[k][q]).S) (hok : t.ok) : ColsAt ls n k (q + 1) (ts.set q t) := by
  refine ⟨by rw [List.length_set]; exact h.len, fun j hj => ?_, fun j hj => ?_⟩
  · have hj2 : j < ts.length := by rwa [List.length_set] at hj
    by_cases e : j = q
    · subst e
      rw [List.getElem_set_self, ht, h.s j hj2, if_neg (Nat.lt_irrefl _), if_pos (Nat.lt_succ_self _), colUp_succ hk hq]
    · rw [List.getElem_set_ne (Ne.symm e), h.s j hj2]
      by_cases h1 : j < q
      · rw [if_pos h1, if_pos (by omega)]
      · rw [if_neg h1, if_neg (by omega)]
  · have hj2 : j < ts.length := by rwa [List.length_set] at hj
    by_cases e : j = q
    · subst e; rw [List.getElem_set_self]; exact hok
    · rw [List.getElem_set_ne (Ne.symm e)]; exact h.ok j hj2
theorem ColsAt.row {ls : List (List K)} {n k q : Nat} {ts : List T} (h : ColsAt ls n k q ts) (hq : n ≤ q) : ColsAt ls n (k + 1) 0 ts :=
  ⟨h.len, fun j hj => by rw [h.s j hj, if_pos (by have := h.len; omega), if_neg (Nat.not_lt_zero _)], h.ok⟩

def ColPost (ls : List (List K)) (r : Rl) (w : World) (e : Ending) (w' : World) : Prop :=
  ∃ v, e = .returned (.tuple #[v, .int .i64 (colsE ls r)]) ∧ (colsE ls r ≠ 0 → v = .slice none 0 0) ∧ (colsE ls r = 0 → ∃ g cap ts, v = .slice (some ⟨g, 0, none⟩) r.cols.length cap ∧ ColsAt ls r.cols.length ls.length 0 ts ∧ SumAt w' g ts) ∧ Ext w w'
theorem ColPost.bad {ls : List (List K)} {r : Rl} {w w' : World} {E : Int} (h : colsE ls r = E) (h0 : E ≠ 0) (hE : Ext w w') : ColPost ls r w (.returned (.tuple #[.slice none 0 0, .int .i64 E])) w' :=
  ⟨_, by rw [h], fun _ => rfl, fun h2 => absurd (h ▸ h2) h0, hE⟩
theorem ColPost.good {ls : List (List K)} {r : Rl} {w w' : World} {g cap n : Nat} {ts : List T} (h : colsE ls r = 0) (hn : r.cols.length = n) (hk : ColsAt ls n ls.length 0 ts) (hs : SumAt w' g ts) (hE : Ext w w') : ColPost ls r w (.returned (.tuple #[.slice (some ⟨g, 0, none⟩) n cap, .int .i64 0])) w' :=
  ⟨_, by rw [h], fun h2 => absurd h h2, fun _ => ⟨g, cap, ts, by rw [hn], by rw [hn]; exact hk, hs⟩, hE⟩

end Go.Proofs.Ytdbepkfblfhlhaa
