/-
Small general laws: stores of floats and complex numbers; worlds that only grow.
-/
import Derived.Test.YthdjinicmnhgpaaGreatRows
import Derived.WalkKit
import Derived.WalkSpells
import Derived.WalkLawsBesides
import Derived.Laws.EntriesVeiled
import Derived.Laws.ComplexArith
import Derived.Deep.QuietTactic
import Derived.BigQuiet
import Derived.Deep.RegionHeld3
import Derived.Deep.RegionWith
import Derived.StillTailTactics
import Derived.Deep.LoopGhost
import Derived.Deep.DeepCutAuto
import Derived.OrdersHeld
import Derived.StillTail
import Derived.Deep.AppendLies
namespace Go.Proofs.YthdjinicmnhgpaaGreat
open Go.RowKit
section
variable {P : Program} (w : World) (a : Addr) (m : Mode)
@[go_sem] theorem run_store_complex (k : FloatKind) (x y : Nat) : (store a (.complex k x y) m).run P w = stored P w a (.complex k x y) m := run_store P w a _ m rfl
@[go_sem] theorem run_store_float (k : FloatKind) (x : Nat) : (store a (.float k x) m).run P w = stored P w a (.float k x) m := run_store P w a _ m rfl
end

/-- A fact behind a name: the walk's simp does not look there. -/
theorem Hid.mk' {p : Prop} (h : p) : Hid p := h

/-- The world has grown; what there was is as it was. -/
def Ext (w w' : World) : Prop := Below w.heap.size w w'
theorem Ext.refl (w : World) : Ext w w := Below.refl _ _
theorem Ext.alloc {w w1 : World} (h : Ext w w1) (o : Obj) : Ext w (w1.alloc o) := Below.alloc h h.size o
theorem Ext.drew {w w1 : World} (h : Ext w w1) : Ext w w1.drew := Below.drew h
theorem Ext.drewN {w w1 : World} (h : Ext w w1) (n : Nat) : Ext w (w1.drewN n) := ⟨h.os, h.tape, h.output, h.size, h.block⟩
theorem Ext.trans {w w1 w2 : World} (h : Ext w w1) (k : Ext w1 w2) : Ext w w2 := Below.trans h (Below.mono k h.size)
theorem Ext.size {w w1 : World} (h : Ext w w1) : w.heap.size ≤ w1.heap.size := Below.size h
theorem Ext.cells {W w1 : World} (hb : Ext W w1) : (∀ b o, b < W.heap.size → w1.cell? ⟨b, o, none⟩ = W.cell? ⟨b, o, none⟩) ∧ (∀ b o, b < W.heap.size → w1.frozen? ⟨b, o, none⟩ = W.frozen? ⟨b, o, none⟩) :=
  ⟨fun b o h => Below.cell hb (p := ⟨b, o, none⟩) h, fun b o h => Below.frozen hb (p := ⟨b, o, none⟩) h⟩
theorem held_of {W w1 : World} (h : Ext W w1) : Ext W w1 ∧ (∀ b o, b < W.heap.size → w1.cell? ⟨b, o, none⟩ = W.cell? ⟨b, o, none⟩) ∧ (∀ b o, b < W.heap.size → w1.frozen? ⟨b, o, none⟩ = W.frozen? ⟨b, o, none⟩) := ⟨h, h.cells⟩
theorem held_left {W w1 : World} {q : Prop} (h : Ext W w1 ∧ q) : Ext W w1 := h.1
theorem Ext.setCell {w w1 : World} (h : Ext w w1) {p : Addr} (hp : w.heap.size ≤ p.block) (u : Value) : Ext w (w1.setCell p u) := Below.setCell h hp u

theorem ret_int {k : IntKind} {a b : Int} (h : a = b) : Ending.returned (.int k a) = .returned (.int k b) := by rw [h]
theorem ret_bool {a b : Bool} (h : a = b) : Ending.returned (.bool a) = .returned (.bool b) := by rw [h]
theorem isEmpty_size (s : ByteArray) : s.toList.isEmpty = decide (s.size = 0) := by
  have h : s.size = s.data.toList.length := by simp only [Array.length_toList]; rfl
  rw [ByteArray.toList_eq, h]
  cases s.data.toList <;> simp

/-- A block that is known whole; no cell of it is frozen. -/
def Blk (w : World) (b : Nat) (cs : Array Value) (t : TypeId) : Prop := w.heap[b]? = some (.cells cs t (0, 0))
theorem Blk.lt {w : World} {b : Nat} {cs : Array Value} {t : TypeId} (h : Blk w b cs t) : b < w.heap.size := by
  rcases Nat.lt_or_ge b w.heap.size with h1 | h1
  · exact h1
  · unfold Blk at h; rw [Array.getElem?_eq_none h1] at h; cases h
theorem Blk.cell {w : World} {b : Nat} {cs : Array Value} {t : TypeId} (h : Blk w b cs t) : ∀ o, w.cell? ⟨b, o, none⟩ = cs[o]? := by
  intro o; unfold World.cell?; unfold Blk at h; simp only [h]; rfl
theorem Blk.frozen {w : World} {b : Nat} {cs : Array Value} {t : TypeId} (h : Blk w b cs t) : ∀ o, w.frozen? ⟨b, o, none⟩ = false := by
  intro o; unfold World.frozen?; unfold Blk at h; simp only [h]; simp
theorem Blk.ext {w w1 : World} {b : Nat} {cs : Array Value} {t : TypeId} (h : Blk w b cs t) (he : Ext w w1) : Blk w1 b cs t := (he.block b h.lt).trans h
theorem Blk.alloc {w : World} {b : Nat} {cs : Array Value} {t : TypeId} (h : Blk w b cs t) (o : Obj) : Blk (w.alloc o) b cs t := h.ext ((Ext.refl w).alloc o)
theorem Blk.drew {w : World} {b : Nat} {cs : Array Value} {t : TypeId} (h : Blk w b cs t) : Blk w.drew b cs t := h
theorem Blk.drewN {w : World} {b : Nat} {cs : Array Value} {t : TypeId} (h : Blk w b cs t) (n : Nat) : Blk (w.drewN n) b cs t := h
theorem Blk.new (w : World) (cs : Array Value) (t : TypeId) : Blk (w.alloc (.cells cs t)) w.heap.size cs t := by
  show (w.heap.push _)[w.heap.size]? = _
  simp
theorem Blk.new' {w : World} {b : Nat} (cs : Array Value) (t : TypeId) (h : b = w.heap.size) : Blk (w.alloc (.cells cs t)) b cs t := h ▸ Blk.new w cs t
theorem Blk.set {w : World} {b : Nat} {cs : Array Value} {t : TypeId} (h : Blk w b cs t) (i : Nat) (v : Value) : Blk (w.setCell ⟨b, i, none⟩ v) b (cs.setIfInBounds i v) t := by
  unfold Blk at *
  simp only [World.setCell, Array.getElem?_modify, h, if_true, Option.map_some]
  rfl
theorem Blk.other {w : World} {b : Nat} {cs : Array Value} {t : TypeId} (h : Blk w b cs t) (a : Addr) (v : Value) (hne : b ≠ a.block) : Blk (w.setCell a v) b cs t :=
  (Below.heap_setCell w a v b hne).trans h

/-- The slice v has the elements xss, each of k cells. -/
def Sl (w : World) (v : Value) (k : Nat) (xss : List (List Value)) : Prop :=
  ∃ a cap, v = .slice a xss.length cap ∧ (xss = [] ∨ ∃ b o, a = some ⟨b, o, none⟩ ∧ b < w.heap.size ∧ ∀ i, i < xss.length → ∀ j, j < k → w.cell? ⟨b, o + i * k + j, none⟩ = (xss.getD i [])[j]?)
theorem Sl.ext {w w1 : World} {v : Value} {k : Nat} {xss : List (List Value)} (h : Sl w v k xss) (he : Ext w w1) : Sl w1 v k xss := by
  obtain ⟨a, cap, rfl, h⟩ := h
  refine ⟨a, cap, rfl, ?_⟩
  rcases h with h | ⟨b, o, rfl, hb, hc⟩
  · exact .inl h
  · exact .inr ⟨b, o, rfl, Nat.lt_of_lt_of_le hb he.size, fun i hi j hj => (he.cells.1 b _ hb).trans (hc i hi j hj)⟩

end Go.Proofs.YthdjinicmnhgpaaGreat

/-
Rows that a call makes itself, and slices as lists of elements.
-/
namespace Go.Proofs.YthdjinicmnhgpaaGreat
open Go.RowKit

theorem cells_new (w : World) (cs : Array Value) (t : TypeId) : ∀ j u, cs.toList[j]? = some u → (w.alloc (.cells cs t)).cell? ((⟨w.heap.size, 0, none⟩ : Addr).add j) = some u := by
  intro j u h
  have e : (⟨w.heap.size, 0, none⟩ : Addr).add j = ⟨w.heap.size, j, none⟩ := by
    unfold Addr.add; split
    · rename_i h0; subst h0; rfl
    · simp
  rw [e, (Blk.new w cs t).cell j]
  simpa using h

theorem Ext.grown {w w1 w2 : World} (h : Ext w w1) {e : TypeId} {size n : Nat} {v : Value} {xs : List Value} (ho : w1.ownsRow w.heap.size e size v n xs) (hg : w1.grownBy w2 v.ownBlock) : Ext w w2 :=
  Below.grown h hg h.size fun k hk => (ho.lt k hk).1

theorem owns_ext {w w1 : World} {base : Nat} {e : TypeId} {size n : Nat} {v : Value} {xs : List Value} (h : w.ownsRow base e size v n xs) (he : Ext w w1) : w1.ownsRow base e size v n xs := by
  obtain ⟨h1, h2⟩ := h
  refine ⟨h1, ?_⟩
  rcases h2 with h2 | ⟨g, cap, cur, hv, hg, hh, hr⟩
  · exact .inl h2
  · exact .inr ⟨g, cap, cur, hv, hg, Blk.ext (b := g) hh he, hr⟩

theorem flat_get {α : Type} (k : Nat) : ∀ (xss : List (List α)), (∀ xs ∈ xss, xs.length = k) → ∀ i, i < xss.length → ∀ j, j < k → xss.flatten[i * k + j]? = (xss.getD i [])[j]? := by
  intro xss
  induction xss with
  | nil => intro _ i hi; simp at hi
  | cons x xss ih =>
    intro h i hi j hj
    have hx : x.length = k := h x (by simp)
    rw [List.flatten_cons]
    cases i with
    | zero => rw [List.getElem?_append_left (by omega)]; simp
    | succ i =>
      have e : (i + 1) * k + j = x.length + (i * k + j) := by rw [hx, Nat.succ_mul]; omega
      rw [e, List.getElem?_append_right (by omega), Nat.add_sub_cancel_left]
      have := ih (fun xs hxs => h xs (by simp [hxs])) i (by simpa using hi) j hj
      rw [this]; simp

theorem flat_length {α : Type} (k : Nat) (xss : List (List α)) (h : ∀ xs ∈ xss, xs.length = k) : xss.flatten.length = xss.length * k := by
  induction xss with
  | nil => simp
  | cons x xss ih =>
    have := ih (fun xs hxs => h xs (by simp [hxs]))
    have hx : x.length = k := h x (by simp)
    simp only [List.flatten_cons, List.length_append, List.length_cons, this, hx, Nat.succ_mul]; omega

/-- What a call owns reads as a slice. -/
theorem Sl.of_owns {w : World} {base : Nat} {e : TypeId} {k : Nat} {v : Value} {xss : List (List Value)} (ho : w.ownsRow base e k v xss.length xss.flatten) (hk : ∀ xs ∈ xss, xs.length = k) : Sl w v k xss := by
  obtain ⟨h1, h2⟩ := ho
  rcases h2 with ⟨rfl, h0⟩ | ⟨g, cap, cur, rfl, hg, hh, hn, hcap, hsz, htake⟩
  · exact ⟨none, 0, by rw [h0], .inl (List.length_eq_zero_iff.1 h0)⟩
  · refine ⟨_, cap, rfl, .inr ⟨g, 0, rfl, Blk.lt (b := g) hh, ?_⟩⟩
    intro i hi j hj
    have hb : Blk w g cur e := hh
    rw [hb.cell, ← flat_get k xss hk i hi j hj, ← htake, List.getElem?_take]
    have hlt : i * k + j < xss.length * k := by
      have : (i + 1) * k ≤ xss.length * k := Nat.mul_le_mul_right k (by omega)
      rw [Nat.succ_mul] at this; omega
    rw [if_pos hlt]
    simp

/-- A literal's block reads as a slice. -/
theorem Sl.new (w : World) (cs : Array Value) (t : TypeId) (k n c : Nat) (xss : List (List Value)) (h1 : cs.toList = xss.flatten) (h2 : ∀ xs ∈ xss, xs.length = k) (h3 : n = xss.length) :
    Sl (w.alloc (.cells cs t)) (.slice (some ⟨w.heap.size, 0, none⟩) n c) k xss := by
  subst h3
  refine ⟨_, c, rfl, .inr ⟨w.heap.size, 0, rfl, (Blk.new w cs t).lt, ?_⟩⟩
  intro i hi j hj
  rw [(Blk.new w cs t).cell, ← flat_get k xss h2 i hi j hj, ← h1]
  simp

theorem Sl.shape {w : World} {v : Value} {k n : Nat} {xss : List (List Value)} (h : Sl w v k xss) (hn : xss.length = n) :
    ∃ a cap, v = .slice a n cap ∧ (n = 0 ∨ ∃ b o, a = some ⟨b, o, none⟩ ∧ b < w.heap.size ∧ ∀ i, i < n → ∀ j, j < k → w.cell? ⟨b, o + i * k + j, none⟩ = (xss.getD i [])[j]?) := by
  subst hn
  obtain ⟨a, cap, hv, h⟩ := h
  exact ⟨a, cap, hv, h.imp (fun e => by rw [e]; rfl) id⟩

/-- A slice of one element. -/
theorem Sl.one {w : World} {v : Value} {k : Nat} {xs : List Value} (h : Sl w v k [xs]) : ∃ b q cap, v = .slice (some ⟨b, q, none⟩) 1 cap ∧ b < w.heap.size ∧ ∀ j, j < k → w.cell? ⟨b, q + j, none⟩ = xs[j]? := by
  obtain ⟨a, cap, rfl, h⟩ := h
  rcases h with h | ⟨b, q, rfl, hb, hc⟩
  · cases h
  · refine ⟨b, q, cap, rfl, hb, fun j hj => ?_⟩
    have := hc 0 (by simp) j hj
    simpa using this

end Go.Proofs.YthdjinicmnhgpaaGreat

/-
Relations in plain words: names, columns, the first of several errors, what is wrong with a relation; slices read at an index.
-/
namespace Go.Proofs.YthdjinicmnhgpaaGreat
open Go.RowKit

/-- A slice's element, at an index. -/
theorem Sl.at_ {w : World} {a : Option Addr} {n cap k : Nat} {xss : List (List Value)} (h : Sl w (.slice a n cap) k xss) {i : Nat} (hi : i < xss.length) :
    ∃ b o, a = some ⟨b, o, none⟩ ∧ b < w.heap.size ∧ ∀ j, j < k → w.cell? ⟨b, o + i * k + j, none⟩ = (xss.getD i [])[j]? := by
  obtain ⟨a', cap', hv, hs⟩ := h
  simp only [Value.slice.injEq] at hv
  obtain ⟨rfl, -, -⟩ := hv
  rcases hs with rfl | ⟨b, o, rfl, hb, hc⟩
  · simp at hi
  · exact ⟨b, o, rfl, hb, hc i hi⟩
theorem getD_map {α β : Type} (f : α → List β) (l : List α) {i : Nat} (hi : i < l.length) : (l.map f).getD i [] = f l[i] := by simp [hi]

structure Col where
  nm : ByteArray
  ty : Int
  key : Bool
def Col.cells (c : Col) : List Value := [.string c.nm, .int .u8 c.ty, .bool c.key]
theorem Col.at_ {w wr : World} {b o : Nat} {l : List Col} {k : Nat} (hk : k < l.length) (hc : ∀ j, j < 3 → w.cell? ⟨b, o + k * 3 + j, none⟩ = ((l.map Col.cells).getD k [])[j]?) (hb : b < w.heap.size) (hE : Ext w wr) :
    wr.cell? ⟨b, o + k * 3, none⟩ = some (.string l[k].nm) ∧ wr.cell? ⟨b, o + k * 3 + 1, none⟩ = some (.int .u8 l[k].ty) ∧ wr.cell? ⟨b, o + k * 3 + 2, none⟩ = some (.bool l[k].key) := by
  rw [getD_map Col.cells l hk] at hc
  have c := hE.cells.1 b
  exact ⟨(c _ hb).trans (hc 0 (by omega)), (c _ hb).trans (hc 1 (by omega)), (c _ hb).trans (hc 2 (by omega))⟩

/-- A relation. -/
structure Rl where
  oid : Int
  ver : Int
  nm : ByteArray
  id : Int
  cols : List Col
def Rl.arr (r : Rl) (v : Value) : Array Value := #[.int .u32 r.oid, .int .u32 r.ver, .string r.nm, .int .u8 r.id, v]

/-- The first error of n. -/
def firstE (f : Nat → Int) : Nat → Int
  | 0 => 0
  | n + 1 => if firstE f n ≠ 0 then firstE f n else f n
theorem firstE_zero {f : Nat → Int} {n : Nat} (h : ∀ i, i < n → f i = 0) : firstE f n = 0 := by
  induction n with
  | zero => rfl
  | succ n ih =>
    have h1 := ih (fun i hi => h i (by omega))
    unfold firstE
    rw [h1, if_neg (by simp)]
    exact h n (by omega)
theorem firstE_all {f : Nat → Int} {n : Nat} (h : firstE f n = 0) : ∀ i, i < n → f i = 0 := by
  induction n with
  | zero => intro i hi; omega
  | succ n ih =>
    unfold firstE at h
    by_cases h1 : firstE f n = 0
    · rw [if_neg (by simpa using h1)] at h
      intro i hi
      by_cases e : i = n
      · subst e; exact h
      · exact ih h1 i (by omega)
    · rw [if_pos h1] at h; exact absurd h h1
theorem firstE_at {f : Nat → Int} {n k : Nat} (h : ∀ i, i < k → f i = 0) (hk : k < n) (h0 : f k ≠ 0) : firstE f n = f k := by
  induction n with
  | zero => omega
  | succ n ih =>
    unfold firstE
    by_cases e : k = n
    · subst e
      rw [if_neg (by rw [firstE_zero h]; simp)]
    · have := ih (by omega)
      rw [if_pos (by rw [this]; exact h0), this]
theorem firstE_congr {f g : Nat → Int} {n : Nat} (h : ∀ i, i < n → f i = g i) : firstE f n = firstE g n := by
  induction n with
  | zero => rfl
  | succ n ih =>
    unfold firstE
    rw [ih (fun i hi => h i (by omega)), h n (by omega)]
theorem firstE_get {f : Nat → Int} {n : Nat} (h : firstE f n ≠ 0) : ∃ k, k < n ∧ (∀ i, i < k → f i = 0) ∧ firstE f n = f k := by
  induction n with
  | zero => exact absurd rfl h
  | succ n ih =>
    unfold firstE at h ⊢
    by_cases h1 : firstE f n = 0
    · rw [if_neg (by simpa using h1)]
      exact ⟨n, by omega, firstE_all h1, rfl⟩
    · rw [if_pos h1]
      obtain ⟨k, hk, h2, h3⟩ := ih h1
      exact ⟨k, by omega, h2, h3⟩

/-- A byte of a text. -/
def chr (s : ByteArray) (i : Nat) : Int := if h : i < s.size then (s[i].toNat : Int) else 0
theorem chr_lt {s : ByteArray} {i : Nat} (h : i < s.size) : chr s i = (s[i].toNat : Int) := by unfold chr; rw [dif_pos h]
def nameAt (s : ByteArray) (i : Nat) : Bool := decide ((97 ≤ chr s i ∧ chr s i ≤ 122) ∨ (0 < i ∧ ((48 ≤ chr s i ∧ chr s i ≤ 57) ∨ chr s i = 95)))
/-- Is it a name? -/
def namedB (s : ByteArray) : Bool := decide (1 ≤ s.size ∧ s.size ≤ 31) && (List.range s.size).all (nameAt s)
theorem named_no {s : ByteArray} {k : Nat} (hk : k < s.size) (h : nameAt s k = false) : namedB s = false := by
  unfold namedB
  rw [Bool.and_eq_false_iff]
  right
  rw [List.all_eq_false]
  exact ⟨k, List.mem_range.2 hk, by simp [h]⟩
theorem named_yes {s : ByteArray} (h : ∀ j, j < s.size → nameAt s j = true) : namedB s = decide (1 ≤ s.size ∧ s.size ≤ 31) := by
  unfold namedB
  have : (List.range s.size).all (nameAt s) = true := List.all_eq_true.2 fun x hx => h x (List.mem_range.1 hx)
  rw [this, Bool.and_true]
theorem named_len {s : ByteArray} (h : ¬ (1 ≤ s.size ∧ s.size ≤ 31)) : namedB s = false := by
  unfold namedB; rw [decide_eq_false h]; rfl
theorem name_cases {s : ByteArray} {k : Nat} (h : k < s.size) :
    (nameAt s k = true ∧ ((97 ≤ (s[k].toNat : Int) ∧ (s[k].toNat : Int) ≤ 122) ∨ (0 < k ∧ 48 ≤ (s[k].toNat : Int) ∧ (s[k].toNat : Int) ≤ 57) ∨ (0 < k ∧ (s[k].toNat : Int) = 95))) ∨
    (nameAt s k = false ∧ ((k = 0 ∧ (s[k].toNat : Int) < 97) ∨ (k = 0 ∧ 122 < (s[k].toNat : Int)) ∨ (0 < k ∧ (s[k].toNat : Int) < 48) ∨ (0 < k ∧ 57 < (s[k].toNat : Int) ∧ (s[k].toNat : Int) < 95) ∨ (0 < k ∧ 95 < (s[k].toNat : Int) ∧ (s[k].toNat : Int) < 97) ∨ (0 < k ∧ 122 < (s[k].toNat : Int)))) := by
  unfold nameAt
  rw [decide_eq_true_iff, decide_eq_false_iff_not, chr_lt h]
  omega

/-- What is wrong with a column, behind some others. -/
def colE (c : Col) (ahead : List Col) : Int := if namedB c.nm = false then 3 else if ahead.any (fun o => decide (o.nm = c.nm)) = true then 9 else if c.ty < 1 ∨ 6 < c.ty then 11 else 0
def colAt (cols : List Col) (i : Nat) : Int := if h : i < cols.length then colE cols[i] (cols.take i) else 0
theorem colAt_lt {cols : List Col} {i : Nat} (h : i < cols.length) : colAt cols i = colE cols[i] (cols.take i) := by unfold colAt; rw [dif_pos h]
/-- What is wrong with a relation. -/
def Rl.right (r : Rl) : Int :=
  if r.oid = 0 ∨ r.ver = 0 then 4 else if namedB r.nm = false then 3 else if 2 < r.id then 7 else if r.cols.length < 1 ∨ 16 < r.cols.length then 17
  else if firstE (colAt r.cols) r.cols.length ≠ 0 then firstE (colAt r.cols) r.cols.length
  else if r.id = 1 ∧ r.cols.any Col.key = false then 13 else 0

structure Rl.wf (r : Rl) : Prop where
  nm : r.nm.size ≤ 9223372036854775807
  cols : ∀ c ∈ r.cols, c.nm.size ≤ 9223372036854775807

end Go.Proofs.YthdjinicmnhgpaaGreat

/-
Catalogs in plain words: relations in order of their refs.
-/
namespace Go.Proofs.YthdjinicmnhgpaaGreat
open Go.RowKit

/-- Is one ref ahead of another one? -/
def aheadP (o1 v1 o2 v2 : Int) : Prop := o1 < o2 ∨ (o1 = o2 ∧ v1 < v2)
instance (o1 v1 o2 v2 : Int) : Decidable (aheadP o1 v1 o2 v2) := by unfold aheadP; infer_instance
def aheadB (o1 v1 o2 v2 : Int) : Bool := decide (aheadP o1 v1 o2 v2)
def cmpI (a b : Int) : Int := if a < b then -1 else if b < a then 1 else 0
/-- What Compare answers. -/
def cmpR (o1 v1 o2 v2 : Int) : Int := if cmpI o1 o2 ≠ 0 then cmpI o1 o2 else cmpI v1 v2
theorem cmpR_neg {o1 v1 o2 v2 : Int} : cmpR o1 v1 o2 v2 < 0 ↔ aheadP o1 v1 o2 v2 := by
  unfold cmpR cmpI aheadP
  (repeat' split) <;> omega
theorem cmpR_zero {o1 v1 o2 v2 : Int} : cmpR o1 v1 o2 v2 = 0 ↔ o1 = o2 ∧ v1 = v2 := by
  unfold cmpR cmpI
  (repeat' split) <;> omega
theorem cmpR_cases (o1 v1 o2 v2 : Int) : cmpR o1 v1 o2 v2 = -1 ∨ cmpR o1 v1 o2 v2 = 0 ∨ cmpR o1 v1 o2 v2 = 1 := by
  unfold cmpR cmpI
  (repeat' split) <;> omega
theorem ahead_trans {a b c d e f : Int} (h : aheadP a b c d) (k : aheadP c d e f) : aheadP a b e f := by unfold aheadP at *; omega
theorem ahead_irr {a b : Int} : ¬ aheadP a b a b := by unfold aheadP; omega
theorem ahead_tri (a b c d : Int) : aheadP a b c d ∨ (a = c ∧ b = d) ∨ aheadP c d a b := by unfold aheadP; omega

def Rl.lt (a b : Rl) : Prop := aheadP a.oid a.ver b.oid b.ver
/-- In order of their refs, each ref once. -/
def Srt (l : List Rl) : Prop := l.Pairwise Rl.lt
theorem Srt.at_ {l : List Rl} (h : Srt l) {i j : Nat} (hi : i < l.length) (hj : j < l.length) (hij : i < j) : l[i].lt l[j] := List.pairwise_iff_getElem.1 h i j hi hj hij
theorem Srt.take {l : List Rl} (h : Srt l) (k : Nat) : Srt (l.take k) := List.Pairwise.sublist (List.take_sublist k l) h
theorem Srt.nil : Srt [] := List.Pairwise.nil

/-- How many stand ahead of a ref: the first place that does not. -/
def posR (o v : Int) : List Rl → Nat
  | [] => 0
  | r :: l => if aheadP r.oid r.ver o v then posR o v l + 1 else 0
theorem posR_le (o v : Int) : ∀ l, posR o v l ≤ l.length
  | [] => Nat.le_refl _
  | r :: l => by
    have := posR_le o v l
    unfold posR
    split
    · rw [List.length_cons]; omega
    · exact Nat.zero_le _
theorem posR_lt (o v : Int) : ∀ (l : List Rl) (i : Nat) (h : i < l.length), i < posR o v l → aheadP l[i].oid l[i].ver o v
  | [], i, h, _ => absurd h (Nat.not_lt_zero _)
  | r :: l, i, h, hi => by
    unfold posR at hi
    split at hi
    · rename_i hr
      cases i with
      | zero => exact hr
      | succ i => exact posR_lt o v l i (by simpa using h) (by omega)
    · omega
theorem posR_at (o v : Int) : ∀ (l : List Rl) (h : posR o v l < l.length), ¬ aheadP (l[posR o v l]'h).oid (l[posR o v l]'h).ver o v
  | [], h => absurd h (Nat.not_lt_zero _)
  | r :: l, h => by
    by_cases hr : aheadP r.oid r.ver o v
    · have e : posR o v (r :: l) = posR o v l + 1 := if_pos hr
      have h2 : posR o v l < l.length := by rw [e] at h; simpa using h
      have := posR_at o v l h2
      simp only [e, List.getElem_cons_succ]
      exact this
    · have e : posR o v (r :: l) = 0 := if_neg hr
      simp only [e, List.getElem_cons_zero]
      exact hr
/-- Of relations in order: the place at which what is ahead ends. -/
theorem posR_of {o v : Int} {l : List Rl} {i : Nat} (hi : i ≤ l.length) (h1 : ∀ j (h : j < l.length), j < i → aheadP l[j].oid l[j].ver o v) (h2 : ∀ h : i < l.length, ¬ aheadP l[i].oid l[i].ver o v) : posR o v l = i := by
  have hle := posR_le o v l
  rcases Nat.lt_trichotomy (posR o v l) i with h | h | h
  · exact absurd (h1 _ (by omega) h) (posR_at o v l (by omega))
  · exact h
  · exact absurd (posR_lt o v l i (by omega) h) (h2 (by omega))
theorem Srt.not_ahead {l : List Rl} (h : Srt l) {o v : Int} {i : Nat} (hi : i < l.length) (hp : posR o v l ≤ i) : ¬ aheadP l[i].oid l[i].ver o v := by
  rcases Nat.eq_or_lt_of_le hp with e | hlt
  · subst e; exact posR_at o v l hi
  · intro hq
    have h1 := h.at_ (i := posR o v l) (by omega) hi hlt
    exact posR_at o v l (by omega) (ahead_trans h1 hq)

/-- Is it there, by a ref? -/
def isR (o v : Int) (r : Rl) : Bool := decide (r.oid = o ∧ r.ver = v)
def hasR (o v : Int) (l : List Rl) : Bool := l.any (isR o v)
def getR (o v : Int) (l : List Rl) : Option Rl := l.find? (isR o v)
theorem hasR_at {o v : Int} {l : List Rl} {i : Nat} (hi : i < l.length) (h : l[i].oid = o ∧ l[i].ver = v) : hasR o v l = true := List.any_eq_true.2 ⟨l[i], List.getElem_mem hi, by unfold isR; simpa using h⟩
theorem hasR_no {o v : Int} {l : List Rl} (h : ∀ i (hi : i < l.length), ¬ (l[i].oid = o ∧ l[i].ver = v)) : hasR o v l = false := by
  unfold hasR
  rw [List.any_eq_false]
  intro x hx
  obtain ⟨i, hi, rfl⟩ := List.getElem_of_mem hx
  unfold isR
  simpa using h i hi
/-- In order, it is there just if it stands at its place. -/
theorem Srt.has {l : List Rl} (h : Srt l) (o v : Int) : hasR o v l = decide (∃ hi : posR o v l < l.length, (l[posR o v l]'hi).oid = o ∧ (l[posR o v l]'hi).ver = v) := by
  by_cases hp : ∃ hi : posR o v l < l.length, (l[posR o v l]'hi).oid = o ∧ (l[posR o v l]'hi).ver = v
  · obtain ⟨hi, hq⟩ := hp
    rw [hasR_at hi hq]
    exact (decide_eq_true ⟨hi, hq⟩).symm
  · rw [hasR_no]
    · exact (decide_eq_false hp).symm
    · rintro i hi ⟨h1, h2⟩
      have hge : posR o v l ≤ i := by
        rcases Nat.lt_or_ge i (posR o v l) with hlt | hge
        · have := posR_lt o v l i hi hlt
          rw [h1, h2] at this
          exact absurd this ahead_irr
        · exact hge
      rcases Nat.eq_or_lt_of_le hge with e | hlt
      · subst e; exact hp ⟨hi, h1, h2⟩
      · have h3 := h.at_ (i := posR o v l) (by omega) hi hlt
        unfold Rl.lt at h3
        rw [h1, h2] at h3
        exact posR_at o v l (by omega) h3
theorem getR_some {o v : Int} {l : List Rl} {r : Rl} (h : getR o v l = some r) : r ∈ l ∧ r.oid = o ∧ r.ver = v := by
  unfold getR at h
  have h1 := List.find?_some h
  unfold isR at h1
  exact ⟨List.mem_of_find?_eq_some h, by simpa using h1⟩
theorem getR_none {o v : Int} {l : List Rl} : getR o v l = none ↔ hasR o v l = false := by
  unfold getR hasR
  rw [List.find?_eq_none, List.any_eq_false]
theorem Srt.uniq {l : List Rl} (h : Srt l) {a b : Rl} (ha : a ∈ l) (hb : b ∈ l) (h1 : a.oid = b.oid) (h2 : a.ver = b.ver) : a = b := by
  obtain ⟨i, hi, rfl⟩ := List.getElem_of_mem ha
  obtain ⟨j, hj, rfl⟩ := List.getElem_of_mem hb
  rcases Nat.lt_trichotomy i j with hij | rfl | hij
  · have := h.at_ hi hj hij
    unfold Rl.lt at this
    rw [h1, h2] at this
    exact absurd this ahead_irr
  · rfl
  · have := h.at_ hj hi hij
    unfold Rl.lt at this
    rw [h1, h2] at this
    exact absurd this ahead_irr
theorem Srt.get_at {l : List Rl} (h : Srt l) {o v : Int} {i : Nat} (hi : i < l.length) (hq : l[i].oid = o ∧ l[i].ver = v) : getR o v l = some l[i] := by
  cases hg : getR o v l with
  | none => rw [getR_none, hasR_at hi hq] at hg; cases hg
  | some r =>
    obtain ⟨h1, h2, h3⟩ := getR_some hg
    rw [h.uniq h1 (List.getElem_mem hi) (by rw [h2, hq.1]) (by rw [h3, hq.2])]

/-- One more, at its place. -/
def insR (l : List Rl) (r : Rl) : List Rl := l.take (posR r.oid r.ver l) ++ r :: l.drop (posR r.oid r.ver l)
theorem insR_len (l : List Rl) (r : Rl) : (insR l r).length = l.length + 1 := by
  have := posR_le r.oid r.ver l
  unfold insR
  rw [List.length_append, List.length_take, List.length_cons, List.length_drop]; omega
theorem insR_mem {l : List Rl} {r x : Rl} : x ∈ insR l r ↔ x = r ∨ x ∈ l := by
  unfold insR
  rw [List.mem_append, List.mem_cons]
  have h : x ∈ l ↔ x ∈ l.take (posR r.oid r.ver l) ∨ x ∈ l.drop (posR r.oid r.ver l) := by rw [← List.mem_append, List.take_append_drop]
  rw [h]
  constructor
  · rintro (h | h | h)
    · exact .inr (.inl h)
    · exact .inl h
    · exact .inr (.inr h)
  · rintro (h | h | h)
    · exact .inr (.inl h)
    · exact .inl h
    · exact .inr (.inr h)
theorem Srt.ins {l : List Rl} (h : Srt l) {r : Rl} (hn : hasR r.oid r.ver l = false) : Srt (insR l r) := by
  have hx : ∀ x ∈ l, ¬ (x.oid = r.oid ∧ x.ver = r.ver) := fun x hx hq => by
    obtain ⟨i, hi, rfl⟩ := List.getElem_of_mem hx
    rw [hasR_at hi hq] at hn; cases hn
  unfold insR Srt
  rw [List.pairwise_append]
  refine ⟨h.take _, ?_, ?_⟩
  · rw [List.pairwise_cons]
    refine ⟨fun x hxd => ?_, List.Pairwise.sublist (List.drop_sublist _ _) h⟩
    obtain ⟨i, hi, rfl⟩ := List.getElem_of_mem hxd
    rw [List.length_drop] at hi
    rw [List.getElem_drop]
    have h1 := h.not_ahead (o := r.oid) (v := r.ver) (i := posR r.oid r.ver l + i) (by omega) (by omega)
    rcases ahead_tri r.oid r.ver (l[posR r.oid r.ver l + i]'(by omega)).oid (l[posR r.oid r.ver l + i]'(by omega)).ver with q | q | q
    · exact q
    · exact absurd ⟨q.1.symm, q.2.symm⟩ (hx _ (List.getElem_mem _))
    · exact absurd q h1
  · intro x hxt y hyd
    have hxr : x.lt r := by
      obtain ⟨i, hi, rfl⟩ := List.getElem_of_mem hxt
      rw [List.length_take] at hi
      rw [List.getElem_take]
      exact posR_lt _ _ l i (by omega) (by omega)
    rcases List.mem_cons.1 hyd with rfl | hy
    · exact hxr
    · have hxl := List.mem_of_mem_take hxt
      obtain ⟨i, hi, rfl⟩ := List.getElem_of_mem hxt
      obtain ⟨j, hj, rfl⟩ := List.getElem_of_mem hy
      rw [List.length_take] at hi
      rw [List.length_drop] at hj
      rw [List.getElem_take, List.getElem_drop]
      exact h.at_ (by omega) (by omega) (by omega)

/-- What adding one answers; what there is then. -/
def addE (l : List Rl) (r : Rl) : Int := if r.right ≠ 0 then r.right else if hasR r.oid r.ver l = true then 9 else if 64 ≤ l.length then 8 else 0
def addL (l : List Rl) (r : Rl) : List Rl := if addE l r = 0 then insR l r else l
theorem addE_zero {l : List Rl} {r : Rl} (h : addE l r = 0) : r.right = 0 ∧ hasR r.oid r.ver l = false ∧ l.length < 64 := by
  unfold addE at h
  by_cases h0 : r.right = 0
  · rw [if_neg (by simpa using h0)] at h
    cases hb : hasR r.oid r.ver l with
    | true => rw [hb, if_pos rfl] at h; cases h
    | false =>
      rw [hb, if_neg (by simp)] at h
      split at h
      · cases h
      · exact ⟨h0, rfl, by omega⟩
  · rw [if_pos h0] at h; exact absurd h h0
/-- A catalog: in order, all right, at most 64. -/
structure CatOk (l : List Rl) : Prop where
  srt : Srt l
  right : ∀ r ∈ l, r.right = 0
  n64 : l.length ≤ 64
theorem CatOk.nil : CatOk [] := ⟨Srt.nil, (fun r h => by cases h), Nat.zero_le _⟩
theorem CatOk.add {l : List Rl} (h : CatOk l) (r : Rl) : CatOk (addL l r) := by
  unfold addL
  split
  · rename_i h0
    obtain ⟨h1, h2, h3⟩ := addE_zero h0
    refine ⟨h.srt.ins h2, fun x hx => ?_, by rw [insR_len]; omega⟩
    rcases insR_mem.1 hx with rfl | hx
    · exact h1
    · exact h.right x hx
  · exact h
theorem addL_mem {l : List Rl} {r x : Rl} (h : x ∈ addL l r) : x = r ∨ x ∈ l := by
  unfold addL at h
  split at h
  · exact insR_mem.1 h
  · exact .inr h

/-- A catalog of the first k relations; what was wrong first. -/
def ofUp (l : List Rl) : Nat → List Rl
  | 0 => []
  | k + 1 => if h : k < l.length then addL (ofUp l k) l[k] else ofUp l k
theorem ofUp_succ {l : List Rl} {k : Nat} (h : k < l.length) : ofUp l (k + 1) = addL (ofUp l k) l[k] := by
  conv => lhs; unfold ofUp
  rw [dif_pos h]
theorem ofUp_ok (l : List Rl) : ∀ k, CatOk (ofUp l k)
  | 0 => CatOk.nil
  | k + 1 => by
    unfold ofUp
    split
    · exact (ofUp_ok l k).add _
    · exact ofUp_ok l k
def ofAt (l : List Rl) (k : Nat) : Int := if h : k < l.length then addE (ofUp l k) l[k] else 0
/-- The place of the first that is wrong, or how many there are. -/
def ofN (l : List Rl) : Nat → Nat
  | 0 => 0
  | k + 1 => if ofN l k < k then ofN l k else if ofAt l k ≠ 0 then k else k + 1

/-- In order, of the same members: the same. -/
theorem Srt.ext {a b : List Rl} (ha : Srt a) (hb : Srt b) (h : ∀ x, x ∈ a ↔ x ∈ b) : a = b := by
  induction a generalizing b with
  | nil =>
    cases b with
    | nil => rfl
    | cons y b => exact absurd ((h y).2 (by simp)) (by simp)
  | cons x a ih =>
    cases b with
    | nil => exact absurd ((h x).1 (by simp)) (by simp)
    | cons y b =>
      obtain ⟨hx, ha'⟩ := List.pairwise_cons.1 ha
      obtain ⟨hy, hb'⟩ := List.pairwise_cons.1 hb
      have exy : x = y := by
        rcases List.mem_cons.1 ((h x).1 (by simp)) with e | hxb
        · exact e
        · rcases List.mem_cons.1 ((h y).2 (by simp)) with e | hya
          · exact e.symm
          · exact absurd (ahead_trans (hx y hya) (hy x hxb)) ahead_irr
      subst exy
      congr 1
      refine ih ha' hb' fun z => ⟨fun hz => ?_, fun hz => ?_⟩
      · rcases List.mem_cons.1 ((h z).1 (List.mem_cons_of_mem _ hz)) with rfl | h2
        · exact absurd (hx z hz) ahead_irr
        · exact h2
      · rcases List.mem_cons.1 ((h z).2 (List.mem_cons_of_mem _ hz)) with rfl | h2
        · exact absurd (hy z hz) ahead_irr
        · exact h2

end Go.Proofs.YthdjinicmnhgpaaGreat

/-
A region that draws its order and ends in operations that wait for all others: its head is walked in the order of the text, under a condition that holds till the tail begins; the tail is walked as a plain region.
-/
namespace Go.Proofs.YthdjinicmnhgpaaGreat
open Go.RowKit

section
variable {P : Program} {ops : Array Oper} {Q : Exit → Act → World → Prop} {md : Region.Mode} {S : World → Prop}

def wpHd (P : Program) (md : Region.Mode) (ops : Array Oper) (Q : Exit → Act → World → Prop) (S : World → Prop) (n : Nat) : Nat → Array Bool → Act → World → Prop
  | 0, listed, a, w => Region.seqB md ops (ops.size - n) n listed = true ∧ wpList P ops Q (ops.toList.drop n) a w
  | f + 1, listed, a, w => Region.ready md ops listed ≠ [] ∧ ∀ i ∈ Region.ready md ops listed, i < n ∧ wpOp P ops Q i (fun a' w' => S w' ∧ wpHd P md ops Q S n f (listed.setIfInBounds i true) a' w') a w

theorem wpAny_of_hd {n : Nat} : ∀ (f : Nat) (listed : Array Bool) (a : Act) (w : World), wpHd P md ops Q S n f listed a w → wpAny P md ops Q (f + (ops.size - n)) listed a w
  | 0, listed, a, w, h => by
    rw [Nat.zero_add]
    obtain ⟨hB, h⟩ := h
    have hl : (ops.toList.drop n).length = ops.size - n := by simp
    have := wpAny_of_seq (P := P) (md := md) (ops := ops) (Q' := Q) (ops.toList.drop n) n listed a w (fun j => by rw [List.getElem?_drop, Array.getElem?_toList]) (by rw [hl]; exact hB) h
    rw [hl] at this
    exact this
  | f + 1, listed, a, w, h => by
    rw [show f + 1 + (ops.size - n) = (f + (ops.size - n)) + 1 by omega]
    exact ⟨fun h0 => absurd h0 h.1, fun i hi => wpOp_mono (fun a' w' h' => wpAny_of_hd f _ a' w' h'.2) (h.2 i hi).2⟩

theorem wpHd_first {n i : Nat} {oi : Oper} {v : Value} (hi : ops[i]? = some oi) (hsel : ∀ (j : Nat) (o : Oper) cs b, ops[j]? = some o → o.op ≠ .select cs b)
    (hs : Region.sinkB md ops n = true) (hc : Region.chainB md ops n = true) (hn : n < ops.size) (hin : i < n)
    (hQ : ∀ c a w, Q (.panic c) (a.put oi.dst v) w → Q (.panic c) a w) :
    ∀ (f : Nat) (listed : Array Bool) (a : Act) (w : World), HeadInv md ops n listed →
      (∀ j oj, ops[j]? = some oj → j ≠ i → listed.getD j true = false → (∀ e ∈ oj.after, Region.binds md e = true → e.on ≠ i) → oi.apart ops oj = true) →
      i ∈ Region.ready md ops listed → YieldsIf P ops S oi v a → S w →
      wpHd P md ops Q S n f (listed.setIfInBounds i true) (a.put oi.dst v) w → wpHd P md ops Q S n (f + 1) listed a w := by
  intro f
  induction f with
  | zero =>
    intro listed a w inv _ hr hy hS H
    have hun := (mem_ready.1 hr).1
    refine ⟨fun h => (by rw [h] at hr; cases hr), fun j hj => ?_⟩
    have hjn : j < n := by
      rcases Nat.lt_or_ge j n with h | h
      · exact h
      · exact absurd hj (tail_waits hs hc hn inv _ i rfl hin hun j h)
    refine ⟨hjn, ?_⟩
    by_cases hji : j = i
    · subst hji; exact hy.wpOp hi hS ⟨hS, H⟩
    · have := seqB_ready H.1 j (ready_mono hj hji)
      omega
  | succ f ih =>
    intro listed a w inv hfree hr hy hS H
    have hun := (mem_ready.1 hr).1
    refine ⟨fun h => (by rw [h] at hr; cases hr), fun j hj => ?_⟩
    have hjn : j < n := by
      rcases Nat.lt_or_ge j n with h | h
      · exact h
      · exact absurd hj (tail_waits hs hc hn inv _ i rfl hin hun j h)
    refine ⟨hjn, ?_⟩
    by_cases hji : j = i
    · subst hji; exact hy.wpOp hi hS ⟨hS, H⟩
    · have h1 := (H.2 j (ready_mono hj hji)).2
      obtain ⟨hjun, oj, hoj, hall⟩ := mem_ready.1 hj
      have hnot : ∀ e ∈ oj.after, Region.binds md e = true → e.on ≠ i := fun e he hb heq => by
        have h1 := hall e he hb
        rw [heq, getD_both hun] at h1
        cases h1
      have h2 := wpOp_putIf hoj (hfree j oj hoj hji hjun hnot) (fun cs b => hsel i oi cs b hi) (fun cs b => hsel j oj cs b hoj) hQ hy h1
      have hfree' : ∀ k ok, ops[k]? = some ok → k ≠ i → (listed.setIfInBounds j true).getD k true = false →
          (∀ e ∈ ok.after, Region.binds md e = true → e.on ≠ i) → oi.apart ops ok = true := fun k ok hk hki hun hno => by
        refine hfree k ok hk hki ?_ hno
        by_cases hjk : j = k
        · subst hjk; exact hjun
        · rw [getD_set_ne true hjk] at hun; exact hun
      refine wpOp_mono (fun a' w' h3 => ⟨h3.2.1, ih (listed.setIfInBounds j true) a' w' (inv.set hj hjn) hfree' (ready_mono hr (Ne.symm hji)) h3.1 h3.2.1 ?_⟩) h2
      rw [Array.setIfInBounds_comm _ _ hji]
      exact h3.2.2

def headB (md : Region.Mode) (ops : Array Oper) (n : Nat) (listed : Array Bool) : Bool :=
  decide (listed.size = ops.size) && decide (n < ops.size) && Region.noSelect ops && Region.sinkB md ops n && Region.chainB md ops n &&
  ((List.range ops.size).all fun j => !(listed.getD j false) || ((ops[j]?).map (·.after.all fun e => !Region.binds md e || listed.getD e.on false)).getD true) &&
  ((List.range ops.size).all fun t => decide (t < n) || !(listed.getD t true))

theorem headB_spec {n : Nat} {listed : Array Bool} (h : headB md ops n listed = true) :
    n < ops.size ∧ Region.noSelect ops = true ∧ Region.sinkB md ops n = true ∧ Region.chainB md ops n = true ∧ HeadInv md ops n listed := by
  unfold headB at h
  simp only [Bool.and_eq_true, decide_eq_true_eq] at h
  obtain ⟨⟨⟨⟨⟨⟨h1, h2⟩, h3⟩, h4⟩, h5⟩, h6⟩, h7⟩ := h
  refine ⟨h2, h3, h4, h5, h1, ?_, ?_⟩
  · intro j oj hj hl e he hb
    have hjl : j < ops.size := (Array.getElem?_eq_some_iff.1 hj).1
    have := List.all_eq_true.1 h6 j (List.mem_range.2 hjl)
    rw [hl, hj] at this
    simp only [Bool.not_true, Bool.false_or, Option.map_some, Option.getD_some] at this
    have h8 := Array.all_eq_true'.1 this e he
    rw [hb] at h8
    simpa using h8
  · intro t ht htl
    have := List.all_eq_true.1 h7 t (List.mem_range.2 htl)
    rw [decide_eq_false (by omega)] at this
    simpa using this

/-- Number 'i' is taken: it only reads, and in every world that meets S it yields 'v'. -/
theorem wpHd_take {n i : Nat} {oi : Oper} {v : Value} {f : Nat} {listed : Array Bool} {a : Act} {w : World} (hi : ops[i]? = some oi)
    (hB : headB md ops n listed = true) (hf : Region.free md ops listed i = true) (hr : ((Region.ready md ops listed).contains i && decide (i < n)) = true)
    (hQ : ∀ c a w, Q (.panic c) (a.put oi.dst v) w → Q (.panic c) a w) (hy : YieldsIf P ops S oi v a) (hS : S w)
    (h : wpHd P md ops Q S n f (listed.setIfInBounds i true) (a.put oi.dst v) w) : wpHd P md ops Q S n (f + 1) listed a w := by
  obtain ⟨hn, hsel, hs, hc, inv⟩ := headB_spec hB
  simp only [Bool.and_eq_true, decide_eq_true_eq] at hr
  exact wpHd_first hi (Region.noSelect_spec hsel) hs hc hn hr.2 hQ f listed a w inv (Region.free_spec hi hf) (by simpa using hr.1) hy hS h

/-- Number 'i' alone may come up: it is carried out, and S shown anew. -/
theorem wpHd_one {n i : Nat} {o : Oper} {f : Nat} {listed : Array Bool} {a : Act} {w : World} (hi : ops[i]? = some o) (hg : o.guard = none)
    (hr : (decide (Region.ready md ops listed = [i]) && decide (i < n)) = true)
    (h : ∀ K : Act → World → Prop, Hid (∀ a' w', S w' → (S w' → wpHd P md ops Q S n f (listed.setIfInBounds i true) a' w') → K a' w') → o.wp P a w K Q) : wpHd P md ops Q S n (f + 1) listed a w := by
  simp only [Bool.and_eq_true, decide_eq_true_eq] at hr
  refine ⟨by rw [hr.1]; simp, fun j hj => ?_⟩
  rw [hr.1] at hj
  have hji : j = i := by simpa using hj
  subst hji
  refine ⟨hr.2, ?_⟩
  unfold wpOp
  simp only [hi]
  rw [if_pos (by simp [Region.wanted, hg])]
  exact .inl (h _ (fun a' w' hs hk => ⟨hs, hk hs⟩))

/-- The head is done: the tail, as a plain region. -/
theorem wpHd_tail {n : Nat} {listed : Array Bool} {a : Act} {w : World} (hB : Region.seqB md ops (ops.size - n) n listed = true) (h : wpList P ops Q (ops.toList.drop n) a w) : wpHd P md ops Q S n 0 listed a w := ⟨hB, h⟩

/-- The beginning. -/
theorem wp_region_head (n : Nat) (S : World → Prop) {id : Nat} {a : Act} {w : World} (hm : P.follows .mixedOrders = true) (hn : n < ops.size)
    (h : wpHd P .any ops Q S n n (Array.replicate ops.size false) a w.drew) : (Code.region id ops true).wp P Q a w := by
  have h2 := wpAny_of_hd n _ _ _ h
  rw [show n + (ops.size - n) = ops.size by omega] at h2
  exact wp_region_any hm h2
end

end Go.Proofs.YthdjinicmnhgpaaGreat

/-
The laws' Own of a relation.
-/
namespace Go.Proofs.YthdjinicmnhgpaaGreat
open Go.RowKit

theorem Blk.grown {w w1 : World} {row : Option Nat} {g : Nat} {cs : Array Value} {t : TypeId} (h : Blk w g cs t) (hg : w.grownBy w1 row) (hne : row ≠ some g) : Blk w1 g cs t :=
  (hg.block g h.lt (fun e => hne e.symm)).trans h
theorem owns_set {w : World} {base : Nat} {e : TypeId} {size n : Nat} {v : Value} {xs : List Value} (h : w.ownsRow base e size v n xs) {p : Addr} (hp : p.block < base) (u : Value) : (w.setCell p u).ownsRow base e size v n xs := by
  obtain ⟨h1, h2⟩ := h
  refine ⟨h1, ?_⟩
  rcases h2 with h2 | ⟨g, cap, cur, hv, hg, hh, hr⟩
  · exact .inl h2
  · exact .inr ⟨g, cap, cur, hv, hg, Blk.other (b := g) hh p u (by omega), hr⟩
theorem owns_ne {w : World} {base g : Nat} {e : TypeId} {size n : Nat} {v : Value} {xs : List Value} (h : w.ownsRow base e size v n xs) (hg : g < base) : v.ownBlock ≠ some g := fun he => by
  have := (h.lt _ he).1; omega

theorem Tryz.infoCol : (Tryz.prog.info? 92).map (fun i => (i.zero, i.size, i.bytes)) = some (some (.agg #[.string ByteArray.empty, .int .u8 0, .bool false]), 3, 24) := by kernel_rfl

theorem flat_snoc {α β : Type} {f : α → List β} {l : List α} {k : Nat} (h : k < l.length) : ((l.map f).take (k + 1)).flatten = ((l.map f).take k).flatten ++ f l[k] := by
  rw [List.take_succ_eq_append_getElem (by simpa using h), List.flatten_append]; simp
theorem owns_cap {w : World} {base : Nat} {e : TypeId} {size n m c : Nat} {a : Option Addr} {xs : List Value} (h : w.ownsRow base e size (.slice a m c) n xs) : m ≤ c := by
  rcases h.2 with ⟨h1, h0⟩ | ⟨g, cap, cur, hv, _, _, hn, _⟩
  · simp at h1; omega
  · simp at hv; omega
theorem owns_shape {w : World} {base : Nat} {e : TypeId} {size n : Nat} {v : Value} {xs : List Value} (h : w.ownsRow base e size v n xs) : ∃ a cap, v = .slice a n cap := by
  rcases h.2 with ⟨rfl, h0⟩ | ⟨g, cap, cur, hv, _⟩
  · exact ⟨none, 0, by rw [h0]⟩
  · exact ⟨_, cap, hv⟩

set_option maxRecDepth 100000 in set_option maxHeartbeats 1600000 in
theorem own8_any (oid ver : Int) (nm : ByteArray) (id : Int) (cols : List Col) (a : Option Addr) (cap : Nat) (w : World) (hl : Sl w (.slice a cols.length cap) 3 (cols.map Col.cells)) (hlen : cols.length ≤ 1000) :
    Calls Tryz.prog 21 #[.agg #[.int .u32 oid, .int .u32 ver, .string nm, .int .u8 id, .slice a cols.length cap]] w fun e w' => ∃ a' cap', e = .returned (.agg #[.int .u32 oid, .int .u32 ver, .string nm, .int .u8 id, .slice a' cols.length cap']) ∧ cols.length ≤ cap' ∧ Sl w' (.slice a' cols.length cap') 3 (cols.map Col.cells) ∧ Ext w w' := by
  have HL := Hid.mk' hl
  clear hl
  obtain ⟨i0, hi, hz0, hz1, hz2⟩ := info_parts Tryz.infoCol
  go_enter Tryz.func21, Tryz.ntmps21
  go_wp2
  go_loopw [4] (fun i wr => ∃ (k : Nat) (v : Value), k ≤ cols.length ∧ i = .int .i64 k ∧ Hid (wr.ownsRow (w.heap.size + 3) 92 3 v k ((cols.map Col.cells).take k).flatten) ∧ Blk wr w.heap.size #[.int .u32 oid, .int .u32 ver, .string nm, .int .u8 id, .slice a cols.length cap] 62 ∧ Blk wr (w.heap.size + 1) #[.int .u32 0, .int .u32 0, .string ⟨#[]⟩, .int .u8 0, .slice none 0 0] 70 ∧ Blk wr (w.heap.size + 1 + 1) #[.int .u32 oid, .int .u32 ver, .string nm, .int .u8 id, v] 70 ∧ Hid (Ext w wr)) (fun i _ => cols.length - (intOf i).toNat)
  case atStart => exact ⟨0, .slice none 0 0, Nat.zero_le _, rfl, World.ownsRow_nil _ _ _ _, ((Blk.new _ _ _).alloc _).alloc _, (Blk.new' _ _ (by simp)).alloc _, Blk.new' _ _ (by simp), Hid.mk' (by (repeat (with_reducible (first | exact Ext.refl _ | assumption | exact held_left (by assumption) | apply Ext.drewN | apply Ext.drew | apply Ext.alloc | (refine Ext.setCell ?_ (by first | (simp; done) | (simp; omega) | omega) _) | (refine Ext.trans ?_ (by assumption)) | (refine Ext.trans ?_ (held_left (by assumption)))))))⟩
  case round =>
    obtain ⟨k, v, hk, rfl, hown, hB0, hB1, hB2, hE⟩ := hrel
    by_cases hlt : k < cols.length
    · obtain ⟨b, o, rfl, hb, hc⟩ := HL.out.at_ (i := k) (by simpa using hlt)
      obtain ⟨f0, f1, f2⟩ := Col.at_ hlt hc hb hE.out
      have hT := Hid.mk' (flat_snoc (f := Col.cells) hlt)
      obtain ⟨c, hcc⟩ : ∃ c, c = cols[k] := ⟨_, rfl⟩
      rw [← hcc] at f0 f1 f2 hT
      have hbw : b < wr.heap.size := Nat.lt_of_lt_of_le hb hE.out.size
      have HC := Hid.mk' hcc
      clear hcc hc
      have g0 := hB0.cell
      have g2 := hB2.cell
      have z0 := hB0.lt
      have z1 := hB1.lt
      have z2 := hB2.lt
      have HB0 := Hid.mk' hB0
      have HB1 := Hid.mk' hB1
      have HB2 := Hid.mk' hB2
      clear hB0 hB1 hB2
      go_wp2
      refine wp_region_head 22 (fun w' => Ext (wr) w' ∧ (∀ b o, b < (wr).heap.size → w'.cell? ⟨b, o, none⟩ = (wr).cell? ⟨b, o, none⟩) ∧ (∀ b o, b < (wr).heap.size → w'.frozen? ⟨b, o, none⟩ = (wr).frozen? ⟨b, o, none⟩)) (by kernel_rfl) (by decide) ?_
      have hA0 : Hid ((fun w' => Ext (wr) w' ∧ (∀ b o, b < (wr).heap.size → w'.cell? ⟨b, o, none⟩ = (wr).cell? ⟨b, o, none⟩) ∧ (∀ b o, b < (wr).heap.size → w'.frozen? ⟨b, o, none⟩ = (wr).frozen? ⟨b, o, none⟩)) wr.drew) := held_of (by (repeat (with_reducible (first | exact Ext.refl _ | assumption | exact held_left (by assumption) | apply Ext.drewN | apply Ext.drew | apply Ext.alloc | (refine Ext.setCell ?_ (by first | (simp; done) | (simp; omega) | omega) _) | (refine Ext.trans ?_ (by assumption)) | (refine Ext.trans ?_ (held_left (by assumption)))))))
      (refine wpHd_take (i := 0) (v := ?_) rfl (by kernel_rfl) (by kernel_rfl) (by kernel_rfl) (fun _ _ _ h => h) (Or.inl ⟨by rfl, ?_⟩) hA0.out ?_; rotate_left 1; · (intro w' hS'; (obtain ⟨hEs', hcs', hfs'⟩ := hS'); go_simp; try with_reducible rfl))
      (refine wpHd_take (i := 1) (v := ?_) rfl (by kernel_rfl) (by kernel_rfl) (by kernel_rfl) (fun _ _ _ h => h) (Or.inl ⟨by rfl, ?_⟩) hA0.out ?_; rotate_left 1; · (intro w' hS'; (obtain ⟨hEs', hcs', hfs'⟩ := hS'); go_simp; try with_reducible rfl))
      (refine wpHd_take (i := 2) (v := ?_) rfl (by kernel_rfl) (by kernel_rfl) (by kernel_rfl) (fun _ _ _ h => h) (Or.inl ⟨by rfl, ?_⟩) hA0.out ?_; rotate_left 1; · (intro w' hS'; (obtain ⟨hEs', hcs', hfs'⟩ := hS'); go_simp; try with_reducible rfl))
      (refine wpHd_take (i := 3) (v := ?_) rfl (by kernel_rfl) (by kernel_rfl) (by kernel_rfl) (fun _ _ _ h => h) (Or.inl ⟨by rfl, ?_⟩) hA0.out ?_; rotate_left 1; · (intro w' hS'; (obtain ⟨hEs', hcs', hfs'⟩ := hS'); go_simp; try with_reducible rfl))
      (refine wpHd_take (i := 4) (v := ?_) rfl (by kernel_rfl) (by kernel_rfl) (by kernel_rfl) (fun _ _ _ h => h) (Or.inl ⟨by rfl, ?_⟩) hA0.out ?_; rotate_left 1; · (intro w' hS'; (obtain ⟨hEs', hcs', hfs'⟩ := hS'); go_simp; try with_reducible rfl))
      (refine wpHd_take (i := 5) (v := ?_) rfl (by kernel_rfl) (by kernel_rfl) (by kernel_rfl) (fun _ _ _ h => h) (Or.inl ⟨by rfl, ?_⟩) hA0.out ?_; rotate_left 1; · (intro w' hS'; (obtain ⟨hEs', hcs', hfs'⟩ := hS'); go_simp; try with_reducible rfl))
      (refine wpHd_take (i := 6) (v := ?_) rfl (by kernel_rfl) (by kernel_rfl) (by kernel_rfl) (fun _ _ _ h => h) (Or.inl ⟨by rfl, ?_⟩) hA0.out ?_; rotate_left 1; · (intro w' hS'; (obtain ⟨hEs', hcs', hfs'⟩ := hS'); go_simp; try with_reducible rfl))
      (refine wpHd_take (i := 7) (v := ?_) rfl (by kernel_rfl) (by kernel_rfl) (by kernel_rfl) (fun _ _ _ h => h) (Or.inl ⟨by rfl, ?_⟩) hA0.out ?_; rotate_left 1; · (intro w' hS'; (obtain ⟨hEs', hcs', hfs'⟩ := hS'); go_simp; try with_reducible rfl))
      (refine wpHd_take (i := 8) (v := ?_) rfl (by kernel_rfl) (by kernel_rfl) (by kernel_rfl) (fun _ _ _ h => h) (Or.inl ⟨by rfl, ?_⟩) hA0.out ?_; rotate_left 1; · (intro w' hS'; (obtain ⟨hEs', hcs', hfs'⟩ := hS'); go_simp; try with_reducible rfl))
      (refine wpHd_take (i := 9) (v := ?_) rfl (by kernel_rfl) (by kernel_rfl) (by kernel_rfl) (fun _ _ _ h => h) (Or.inl ⟨by rfl, ?_⟩) hA0.out ?_; rotate_left 1; · (intro w' hS'; (obtain ⟨hEs', hcs', hfs'⟩ := hS'); go_simp; try with_reducible rfl))
      (refine wpHd_take (i := 10) (v := ?_) rfl (by kernel_rfl) (by kernel_rfl) (by kernel_rfl) (fun _ _ _ h => h) (Or.inl ⟨by rfl, ?_⟩) hA0.out ?_; rotate_left 1; · (intro w' hS'; (obtain ⟨hEs', hcs', hfs'⟩ := hS'); go_simp; try with_reducible rfl))
      (refine wpHd_take (i := 11) (v := ?_) rfl (by kernel_rfl) (by kernel_rfl) (by kernel_rfl) (fun _ _ _ h => h) (Or.inl ⟨by rfl, ?_⟩) hA0.out ?_; rotate_left 1; · (intro w' hS'; (obtain ⟨hEs', hcs', hfs'⟩ := hS'); go_simp; try with_reducible rfl))
      (refine wpHd_take (i := 12) (v := ?_) rfl (by kernel_rfl) (by kernel_rfl) (by kernel_rfl) (fun _ _ _ h => h) (Or.inl ⟨by rfl, ?_⟩) hA0.out ?_; rotate_left 1; · (intro w' hS'; (obtain ⟨hEs', hcs', hfs'⟩ := hS'); go_simp; try with_reducible rfl))
      (refine wpHd_take (i := 13) (v := ?_) rfl (by kernel_rfl) (by kernel_rfl) (by kernel_rfl) (fun _ _ _ h => h) (Or.inl ⟨by rfl, ?_⟩) hA0.out ?_; rotate_left 1; · (intro w' hS'; (obtain ⟨hEs', hcs', hfs'⟩ := hS'); go_simp; try with_reducible rfl))
      (refine wpHd_take (i := 14) (v := ?_) rfl (by kernel_rfl) (by kernel_rfl) (by kernel_rfl) (fun _ _ _ h => h) (Or.inl ⟨by rfl, ?_⟩) hA0.out ?_; rotate_left 1; · (intro w' hS'; (obtain ⟨hEs', hcs', hfs'⟩ := hS'); go_simp; try with_reducible rfl))
      (refine wpHd_take (i := 15) (v := ?_) rfl (by kernel_rfl) (by kernel_rfl) (by kernel_rfl) (fun _ _ _ h => h) (Or.inl ⟨by rfl, ?_⟩) hA0.out ?_; rotate_left 1; · (intro w' hS'; (obtain ⟨hEs', hcs', hfs'⟩ := hS'); go_simp; try with_reducible rfl))
      (refine wpHd_take (i := 16) (v := ?_) rfl (by kernel_rfl) (by kernel_rfl) (by kernel_rfl) (fun _ _ _ h => h) (Or.inl ⟨by rfl, ?_⟩) hA0.out ?_; rotate_left 1; · (intro w' hS'; (obtain ⟨hEs', hcs', hfs'⟩ := hS'); go_simp; try with_reducible rfl))
      (refine wpHd_take (i := 17) (v := ?_) rfl (by kernel_rfl) (by kernel_rfl) (by kernel_rfl) (fun _ _ _ h => h) (Or.inl ⟨by rfl, ?_⟩) hA0.out ?_; rotate_left 1; · (intro w' hS'; (obtain ⟨hEs', hcs', hfs'⟩ := hS'); go_simp; try with_reducible rfl))
      (refine wpHd_take (i := 18) (v := ?_) rfl (by kernel_rfl) (by kernel_rfl) (by kernel_rfl) (fun _ _ _ h => h) (Or.inl ⟨by rfl, ?_⟩) hA0.out ?_; rotate_left 1; · (intro w' hS'; (obtain ⟨hEs', hcs', hfs'⟩ := hS'); go_simp; try with_reducible rfl))
      (refine wpHd_take (i := 19) (v := ?_) rfl (by kernel_rfl) (by kernel_rfl) (by kernel_rfl) (fun _ _ _ h => h) (Or.inl ⟨by rfl, ?_⟩) hA0.out ?_; rotate_left 1; · (intro w' hS'; (obtain ⟨hEs', hcs', hfs'⟩ := hS'); go_simp; try with_reducible rfl))
      (refine wpHd_take (i := 20) (v := ?_) rfl (by kernel_rfl) (by kernel_rfl) (by kernel_rfl) (fun _ _ _ h => h) (Or.inl ⟨by rfl, ?_⟩) hA0.out ?_; rotate_left 1; · (intro w' hS'; (obtain ⟨hEs', hcs', hfs'⟩ := hS'); go_simp; try with_reducible rfl))
      refine wpHd_one (i := 21) rfl rfl (by kernel_rfl) (fun K hK => ?_)
      go_simp
      refine hK.out _ _ (held_of (by (repeat (with_reducible (first | exact Ext.refl _ | assumption | exact held_left (by assumption) | apply Ext.drewN | apply Ext.drew | apply Ext.alloc | (refine Ext.setCell ?_ (by first | (simp; done) | (simp; omega) | omega) _) | (refine Ext.trans ?_ (by assumption)) | (refine Ext.trans ?_ (held_left (by assumption)))))))) (fun hA => ?_)
      clear hK K hA hA0
      refine wpHd_tail (by kernel_rfl) ?_
      simp only [List.drop_succ_cons, List.drop_zero]
      have hob := owns_ne hown.out (show w.heap.size + 1 + 1 < w.heap.size + 3 by omega)
      go_wp2_with (at_builtin; refine wpList_append_lies _ rfl _ _ 68 rfl (w.heap.size + 3) 92 i0 _ 3 24 Tryz.underlying68 hi hz0 hz1 hz2 rfl (by decide) _ _ _ rfl (owns_ext hown.out (by (repeat (with_reducible (first | exact Ext.refl _ | assumption | exact held_left (by assumption) | apply Ext.drewN | apply Ext.drew | apply Ext.alloc | (refine Ext.setCell ?_ (by first | (simp; done) | (simp; omega) | omega) _) | (refine Ext.trans ?_ (by assumption)) | (refine Ext.trans ?_ (held_left (by assumption)))))))) ⟨_, 0, none⟩ 1 1 c.cells rfl rfl ?c1 ?c2 (by decide) ?c3 ?c4 ?c5 _ rfl ?_)
      case c1 => exact cells_new _ #[.string c.nm, .int .u8 c.ty, .bool c.key] _
      case c2 => intro u hu; simp [Col.cells] at hu; rcases hu with rfl | rfl | rfl <;> rfl
      case c3 => unfold maxLen; omega
      case c4 => omega
      case c5 => simp; omega
      intro g' cap' w2 hown' hgrow _ _
      have hE1 : Ext wr (wr.drew.alloc (.cells #[.string c.nm, .int .u8 c.ty, .bool c.key] 92)) := by (repeat (with_reducible (first | exact Ext.refl _ | assumption | exact held_left (by assumption) | apply Ext.drewN | apply Ext.drew | apply Ext.alloc | (refine Ext.setCell ?_ (by first | (simp; done) | (simp; omega) | omega) _) | (refine Ext.trans ?_ (by assumption)) | (refine Ext.trans ?_ (held_left (by assumption))))))
      have HE2 : Hid (Ext w w2) := Hid.mk' (Below.grown (hE.out.trans hE1) hgrow (hE.out.trans hE1).size (fun g hg => by have := (hown.out.lt g hg).1; omega))
      have hsz2 := hgrow.size
      have HB0' := Hid.mk' ((HB0.out.ext hE1).grown hgrow (owns_ne hown.out (by omega)))
      have HB1' := Hid.mk' ((HB1.out.ext hE1).grown hgrow (owns_ne hown.out (by omega)))
      have hB2' := (HB2.out.ext hE1).grown hgrow hob
      have g2' := hB2'.cell
      have g2f := hB2'.frozen
      have z2' := hB2'.lt
      have HB2' := Hid.mk' hB2'
      have HO := Hid.mk' hown'
      clear hB2' hown' hgrow hE1 hob
      go_wp2
      go_roundw
      case rel => exact ⟨k + 1, _, by omega, by go_num, Hid.mk' (by rw [hT.out]; exact owns_set (p := ⟨w.heap.size + 1 + 1, 4, none⟩) HO.out (by show w.heap.size + 1 + 1 < _; omega) _), HB0'.out.other _ _ (by show w.heap.size ≠ w.heap.size + 1 + 1; omega), HB1'.out.other _ _ (by show w.heap.size + 1 ≠ w.heap.size + 1 + 1; omega), HB2'.out.set 4 _, Hid.mk' (HE2.out.setCell (by simp; omega) _)⟩
      case measure => simp [intOf]; omega
    · have hkk : k = cols.length := by omega
      subst hkk
      rw [show cols.length = (cols.map Col.cells).length by simp, List.take_length] at hown
      rw [List.length_map] at hown
      obtain ⟨a', c', rfl⟩ := owns_shape hown.out
      have g0 := hB0.cell
      have z0 := hB0.lt
      have g1 := hB1.cell
      have g1f := hB1.frozen
      have g2 := hB2.cell
      have z1 := hB1.lt
      have z2 := hB2.lt
      clear hB0 hB1 hB2
      go_wp2
      simp [bodyPost, results, Tryz.results21, go_sem, *]
      refine ⟨_, _, ⟨rfl, rfl⟩, owns_cap hown.out, Sl.of_owns (base := w.heap.size + 3) (e := 92) ?_ ?_, ?_⟩
      · have e : (cols.map Col.cells).length = cols.length := by simp
        rw [e]
        have hown := hown.out
        repeat (with_reducible (first | exact hown | refine owns_set ?_ (by show w.heap.size + 1 < _; omega) _))
      · intro xs hxs; simp at hxs; obtain ⟨a, _, rfl⟩ := hxs; rfl
      · have hE := hE.out
        (repeat (with_reducible (first | exact Ext.refl _ | assumption | exact held_left (by assumption) | apply Ext.drewN | apply Ext.drew | apply Ext.alloc | (refine Ext.setCell ?_ (by first | (simp; done) | (simp; omega) | omega) _) | (refine Ext.trans ?_ (by assumption)) | (refine Ext.trans ?_ (held_left (by assumption))))))

end Go.Proofs.YthdjinicmnhgpaaGreat

/-
Catalogs in memory: what may have been written; relations that lie somewhere; the catalog.
-/
namespace Go.Proofs.YthdjinicmnhgpaaGreat
open Go.RowKit

/-- Of the blocks that there were only those of S may have been written. -/
structure Kp (S : Nat → Prop) (w w' : World) : Prop where
  os : w'.os = w.os
  tape : w'.tape = w.tape
  output : w'.output = w.output
  size : w.heap.size ≤ w'.heap.size
  block : ∀ k, k < w.heap.size → ¬ S k → w'.heap[k]? = w.heap[k]?
section
variable {S T : Nat → Prop} {a b c w w' : World}
theorem Kp.refl : Kp S w w := ⟨rfl, rfl, rfl, Nat.le_refl _, fun _ _ _ => rfl⟩
theorem Kp.trans (h : Kp S a b) (k : Kp T b c) (hT : ∀ x, T x → x < a.heap.size → S x) : Kp S a c :=
  ⟨k.os.trans h.os, k.tape.trans h.tape, k.output.trans h.output, Nat.le_trans h.size k.size, fun i hi hs => (k.block i (Nat.lt_of_lt_of_le hi h.size) (fun ht => hs (hT i ht hi))).trans (h.block i hi hs)⟩
theorem Kp.of_ext (h : Ext w w') : Kp S w w' := ⟨h.os, h.tape, h.output, h.size, fun k hk _ => h.block k hk⟩
theorem Kp.ext (hE : Ext w a) (hS : ∀ x, S x → x < a.heap.size → w.heap.size ≤ x) (h : Kp S a b) : Ext w b :=
  Below.trans hE ⟨h.os, h.tape, h.output, h.size, fun k hk => h.block k (Nat.lt_of_lt_of_le hk hE.size) (fun hs => by have := hS k hs (Nat.lt_of_lt_of_le hk hE.size); omega)⟩
theorem Kp.of_grown {row : Option Nat} (h : w.grownBy w' row) : Kp (fun k => row = some k) w w' := ⟨h.os, h.tape, h.output, h.size, fun k hk hs => h.block k hk (fun e => hs e.symm)⟩
theorem Kp.mono (h : Kp S w w') (hs : ∀ x, S x → x < w.heap.size → T x) : Kp T w w' := ⟨h.os, h.tape, h.output, h.size, fun k hk ht => h.block k hk (fun q => ht (hs k q hk))⟩
theorem Kp.set (p : Addr) (u : Value) (h : S p.block) : Kp S w (w.setCell p u) := ⟨rfl, rfl, rfl, by simp [World.setCell], fun k _ hs => Below.heap_setCell _ _ _ _ (fun e => hs (e ▸ h))⟩
theorem Kp.cell (h : Kp S w w') {b : Nat} (hb : b < w.heap.size) (hs : ¬ S b) (o : Nat) : w'.cell? ⟨b, o, none⟩ = w.cell? ⟨b, o, none⟩ := World.cell?_of_block (w := w) (h.block b hb hs)
theorem Blk.kp {g : Nat} {cs : Array Value} {t : TypeId} (h : Blk w g cs t) (k : Kp S w w') (hs : ¬ S g) : Blk w' g cs t := (k.block g h.lt hs).trans h
theorem Sl.kp {x : Option Addr} {n c k : Nat} {xss : List (List Value)} (h : Sl w (.slice x n c) k xss) (hk : Kp S w w') (hs : xss ≠ [] → ∀ b o, x = some ⟨b, o, none⟩ → ¬ S b) : Sl w' (.slice x n c) k xss := by
  obtain ⟨x', c', hv, h⟩ := h
  simp only [Value.slice.injEq] at hv
  obtain ⟨rfl, rfl, rfl⟩ := hv
  rcases h with h | ⟨b, o, rfl, hb, hc⟩
  · exact ⟨_, _, rfl, .inl h⟩
  · by_cases h0 : xss = []
    · exact ⟨_, _, rfl, .inl h0⟩
    · refine ⟨_, _, rfl, .inr ⟨b, o, rfl, Nat.lt_of_lt_of_le hb hk.size, fun i hi j hj => ?_⟩⟩
      rw [← hc i hi j hj]
      exact hk.cell hb (hs h0 b o rfl) _
theorem owns_kp {base n size : Nat} {e : TypeId} {v : Value} {xs : List Value} (h : w.ownsRow base e size v n xs) (hk : Kp S w w') (hs : ∀ b, v.ownBlock = some b → ¬ S b) : w'.ownsRow base e size v n xs := by
  obtain ⟨h1, h2⟩ := h
  refine ⟨h1, ?_⟩
  rcases h2 with h2 | ⟨g, cap, cur, rfl, hg, hh, hr⟩
  · exact .inl h2
  · exact .inr ⟨g, cap, cur, rfl, hg, Blk.kp (g := g) hh hk (hs g rfl), hr⟩
theorem owns_lt3 {base n size : Nat} {e : TypeId} {v : Value} {xs : List Value} (h : w.ownsRow base e size v n xs) {g : Nat} (hg : v.ownBlock = some g) : base ≤ g ∧ g < w.heap.size := h.lt g hg
end

/-- What is known of a relation of the arguments. -/
structure Rl.wb (r : Rl) : Prop where
  nm : r.nm.size ≤ 9223372036854775807
  cs : ∀ c ∈ r.cols, c.nm.size ≤ 9223372036854775807
  n : r.cols.length ≤ 5864062014634
  idn : 0 ≤ r.id
theorem Rl.cols_le {r : Rl} (h : r.right = 0) : r.cols.length ≤ 16 := by
  unfold Rl.right at h
  repeat' split at h
  all_goals first | omega | cases h

/-- A relation that lies somewhere. -/
structure RR where
  r : Rl
  a : Option Addr
  c : Nat
def RR.cells (p : RR) : List Value := [.int .u32 p.r.oid, .int .u32 p.r.ver, .string p.r.nm, .int .u8 p.r.id, .slice p.a p.r.cols.length p.c]
def RR.agg (p : RR) : Value := .agg #[.int .u32 p.r.oid, .int .u32 p.r.ver, .string p.r.nm, .int .u8 p.r.id, .slice p.a p.r.cols.length p.c]
/-- Its columns lie there. -/
def RR.in (W : World) (p : RR) : Prop := Sl W (.slice p.a p.r.cols.length p.c) 3 (p.r.cols.map Col.cells)
theorem RR.in.ext {w w' : World} {p : RR} (h : p.in w) (he : Ext w w') : p.in w' := Sl.ext h he
theorem RR.at_ {w wr : World} {b o : Nat} {l : List RR} {k : Nat} (hk : k < l.length) (hc : ∀ j, j < 5 → w.cell? ⟨b, o + k * 5 + j, none⟩ = ((l.map RR.cells).getD k [])[j]?) (hb : b < w.heap.size) (hE : Ext w wr) :
    wr.cell? ⟨b, o + k * 5, none⟩ = some (.int .u32 l[k].r.oid) ∧ wr.cell? ⟨b, o + k * 5 + 1, none⟩ = some (.int .u32 l[k].r.ver) ∧ wr.cell? ⟨b, o + k * 5 + 2, none⟩ = some (.string l[k].r.nm) ∧ wr.cell? ⟨b, o + k * 5 + 3, none⟩ = some (.int .u8 l[k].r.id) ∧
      wr.cell? ⟨b, o + k * 5 + 4, none⟩ = some (.slice l[k].a l[k].r.cols.length l[k].c) := by
  rw [getD_map RR.cells l hk] at hc
  have c := hE.cells.1 b
  exact ⟨(c _ hb).trans (hc 0 (by omega)), (c _ hb).trans (hc 1 (by omega)), (c _ hb).trans (hc 2 (by omega)), (c _ hb).trans (hc 3 (by omega)), (c _ hb).trans (hc 4 (by omega))⟩
theorem RR.len (l : List RR) : ∀ xs ∈ l.map RR.cells, xs.length = 5 := by
  intro xs hxs
  rw [List.mem_map] at hxs
  obtain ⟨p, _, rfl⟩ := hxs
  rfl
theorem RR.flat_len (l : List RR) : (l.map RR.cells).flatten.length = l.length * 5 := by
  have := flat_length 5 (l.map RR.cells) (RR.len l)
  rwa [List.length_map] at this
theorem RR.one (l : List RR) : ∀ u ∈ (l.map RR.cells).flatten, u.oneCell' = true := by
  intro u hu
  rw [List.mem_flatten] at hu
  obtain ⟨xs, hxs, hu⟩ := hu
  rw [List.mem_map] at hxs
  obtain ⟨p, _, rfl⟩ := hxs
  simp [RR.cells] at hu
  rcases hu with rfl | rfl | rfl | rfl | rfl <;> rfl

/-- Relations in a row. -/
structure RL (W : World) (v : Value) (ps : List RR) : Prop where
  row : Sl W v 5 (ps.map RR.cells)
  sl : ∀ p ∈ ps, p.in W
theorem RL.ext {w w' : World} {v : Value} {ps : List RR} (h : RL w v ps) (he : Ext w w') : RL w' v ps := ⟨h.row.ext he, fun p hp => (h.sl p hp).ext he⟩
theorem RL.nil (w : World) : RL w (.slice none 0 0) [] := ⟨⟨none, 0, rfl, .inl rfl⟩, fun p h => by cases h⟩
theorem RL.shape {w : World} {v : Value} {ps : List RR} (h : RL w v ps) : ∃ a c, v = .slice a ps.length c := by
  obtain ⟨a, c, rfl, -⟩ := h.row.shape (n := ps.length) (by simp)
  exact ⟨a, c, rfl⟩
theorem RL.kp {S : Nat → Prop} {w w' : World} {x : Option Addr} {n c : Nat} {ps : List RR} (h : RL w (.slice x n c) ps) (hk : Kp S w w') (hs : ∀ b o, x = some ⟨b, o, none⟩ → ¬ S b) (hp : ∀ p ∈ ps, p.r.cols ≠ [] → ∀ b o, p.a = some ⟨b, o, none⟩ → ¬ S b) : RL w' (.slice x n c) ps :=
  ⟨h.row.kp hk (fun _ => hs), fun p hq => Sl.kp (h.sl p hq) hk (fun h0 => hp p hq (fun h1 => h0 (by rw [h1]; rfl)))⟩

/-- One more, at its place. -/
def insP (ps : List RR) (q : RR) : List RR := ps.take (posR q.r.oid q.r.ver (ps.map RR.r)) ++ q :: ps.drop (posR q.r.oid q.r.ver (ps.map RR.r))
theorem insP_r (ps : List RR) (q : RR) : (insP ps q).map RR.r = insR (ps.map RR.r) q.r := by
  unfold insP insR
  rw [List.map_append, List.map_cons, List.map_take, List.map_drop]
theorem insP_len (ps : List RR) (q : RR) : (insP ps q).length = ps.length + 1 := by
  have := insR_len (ps.map RR.r) q.r
  rw [← insP_r, List.length_map, List.length_map] at this
  exact this
theorem insP_mem {ps : List RR} {q x : RR} (h : x ∈ insP ps q) : x = q ∨ x ∈ ps := by
  unfold insP at h
  rw [List.mem_append, List.mem_cons] at h
  rcases h with h | h | h
  · exact .inr (List.mem_of_mem_take h)
  · exact .inl h
  · exact .inr (List.mem_of_mem_drop h)
theorem insP_flat (ps : List RR) (q : RR) : ((insP ps q).map RR.cells).flatten = ((ps.map RR.cells).flatten).take (posR q.r.oid q.r.ver (ps.map RR.r) * 5) ++ (q.cells ++ ((ps.map RR.cells).flatten).drop (posR q.r.oid q.r.ver (ps.map RR.r) * 5)) := by
  have hk := posR_le q.r.oid q.r.ver (ps.map RR.r)
  rw [List.length_map] at hk
  unfold insP
  generalize posR q.r.oid q.r.ver (ps.map RR.r) = k at hk ⊢
  have e : (ps.map RR.cells).flatten = ((ps.take k).map RR.cells).flatten ++ ((ps.drop k).map RR.cells).flatten := by
    rw [← List.flatten_append, ← List.map_append, List.take_append_drop]
  have hl : ((ps.take k).map RR.cells).flatten.length = k * 5 := by rw [RR.flat_len, List.length_take]; congr 1; omega
  rw [e, List.take_left' hl, List.drop_left' hl, List.map_append, List.map_cons, List.flatten_append, List.flatten_cons]

/-- The program's catalog: in block g, its row v, both from N on; its relations' columns from N on. -/
structure Ca (W : World) (N g : Nat) (v : Value) (ps : List RR) : Prop where
  ptr : Blk W g #[v] 103
  own : W.ownsRow N 70 5 v ps.length (ps.map RR.cells).flatten
  gN : N ≤ g
  gv : v.ownBlock ≠ some g
  sl : ∀ p ∈ ps, p.in W
  ne : ∀ p ∈ ps, p.r.cols ≠ [] → ∀ b o, p.a = some ⟨b, o, none⟩ → b ≠ g ∧ v.ownBlock ≠ some b ∧ N ≤ b ∧ b < W.heap.size
  ok : CatOk (ps.map RR.r)
  wb : ∀ p ∈ ps, p.r.wb
/-- What adding to it may write. -/
def Ca.S (g : Nat) (v : Value) (k : Nat) : Prop := k = g ∨ v.ownBlock = some k
section
variable {W W' : World} {N g : Nat} {v : Value} {ps : List RR}
theorem Ca.kp {S : Nat → Prop} (h : Ca W N g v ps) (hk : Kp S W W') (h1 : ¬ S g) (h2 : ∀ b, v.ownBlock = some b → ¬ S b) (h3 : ∀ p ∈ ps, p.r.cols ≠ [] → ∀ b o, p.a = some ⟨b, o, none⟩ → ¬ S b) : Ca W' N g v ps :=
  ⟨h.ptr.kp hk h1, owns_kp h.own hk h2, h.gN, h.gv, fun p hp => Sl.kp (h.sl p hp) hk (fun h0 => h3 p hp (fun q => h0 (by rw [q]; rfl))), fun p hp h0 b o e => by
    obtain ⟨q1, q2, q3, q4⟩ := h.ne p hp h0 b o e
    exact ⟨q1, q2, q3, Nat.lt_of_lt_of_le q4 hk.size⟩, h.ok, h.wb⟩
theorem Ca.ext (h : Ca W N g v ps) (he : Ext W W') : Ca W' N g v ps :=
  h.kp (S := fun _ => False) (Kp.of_ext he) (fun h => h) (fun _ _ h => h) (fun _ _ _ _ _ _ h => h)
theorem Ca.rl (h : Ca W N g v ps) : RL W v ps := ⟨Sl.of_owns (base := N) (e := 70) (by rw [List.length_map]; exact h.own) (RR.len ps), h.sl⟩
theorem Ca.shape (h : Ca W N g v ps) : ∃ a c, v = .slice a ps.length c := owns_shape h.own
theorem Ca.n64 (h : Ca W N g v ps) : ps.length ≤ 64 := by have := h.ok.n64; rwa [List.length_map] at this
theorem Ca.n16 (h : Ca W N g v ps) {p : RR} (hp : p ∈ ps) : p.r.cols.length ≤ 16 := Rl.cols_le (h.ok.right _ (List.mem_map_of_mem hp))
end

end Go.Proofs.YthdjinicmnhgpaaGreat

/-
Catalogs in plain words: what is found, the youngest, some of them; whatever order they come in.
-/
namespace Go.Proofs.YthdjinicmnhgpaaGreat
open Go.RowKit

/-- The relation of a ref. -/
def getP (o v : Int) (ps : List RR) : Option RR := ps.find? (fun p => isR o v p.r)
def RR.zero : RR := ⟨⟨0, 0, ⟨#[]⟩, 0, []⟩, none, 0⟩
theorem getP_map (o v : Int) (ps : List RR) : (getP o v ps).map RR.r = getR o v (ps.map RR.r) := by
  unfold getP getR
  rw [List.find?_map]; rfl
theorem getP_at {o v : Int} {ps : List RR} {k : Nat} (hk : k < ps.length) (h : ps[k].r.oid = o ∧ ps[k].r.ver = v) (hp : ∀ j (hj : j < ps.length), j < k → ¬ (ps[j].r.oid = o ∧ ps[j].r.ver = v)) : getP o v ps = some ps[k] := by
  unfold getP
  rw [List.find?_eq_some_iff_getElem]
  refine ⟨by unfold isR; simpa using h, k, hk, rfl, fun j hj => ?_⟩
  have := hp j (by omega) hj
  unfold isR
  simp only [Bool.not_eq_true', decide_eq_false_iff_not]
  exact this
theorem getP_none {o v : Int} {ps : List RR} (hp : ∀ j (hj : j < ps.length), ¬ (ps[j].r.oid = o ∧ ps[j].r.ver = v)) : getP o v ps = none := by
  unfold getP
  rw [List.find?_eq_none]
  intro x hx
  obtain ⟨j, hj, rfl⟩ := List.getElem_of_mem hx
  have := hp j hj
  unfold isR
  simpa using this
theorem getP_some {o v : Int} {ps : List RR} {p : RR} (h : getP o v ps = some p) : p ∈ ps ∧ p.r.oid = o ∧ p.r.ver = v := by
  unfold getP at h
  have h1 := List.find?_some h
  unfold isR at h1
  exact ⟨List.mem_of_find?_eq_some h, by simpa using h1⟩
theorem getP_is (o v : Int) (ps : List RR) : (getP o v ps).isSome = hasR o v (ps.map RR.r) := by
  rw [← Option.isSome_map, getP_map]
  cases h : getR o v (ps.map RR.r) with
  | none => rw [getR_none.1 h]; rfl
  | some r =>
    cases hh : hasR o v (ps.map RR.r) with
    | true => rfl
    | false => rw [getR_none.2 hh] at h; cases h

/-- The first i of those that there are when one is put at its place. -/
def outs (ps : List RR) (q : RR) (i : Nat) : List RR := if i ≤ posR q.r.oid q.r.ver (ps.map RR.r) then ps.take i else (insP ps q).take (i + 1)
theorem insP_get (ps : List RR) (q : RR) {i : Nat} (hi : i < ps.length) (h : posR q.r.oid q.r.ver (ps.map RR.r) ≤ i) : (insP ps q)[i + 1]'(by rw [insP_len]; omega) = ps[i] := by
  have hk := posR_le q.r.oid q.r.ver (ps.map RR.r)
  rw [List.length_map] at hk
  have e2 : (insP ps q)[i + 1]? = some ps[i] := by
    unfold insP
    generalize posR q.r.oid q.r.ver (ps.map RR.r) = k at h hk ⊢
    rw [List.getElem?_append_right (by rw [List.length_take]; omega), show i + 1 - (ps.take k).length = (i - k) + 1 by rw [List.length_take]; omega, List.getElem?_cons_succ, List.getElem?_drop, show k + (i - k) = i by omega, List.getElem?_eq_getElem hi]
  have h3 : i + 1 < (insP ps q).length := by rw [insP_len]; omega
  rw [List.getElem?_eq_getElem h3] at e2
  exact Option.some.inj e2
theorem outs_zero (ps : List RR) (q : RR) : outs ps q 0 = [] := by unfold outs; rw [if_pos (Nat.zero_le _)]; rfl
theorem outs_lt {ps : List RR} {q : RR} {i : Nat} (hi : i < ps.length) (h : i < posR q.r.oid q.r.ver (ps.map RR.r)) : outs ps q (i + 1) = outs ps q i ++ [ps[i]] := by
  unfold outs
  rw [if_pos (by omega), if_pos (by omega), List.take_succ_eq_append_getElem hi]
theorem outs_eq {ps : List RR} {q : RR} {i : Nat} (hi : i < ps.length) (h : i = posR q.r.oid q.r.ver (ps.map RR.r)) : outs ps q (i + 1) = outs ps q i ++ [q] ++ [ps[i]] := by
  have hg := insP_get ps q hi (by omega)
  unfold outs
  rw [if_neg (by omega), if_pos (by omega), List.take_succ_eq_append_getElem (by rw [insP_len]; omega), hg]
  congr 1
  unfold insP
  rw [← h, List.take_append, List.take_of_length_le (by rw [List.length_take]; omega), List.length_take, show i + 1 - min i ps.length = 1 by omega]
  rfl
theorem outs_gt {ps : List RR} {q : RR} {i : Nat} (hi : i < ps.length) (h : posR q.r.oid q.r.ver (ps.map RR.r) < i) : outs ps q (i + 1) = outs ps q i ++ [ps[i]] := by
  have hg := insP_get ps q hi (by omega)
  unfold outs
  rw [if_neg (by omega), if_neg (by omega), List.take_succ_eq_append_getElem (by rw [insP_len]; omega), hg]
theorem outs_end {ps : List RR} {q : RR} (h : posR q.r.oid q.r.ver (ps.map RR.r) < ps.length) : outs ps q ps.length = insP ps q := by
  unfold outs
  rw [if_neg (by omega), List.take_of_length_le (by rw [insP_len]; omega)]
theorem outs_last {ps : List RR} {q : RR} (h : posR q.r.oid q.r.ver (ps.map RR.r) = ps.length) : outs ps q ps.length ++ [q] = insP ps q := by
  unfold outs insP
  rw [if_pos (by omega), h, List.drop_eq_nil_of_le (Nat.le_refl _)]

/-- The youngest of an oid among the first. -/
def lastUp (o : Int) (ps : List RR) : Nat → Option RR
  | 0 => none
  | k + 1 => if h : ∃ h : k < ps.length, ps[k].r.oid = o then some (ps[k]'h.1) else lastUp o ps k
theorem lastUp_hit {o : Int} {ps : List RR} {k : Nat} (hk : k < ps.length) (h : ps[k].r.oid = o) : lastUp o ps (k + 1) = some ps[k] := by
  unfold lastUp; rw [dif_pos ⟨hk, h⟩]
theorem lastUp_miss {o : Int} {ps : List RR} {k : Nat} (hk : k < ps.length) (h : ps[k].r.oid ≠ o) : lastUp o ps (k + 1) = lastUp o ps k := by
  conv => lhs; unfold lastUp
  rw [dif_neg (fun q => h q.2)]
theorem lastUp_some {o : Int} {ps : List RR} : ∀ {k : Nat} {p : RR}, lastUp o ps k = some p → ∃ j, ∃ h : j < ps.length, j < k ∧ p = ps[j] ∧ ps[j].r.oid = o
  | 0, p, h => by cases h
  | k + 1, p, h => by
    unfold lastUp at h
    split at h
    · rename_i hq
      exact ⟨k, hq.1, by omega, (Option.some.inj h).symm, hq.2⟩
    · obtain ⟨j, h1, h2, h3⟩ := lastUp_some h
      exact ⟨j, h1, by omega, h3⟩
theorem lastUp_map {o : Int} {a b : List RR} (h : a.map RR.r = b.map RR.r) : ∀ k, (lastUp o a k).map RR.r = (lastUp o b k).map RR.r
  | 0 => rfl
  | k + 1 => by
    have hl : a.length = b.length := by have := congrArg List.length h; simpa using this
    by_cases hk : k < a.length
    · have e : a[k].r = b[k].r := by
        have := congrArg (fun l => l[k]?) h
        simp only [List.getElem?_map, List.getElem?_eq_getElem hk, List.getElem?_eq_getElem (show k < b.length by omega), Option.map_some] at this
        exact Option.some.inj this
      by_cases hq : a[k].r.oid = o
      · rw [lastUp_hit hk hq, lastUp_hit (by omega) (by rw [← e]; exact hq), Option.map_some, Option.map_some, e]
      · rw [lastUp_miss hk hq, lastUp_miss (by omega) (by rw [← e]; exact hq)]
        exact lastUp_map h k
    · unfold lastUp
      rw [dif_neg (fun q => hk q.1), dif_neg (fun q => hk (by have := q.1; omega))]
      exact lastUp_map h k

/-- A ref. -/
structure Rf where
  o : Int
  v : Int
def Rf.cells (r : Rf) : List Value := [.int .u32 r.o, .int .u32 r.v]
theorem Rf.at_ {w wr : World} {b o : Nat} {l : List Rf} {k : Nat} (hk : k < l.length) (hc : ∀ j, j < 2 → w.cell? ⟨b, o + k * 2 + j, none⟩ = ((l.map Rf.cells).getD k [])[j]?) (hb : b < w.heap.size) (hE : Ext w wr) :
    wr.cell? ⟨b, o + k * 2, none⟩ = some (.int .u32 l[k].o) ∧ wr.cell? ⟨b, o + k * 2 + 1, none⟩ = some (.int .u32 l[k].v) := by
  rw [getD_map Rf.cells l hk] at hc
  have c := hE.cells.1 b
  exact ⟨(c _ hb).trans (hc 0 (by omega)), (c _ hb).trans (hc 1 (by omega))⟩
/-- Is it of one of some refs? -/
def ofRefs (rs : List Rf) (r : Rl) : Bool := rs.any (fun x => isR x.o x.v r)
def onlyE (rs : List Rf) (l : List Rl) : Int := if rs.all (fun x => hasR x.o x.v l) = true then 0 else 10
theorem onlyE_no {rs : List Rf} {l : List Rl} {k : Nat} (hk : k < rs.length) (h : hasR rs[k].o rs[k].v l = false) : onlyE rs l = 10 := by
  unfold onlyE
  rw [if_neg]
  intro hq
  have := List.all_eq_true.1 hq _ (List.getElem_mem hk)
  rw [h] at this; cases this
theorem onlyE_yes {rs : List Rf} {l : List Rl} (h : ∀ k (hk : k < rs.length), hasR rs[k].o rs[k].v l = true) : onlyE rs l = 0 := by
  unfold onlyE
  rw [if_pos]
  rw [List.all_eq_true]
  intro x hx
  obtain ⟨k, hk, rfl⟩ := List.getElem_of_mem hx
  exact h k hk
theorem ofRefs_snoc {rs : List Rf} {k : Nat} (hk : k < rs.length) (x : Rl) : ofRefs (rs.take (k + 1)) x = (ofRefs (rs.take k) x || isR rs[k].o rs[k].v x) := by
  unfold ofRefs
  rw [List.take_succ_eq_append_getElem hk, List.any_append]; simp
/-- What is there when those of the first k refs were added. -/
theorem only_step {l : List Rl} (hl : CatOk l) {rs : List Rf} {k : Nat} (hk : k < rs.length) {r : Rl} (hg : getR rs[k].o rs[k].v l = some r) :
    addL (l.filter (ofRefs (rs.take k))) r = l.filter (ofRefs (rs.take (k + 1))) := by
  obtain ⟨hm, ho, hv⟩ := getR_some hg
  have hs : ∀ f : Rl → Bool, Srt (l.filter f) := fun f => List.Pairwise.sublist List.filter_sublist hl.srt
  have hi : isR rs[k].o rs[k].v r = true := by unfold isR; simp [ho, hv]
  have hiu : ∀ x ∈ l, isR rs[k].o rs[k].v x = true → x = r := fun x hx hq => by
    unfold isR at hq
    have : x.oid = rs[k].o ∧ x.ver = rs[k].v := by simpa using hq
    exact hl.srt.uniq hx hm (by rw [this.1, ho]) (by rw [this.2, hv])
  cases hh : hasR r.oid r.ver (l.filter (ofRefs (rs.take k))) with
  | true =>
    have hmem : r ∈ l.filter (ofRefs (rs.take k)) := by
      unfold hasR at hh
      rw [List.any_eq_true] at hh
      obtain ⟨x, hx, hq⟩ := hh
      unfold isR at hq
      have hq2 : x.oid = r.oid ∧ x.ver = r.ver := by simpa using hq
      rw [← hl.srt.uniq ((List.mem_filter.1 hx).1) hm hq2.1 hq2.2]
      exact hx
    have hE : addE (l.filter (ofRefs (rs.take k))) r ≠ 0 := by unfold addE; rw [if_neg (by simpa using hl.right r hm), if_pos hh]; decide
    unfold addL
    rw [if_neg hE]
    refine (hs _).ext (hs _) fun x => ?_
    rw [List.mem_filter, List.mem_filter, ofRefs_snoc hk, Bool.or_eq_true]
    constructor
    · rintro ⟨h1, h2⟩; exact ⟨h1, .inl h2⟩
    · rintro ⟨h1, h2 | h2⟩
      · exact ⟨h1, h2⟩
      · rw [hiu x h1 h2]; exact List.mem_filter.1 hmem
  | false =>
    have hnf : ofRefs (rs.take k) r = false := by
      cases hq : ofRefs (rs.take k) r with
      | false => rfl
      | true =>
        have : hasR r.oid r.ver (l.filter (ofRefs (rs.take k))) = true := by
          unfold hasR
          rw [List.any_eq_true]
          exact ⟨r, List.mem_filter.2 ⟨hm, hq⟩, by unfold isR; simp⟩
        rw [hh] at this; cases this
    have hlt : (l.filter (ofRefs (rs.take k))).length < l.length := List.length_filter_lt_length_iff_exists.2 ⟨r, hm, by rw [hnf]; simp⟩
    have h64 := hl.n64
    have hE : addE (l.filter (ofRefs (rs.take k))) r = 0 := by unfold addE; rw [if_neg (by simpa using hl.right r hm), if_neg (by rw [hh]; simp), if_neg (by omega)]
    unfold addL
    rw [if_pos hE]
    refine ((hs _).ins hh).ext (hs _) fun x => ?_
    rw [insR_mem, List.mem_filter, List.mem_filter, ofRefs_snoc hk, Bool.or_eq_true]
    constructor
    · rintro (rfl | ⟨h1, h2⟩)
      · exact ⟨hm, .inr hi⟩
      · exact ⟨h1, .inl h2⟩
    · rintro ⟨h1, h2 | h2⟩
      · exact .inr ⟨h1, h2⟩
      · exact .inl (hiu x h1 h2)

/-- Relations that all may be added. -/
structure Fine (l : List Rl) : Prop where
  right : ∀ r ∈ l, r.right = 0
  one : l.Pairwise (fun a b => ¬ (a.oid = b.oid ∧ a.ver = b.ver))
  n : l.length ≤ 64
theorem ofUp_mem {l : List Rl} (h : ∀ j, j < l.length → ofAt l j = 0) : ∀ k, k ≤ l.length → (∀ x, x ∈ ofUp l k ↔ x ∈ l.take k) ∧ (ofUp l k).length = k
  | 0, _ => ⟨fun x => by simp [ofUp], rfl⟩
  | k + 1, hk => by
    obtain ⟨h1, h2⟩ := ofUp_mem h k (by omega)
    have h0 := h k (by omega)
    unfold ofAt at h0
    rw [dif_pos (by omega)] at h0
    rw [ofUp_succ (by omega)]
    unfold addL
    rw [if_pos h0, insR_len, h2]
    refine ⟨fun x => ?_, rfl⟩
    rw [insR_mem, h1, List.take_succ_eq_append_getElem (by omega), List.mem_append, List.mem_singleton, or_comm]
theorem ofAt_fine {l : List Rl} (h : ∀ j, j < l.length → ofAt l j = 0) : Fine l := by
  have hz : ∀ j (hj : j < l.length), addE (ofUp l j) l[j] = 0 := fun j hj => by have := h j hj; unfold ofAt at this; rwa [dif_pos hj] at this
  refine ⟨fun r hr => ?_, ?_, ?_⟩
  · obtain ⟨j, hj, rfl⟩ := List.getElem_of_mem hr
    exact (addE_zero (hz j hj)).1
  · rw [List.pairwise_iff_getElem]
    intro i j hi hj hij hq
    have h1 := (addE_zero (hz j hj)).2.1
    have h2 := ((ofUp_mem h j (by omega)).1 l[i]).2 (List.mem_take_iff_getElem.2 ⟨i, by omega, rfl⟩)
    obtain ⟨m, hm, e⟩ := List.getElem_of_mem h2
    rw [hasR_at hm (by rw [e]; exact hq)] at h1
    cases h1
  · have := (ofUp_mem h l.length (Nat.le_refl _)).2
    have h2 := (ofUp_ok l l.length).n64
    omega
theorem Fine.at_ {l : List Rl} (h : Fine l) : ∀ k, k ≤ l.length → ∀ j, j < k → ofAt l j = 0
  | 0, _, j, hj => absurd hj (Nat.not_lt_zero _)
  | k + 1, hk, j, hj => by
    have ih := h.at_ k (by omega)
    by_cases e : j < k
    · exact ih j e
    · obtain rfl : j = k := by omega
      have hm : ∀ m, m ≤ j → (∀ x, x ∈ ofUp l m ↔ x ∈ l.take m) ∧ (ofUp l m).length = m := by
        intro m
        induction m with
        | zero => intro _; exact ⟨fun x => by simp [ofUp], rfl⟩
        | succ m ihm =>
          intro hmj
          obtain ⟨h1, h2⟩ := ihm (by omega)
          have h0 := ih m (by omega)
          unfold ofAt at h0
          rw [dif_pos (by omega)] at h0
          rw [ofUp_succ (by omega)]
          unfold addL
          rw [if_pos h0, insR_len, h2]
          refine ⟨fun x => ?_, rfl⟩
          rw [insR_mem, h1, List.take_succ_eq_append_getElem (by omega), List.mem_append, List.mem_singleton, or_comm]
      obtain ⟨h1, h2⟩ := hm j (Nat.le_refl _)
      unfold ofAt
      rw [dif_pos (by omega)]
      unfold addE
      rw [if_neg (by simpa using h.right _ (List.getElem_mem (by omega)))]
      have hh : hasR (l[j]'(by omega)).oid (l[j]'(by omega)).ver (ofUp l j) = false := by
        refine hasR_no fun i hi hq => ?_
        have h3 := (h1 (ofUp l j)[i]).1 (List.getElem_mem hi)
        obtain ⟨m, hm1, hm2⟩ := List.mem_take_iff_getElem.1 h3
        have := List.pairwise_iff_getElem.1 h.one m j (by omega) (by omega) (by omega)
        rw [← hm2] at hq
        exact this hq
      rw [if_neg (by rw [hh]; simp), if_neg (by have := h.n; omega)]
theorem Fine.rev {l : List Rl} (h : Fine l) : Fine l.reverse :=
  ⟨fun r hr => h.right r (List.mem_reverse.1 hr), by rw [List.pairwise_reverse]; exact h.one.imp (fun hq h2 => hq ⟨h2.1.symm, h2.2.symm⟩), by rw [List.length_reverse]; exact h.n⟩
theorem Fine.same {a b : List Rl} (ha : Fine a) (hb : Fine b) (h : ∀ x, x ∈ a ↔ x ∈ b) : ofUp a a.length = ofUp b b.length := by
  refine (ofUp_ok a _).srt.ext (ofUp_ok b _).srt fun x => ?_
  rw [((ofUp_mem (ha.at_ _ (Nat.le_refl _)) _ (Nat.le_refl _)).1 x), ((ofUp_mem (hb.at_ _ (Nat.le_refl _)) _ (Nat.le_refl _)).1 x), List.take_length, List.take_length]
  exact h x

/-- What one more leaves of what there was. -/
theorem add_get {l : List Rl} (hl : CatOk l) (r : Rl) {x : Rl} (hx : x ∈ l) : getR x.oid x.ver (addL l r) = some x := by
  have hok := hl.add r
  have hm : x ∈ addL l r := by
    unfold addL
    split
    · exact insR_mem.2 (.inr hx)
    · exact hx
  obtain ⟨i, hi, e⟩ := List.getElem_of_mem hm
  rw [hok.srt.get_at hi (by rw [e]; exact ⟨rfl, rfl⟩), e]
theorem add_new {l : List Rl} (hl : CatOk l) {r : Rl} (h : addE l r = 0) : getR r.oid r.ver (addL l r) = some r ∧ (addL l r).length = l.length + 1 ∧ addE (addL l r) r = 9 := by
  have hok := hl.add r
  have hm : r ∈ addL l r := by unfold addL; rw [if_pos h]; exact insR_mem.2 (.inl rfl)
  obtain ⟨i, hi, e⟩ := List.getElem_of_mem hm
  refine ⟨by rw [hok.srt.get_at hi (by rw [e]; exact ⟨rfl, rfl⟩), e], by unfold addL; rw [if_pos h, insR_len], ?_⟩
  unfold addE
  rw [if_neg (by simpa using (addE_zero h).1), if_pos (hasR_at hi (by rw [e]; exact ⟨rfl, rfl⟩))]
theorem addL_len {l : List Rl} {r : Rl} (h : addE l r ≠ 0) : addL l r = l := by unfold addL; rw [if_neg h]

end Go.Proofs.YthdjinicmnhgpaaGreat

/-
Refs that rise, in plain words: one more put at its place, equal neighbours struck, two rising lists of the same refs are one.
-/
namespace Go.Proofs.YthdjinicmnhgpaaGreat

/-- One ref is ahead of another. -/
def Rf.lt (a b : Rf) : Prop := aheadP a.o a.v b.o b.v
theorem Rf.irr (a : Rf) : ¬ a.lt a := ahead_irr
theorem Rf.trans {a b c : Rf} (h : a.lt b) (k : b.lt c) : a.lt c := ahead_trans h k
theorem Rf.tri (a b : Rf) : a.lt b ∨ a = b ∨ b.lt a := by
  rcases ahead_tri a.o a.v b.o b.v with h | h | h
  · exact .inl h
  · refine .inr (.inl ?_)
    obtain ⟨o, v⟩ := a; obtain ⟨o', v'⟩ := b
    simp only at h
    rw [h.1, h.2]
  · exact .inr (.inr h)
/-- It rises. -/
def Rise (l : List Rf) : Prop := l.Pairwise Rf.lt
theorem Rise.nil : Rise [] := List.Pairwise.nil
theorem Rise.ext : ∀ {l m : List Rf}, Rise l → Rise m → (∀ x, x ∈ l ↔ x ∈ m) → l = m
  | [], [], _, _, _ => rfl
  | [], b :: m, _, _, h => by have := (h b).2 (by simp); cases this
  | a :: l, [], _, _, h => by have := (h a).1 (by simp); cases this
  | a :: l, b :: m, hl, hm, h => by
    have hl' := List.pairwise_cons.1 hl
    have hm' := List.pairwise_cons.1 hm
    have hab : a = b := by
      rcases Rf.tri a b with q | q | q
      · rcases List.mem_cons.1 ((h a).1 (by simp)) with e | e
        · exact e
        · exact absurd (Rf.trans q (hm'.1 a e)) (Rf.irr a)
      · exact q
      · rcases List.mem_cons.1 ((h b).2 (by simp)) with e | e
        · exact e.symm
        · exact absurd (Rf.trans q (hl'.1 b e)) (Rf.irr b)
    subst hab
    rw [Rise.ext hl'.2 hm'.2 (fun x => by
      have hx := h x
      constructor
      · intro hxl
        rcases List.mem_cons.1 (hx.1 (List.mem_cons_of_mem _ hxl)) with e | e
        · subst e; exact absurd (hl'.1 x hxl) (Rf.irr x)
        · exact e
      · intro hxm
        rcases List.mem_cons.1 (hx.2 (List.mem_cons_of_mem _ hxm)) with e | e
        · subst e; exact absurd (hm'.1 x hxm) (Rf.irr x)
        · exact e)]

open Classical in
/-- One more, at its place. -/
noncomputable def putF (r : Rf) : List Rf → List Rf
  | [] => [r]
  | x :: l => if x.lt r then x :: putF r l else if x = r then x :: l else r :: x :: l
theorem putF_mem {r x : Rf} : ∀ {l : List Rf}, x ∈ putF r l ↔ x = r ∨ x ∈ l
  | [] => by simp [putF]
  | y :: l => by
    unfold putF
    by_cases h : y.lt r
    · rw [if_pos h, List.mem_cons, putF_mem, List.mem_cons]
      constructor
      · rintro (h | h | h)
        · exact .inr (.inl h)
        · exact .inl h
        · exact .inr (.inr h)
      · rintro (h | h | h)
        · exact .inr (.inl h)
        · exact .inl h
        · exact .inr (.inr h)
    · rw [if_neg h]
      by_cases e : y = r
      · rw [if_pos e]
        constructor
        · exact .inr
        · rintro (h | h)
          · rw [h, e]; simp
          · exact h
      · rw [if_neg e, List.mem_cons]
theorem putF_rise {r : Rf} : ∀ {l : List Rf}, Rise l → Rise (putF r l)
  | [], _ => by unfold putF; exact List.pairwise_singleton _ _
  | y :: l, h => by
    have h' := List.pairwise_cons.1 h
    unfold putF
    by_cases hy : y.lt r
    · rw [if_pos hy]
      refine List.pairwise_cons.2 ⟨fun x hx => ?_, putF_rise h'.2⟩
      rcases putF_mem.1 hx with e | e
      · rw [e]; exact hy
      · exact h'.1 x e
    · rw [if_neg hy]
      by_cases e : y = r
      · rw [if_pos e]; exact h
      · rw [if_neg e]
        have hr : r.lt y := by
          rcases Rf.tri y r with q | q | q
          · exact absurd q hy
          · exact absurd q e
          · exact q
        refine List.pairwise_cons.2 ⟨fun x hx => ?_, h⟩
        rcases List.mem_cons.1 hx with e2 | e2
        · rw [e2]; exact hr
        · exact Rf.trans hr (h'.1 x e2)
theorem putF_all {r : Rf} : ∀ {xs ys : List Rf}, (∀ x ∈ xs, x.lt r) → putF r (xs ++ ys) = xs ++ putF r ys
  | [], _, _ => rfl
  | x :: xs, ys, h => by
    show putF r (x :: (xs ++ ys)) = x :: (xs ++ putF r ys)
    rw [putF, if_pos (h x (by simp)), putF_all (fun y hy => h y (List.mem_cons_of_mem _ hy))]
theorem putF_in {r : Rf} : ∀ {xs ys : List Rf}, (∃ x ∈ xs, ¬ x.lt r) → putF r (xs ++ ys) = putF r xs ++ ys
  | [], _, h => by obtain ⟨x, hx, _⟩ := h; cases hx
  | x :: xs, ys, h => by
    show putF r (x :: (xs ++ ys)) = putF r (x :: xs) ++ ys
    by_cases hx : x.lt r
    · rw [putF, if_pos hx, putF, if_pos hx, putF_in (xs := xs) (ys := ys) (by
        obtain ⟨y, hy, hn⟩ := h
        rcases List.mem_cons.1 hy with e | e
        · rw [e] at hn; exact absurd hx hn
        · exact ⟨y, e, hn⟩)]
      rfl
    · by_cases e : x = r
      · rw [putF, if_neg hx, if_pos e, putF, if_neg hx, if_pos e]; rfl
      · rw [putF, if_neg hx, if_neg e, putF, if_neg hx, if_neg e]; rfl
/-- All of some, put one after the other. -/
noncomputable def putL (acc : List Rf) (l : List Rf) : List Rf := l.foldl (fun a r => putF r a) acc
theorem putL_mem {x : Rf} : ∀ {l acc : List Rf}, x ∈ putL acc l ↔ x ∈ acc ∨ x ∈ l
  | [], acc => by simp [putL]
  | r :: l, acc => by
    have h := putL_mem (x := x) (l := l) (acc := putF r acc)
    show x ∈ putL (putF r acc) l ↔ _
    rw [h, putF_mem, List.mem_cons]
    constructor
    · rintro ((h | h) | h)
      · exact .inr (.inl h)
      · exact .inl h
      · exact .inr (.inr h)
    · rintro (h | h | h)
      · exact .inl (.inr h)
      · exact .inl (.inl h)
      · exact .inr h
theorem putL_rise : ∀ {l acc : List Rf}, Rise acc → Rise (putL acc l)
  | [], _, h => h
  | _ :: l, _, h => putL_rise (l := l) (putF_rise h)

open Classical in
/-- Equal neighbours struck. -/
noncomputable def compF : List Rf → List Rf
  | [] => []
  | [a] => [a]
  | a :: b :: l => if a = b then compF (b :: l) else a :: compF (b :: l)
theorem compF_mem {x : Rf} : ∀ {l : List Rf}, x ∈ compF l ↔ x ∈ l
  | [] => by simp [compF]
  | [a] => by simp [compF]
  | a :: b :: l => by
    unfold compF
    by_cases h : a = b
    · rw [if_pos h, compF_mem, h]; simp
    · rw [if_neg h, List.mem_cons, compF_mem]; simp
/-- It does not fall. -/
def Wax (l : List Rf) : Prop := l.Pairwise fun a b => ¬ b.lt a
theorem compF_rise : ∀ {l : List Rf}, Wax l → Rise (compF l)
  | [], _ => by unfold compF; exact List.Pairwise.nil
  | [a], _ => by unfold compF; exact List.pairwise_singleton _ _
  | a :: b :: l, h => by
    have h' := List.pairwise_cons.1 h
    unfold compF
    by_cases e : a = b
    · rw [if_pos e]; exact compF_rise h'.2
    · rw [if_neg e]
      refine List.pairwise_cons.2 ⟨fun x hx => ?_, compF_rise h'.2⟩
      have hx2 := compF_mem.1 hx
      have hab : a.lt b := by
        rcases Rf.tri a b with q | q | q
        · exact q
        · exact absurd q e
        · exact absurd q (h'.1 b (by simp))
      have h2 := List.pairwise_cons.1 h'.2
      rcases List.mem_cons.1 hx2 with e2 | e2
      · rw [e2]; exact hab
      · rcases Rf.tri b x with q | q | q
        · exact Rf.trans hab q
        · rw [← q]; exact hab
        · exact absurd q (h2.1 x e2)
/-- Whatever list is sorted and struck: it is what is put one after the other. -/
theorem comp_put {l d : List Rf} (hw : Wax d) (hm : ∀ x, x ∈ d ↔ x ∈ l) : compF d = putL [] l :=
  Rise.ext (compF_rise hw) (putL_rise Rise.nil) (fun x => by rw [compF_mem, hm, putL_mem]; simp)

end Go.Proofs.YthdjinicmnhgpaaGreat
