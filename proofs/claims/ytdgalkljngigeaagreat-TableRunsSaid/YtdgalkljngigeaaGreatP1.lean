/-
Small general laws: stores of floats and complex numbers; worlds that only grow.
-/
import Derived.Test.YtdgalkljngigeaaGreatRows
import Derived.WalkKit
import Derived.WalkSpells
import Derived.WalkLawsBesides
import Derived.Laws.EntriesVeiled
import Derived.Laws.ComplexArith
import Derived.Deep.QuietTactic
import Derived.BigQuiet
import Derived.Deep.RegionHeld3
import Derived.Deep.RegionWith
import Derived.StillTailTactics
import Derived.Deep.LoopGhost
import Derived.Deep.DeepCutAuto
import Derived.OrdersHeld
import Derived.StillTail
import Derived.Deep.AppendLies
namespace Go.Proofs.YtdgalkljngigeaaGreat
open Go.RowKit
section
variable {P : Program} (w : World) (a : Addr) (m : Mode)
@[go_sem] theorem run_store_complex (k : FloatKind) (x y : Nat) : (store a (.complex k x y) m).run P w = stored P w a (.complex k x y) m := run_store P w a _ m rfl
@[go_sem] theorem run_store_float (k : FloatKind) (x : Nat) : (store a (.float k x) m).run P w = stored P w a (.float k x) m := run_store P w a _ m rfl
end

/-- A fact behind a name: the walk's simp does not look there. -/
theorem Hid.mk' {p : Prop} (h : p) : Hid p := h

/-- The world has grown; what there was is as it was. -/
def Ext (w w' : World) : Prop := Below w.heap.size w w'
theorem Ext.refl (w : World) : Ext w w := Below.refl _ _
theorem Ext.alloc {w w1 : World} (h : Ext w w1) (o : Obj) : Ext w (w1.alloc o) := Below.alloc h h.size o
theorem Ext.drew {w w1 : World} (h : Ext w w1) : Ext w w1.drew := Below.drew h
theorem Ext.drewN {w w1 : World} (h : Ext w w1) (n : Nat) : Ext w (w1.drewN n) := ⟨h.os, h.tape, h.output, h.size, h.block⟩
theorem Ext.trans {w w1 w2 : World} (h : Ext w w1) (k : Ext w1 w2) : Ext w w2 := Below.trans h (Below.mono k h.size)
theorem Ext.size {w w1 : World} (h : Ext w w1) : w.heap.size ≤ w1.heap.size := Below.size h
theorem Ext.cells {W w1 : World} (hb : Ext W w1) : (∀ b o, b < W.heap.size → w1.cell? ⟨b, o, none⟩ = W.cell? ⟨b, o, none⟩) ∧ (∀ b o, b < W.heap.size → w1.frozen? ⟨b, o, none⟩ = W.frozen? ⟨b, o, none⟩) :=
  ⟨fun b o h => Below.cell hb (p := ⟨b, o, none⟩) h, fun b o h => Below.frozen hb (p := ⟨b, o, none⟩) h⟩
theorem held_of {W w1 : World} (h : Ext W w1) : Ext W w1 ∧ (∀ b o, b < W.heap.size → w1.cell? ⟨b, o, none⟩ = W.cell? ⟨b, o, none⟩) ∧ (∀ b o, b < W.heap.size → w1.frozen? ⟨b, o, none⟩ = W.frozen? ⟨b, o, none⟩) := ⟨h, h.cells⟩
theorem held_left {W w1 : World} {q : Prop} (h : Ext W w1 ∧ q) : Ext W w1 := h.1
theorem Ext.setCell {w w1 : World} (h : Ext w w1) {p : Addr} (hp : w.heap.size ≤ p.block) (u : Value) : Ext w (w1.setCell p u) := Below.setCell h hp u

/-- A world that has grown, shown by what is at hand. -/
theorem eX {w w' : World} (h : Ext w w' := by repeat (with_reducible (first | exact Ext.refl _ | assumption | exact held_left (by assumption) | apply Ext.drewN | apply Ext.drew | apply Ext.alloc | (refine Ext.setCell ?_ (by first | (simp; done) | (simp; omega) | omega) _) | (refine Ext.trans ?_ (by assumption)) | (refine Ext.trans ?_ (held_left (by assumption)))))) : Ext w w' := h

theorem ret_int {k : IntKind} {a b : Int} (h : a = b) : Ending.returned (.int k a) = .returned (.int k b) := by rw [h]
theorem ret_bool {a b : Bool} (h : a = b) : Ending.returned (.bool a) = .returned (.bool b) := by rw [h]
theorem isEmpty_size (s : ByteArray) : s.toList.isEmpty = decide (s.size = 0) := by
  have h : s.size = s.data.toList.length := by simp only [Array.length_toList]; rfl
  rw [ByteArray.toList_eq, h]
  cases s.data.toList <;> simp

/-- A block that is known whole; no cell of it is frozen. -/
def Blk (w : World) (b : Nat) (cs : Array Value) (t : TypeId) : Prop := w.heap[b]? = some (.cells cs t (0, 0))
theorem Blk.lt {w : World} {b : Nat} {cs : Array Value} {t : TypeId} (h : Blk w b cs t) : b < w.heap.size := by
  rcases Nat.lt_or_ge b w.heap.size with h1 | h1
  · exact h1
  · unfold Blk at h; rw [Array.getElem?_eq_none h1] at h; cases h
theorem Blk.cell {w : World} {b : Nat} {cs : Array Value} {t : TypeId} (h : Blk w b cs t) : ∀ o, w.cell? ⟨b, o, none⟩ = cs[o]? := by
  intro o; unfold World.cell?; unfold Blk at h; simp only [h]; rfl
theorem Blk.frozen {w : World} {b : Nat} {cs : Array Value} {t : TypeId} (h : Blk w b cs t) : ∀ o, w.frozen? ⟨b, o, none⟩ = false := by
  intro o; unfold World.frozen?; unfold Blk at h; simp only [h]; simp
theorem Blk.ext {w w1 : World} {b : Nat} {cs : Array Value} {t : TypeId} (h : Blk w b cs t) (he : Ext w w1) : Blk w1 b cs t := (he.block b h.lt).trans h
theorem Blk.alloc {w : World} {b : Nat} {cs : Array Value} {t : TypeId} (h : Blk w b cs t) (o : Obj) : Blk (w.alloc o) b cs t := h.ext ((Ext.refl w).alloc o)
theorem Blk.drew {w : World} {b : Nat} {cs : Array Value} {t : TypeId} (h : Blk w b cs t) : Blk w.drew b cs t := h
theorem Blk.drewN {w : World} {b : Nat} {cs : Array Value} {t : TypeId} (h : Blk w b cs t) (n : Nat) : Blk (w.drewN n) b cs t := h
theorem Blk.new (w : World) (cs : Array Value) (t : TypeId) : Blk (w.alloc (.cells cs t)) w.heap.size cs t := by
  show (w.heap.push _)[w.heap.size]? = _
  simp
theorem Blk.new' {w : World} {b : Nat} (cs : Array Value) (t : TypeId) (h : b = w.heap.size) : Blk (w.alloc (.cells cs t)) b cs t := h ▸ Blk.new w cs t
theorem Blk.set {w : World} {b : Nat} {cs : Array Value} {t : TypeId} (h : Blk w b cs t) (i : Nat) (v : Value) : Blk (w.setCell ⟨b, i, none⟩ v) b (cs.setIfInBounds i v) t := by
  unfold Blk at *
  simp only [World.setCell, Array.getElem?_modify, h, if_true, Option.map_some]
  rfl
theorem Blk.other {w : World} {b : Nat} {cs : Array Value} {t : TypeId} (h : Blk w b cs t) (a : Addr) (v : Value) (hne : b ≠ a.block) : Blk (w.setCell a v) b cs t :=
  (Below.heap_setCell w a v b hne).trans h

/-- The slice v has the elements xss, each of k cells. -/
def Sl (w : World) (v : Value) (k : Nat) (xss : List (List Value)) : Prop :=
  ∃ a cap, v = .slice a xss.length cap ∧ (xss = [] ∨ ∃ b o, a = some ⟨b, o, none⟩ ∧ b < w.heap.size ∧ ∀ i, i < xss.length → ∀ j, j < k → w.cell? ⟨b, o + i * k + j, none⟩ = (xss.getD i [])[j]?)
theorem Sl.ext {w w1 : World} {v : Value} {k : Nat} {xss : List (List Value)} (h : Sl w v k xss) (he : Ext w w1) : Sl w1 v k xss := by
  obtain ⟨a, cap, rfl, h⟩ := h
  refine ⟨a, cap, rfl, ?_⟩
  rcases h with h | ⟨b, o, rfl, hb, hc⟩
  · exact .inl h
  · exact .inr ⟨b, o, rfl, Nat.lt_of_lt_of_le hb he.size, fun i hi j hj => (he.cells.1 b _ hb).trans (hc i hi j hj)⟩

end Go.Proofs.YtdgalkljngigeaaGreat

/-
Rows that a call makes itself, and slices as lists of elements.
-/
namespace Go.Proofs.YtdgalkljngigeaaGreat
open Go.RowKit

theorem cells_new (w : World) (cs : Array Value) (t : TypeId) : ∀ j u, cs.toList[j]? = some u → (w.alloc (.cells cs t)).cell? ((⟨w.heap.size, 0, none⟩ : Addr).add j) = some u := by
  intro j u h
  have e : (⟨w.heap.size, 0, none⟩ : Addr).add j = ⟨w.heap.size, j, none⟩ := by
    unfold Addr.add; split
    · rename_i h0; subst h0; rfl
    · simp
  rw [e, (Blk.new w cs t).cell j]
  simpa using h

theorem Ext.grown {w w1 w2 : World} (h : Ext w w1) {e : TypeId} {size n : Nat} {v : Value} {xs : List Value} (ho : w1.ownsRow w.heap.size e size v n xs) (hg : w1.grownBy w2 v.ownBlock) : Ext w w2 :=
  Below.grown h hg h.size fun k hk => (ho.lt k hk).1

theorem owns_ext {w w1 : World} {base : Nat} {e : TypeId} {size n : Nat} {v : Value} {xs : List Value} (h : w.ownsRow base e size v n xs) (he : Ext w w1) : w1.ownsRow base e size v n xs := by
  obtain ⟨h1, h2⟩ := h
  refine ⟨h1, ?_⟩
  rcases h2 with h2 | ⟨g, cap, cur, hv, hg, hh, hr⟩
  · exact .inl h2
  · exact .inr ⟨g, cap, cur, hv, hg, Blk.ext (b := g) hh he, hr⟩

theorem flat_get {α : Type} (k : Nat) : ∀ (xss : List (List α)), (∀ xs ∈ xss, xs.length = k) → ∀ i, i < xss.length → ∀ j, j < k → xss.flatten[i * k + j]? = (xss.getD i [])[j]? := by
  intro xss
  induction xss with
  | nil => intro _ i hi; simp at hi
  | cons x xss ih =>
    intro h i hi j hj
    have hx : x.length = k := h x (by simp)
    rw [List.flatten_cons]
    cases i with
    | zero => rw [List.getElem?_append_left (by omega)]; simp
    | succ i =>
      have e : (i + 1) * k + j = x.length + (i * k + j) := by rw [hx, Nat.succ_mul]; omega
      rw [e, List.getElem?_append_right (by omega), Nat.add_sub_cancel_left]
      have := ih (fun xs hxs => h xs (by simp [hxs])) i (by simpa using hi) j hj
      rw [this]; simp

theorem flat_length {α : Type} (k : Nat) (xss : List (List α)) (h : ∀ xs ∈ xss, xs.length = k) : xss.flatten.length = xss.length * k := by
  induction xss with
  | nil => simp
  | cons x xss ih =>
    have := ih (fun xs hxs => h xs (by simp [hxs]))
    have hx : x.length = k := h x (by simp)
    simp only [List.flatten_cons, List.length_append, List.length_cons, this, hx, Nat.succ_mul]; omega

/-- What a call owns reads as a slice. -/
theorem Sl.of_owns {w : World} {base : Nat} {e : TypeId} {k : Nat} {v : Value} {xss : List (List Value)} (ho : w.ownsRow base e k v xss.length xss.flatten) (hk : ∀ xs ∈ xss, xs.length = k) : Sl w v k xss := by
  obtain ⟨h1, h2⟩ := ho
  rcases h2 with ⟨rfl, h0⟩ | ⟨g, cap, cur, rfl, hg, hh, hn, hcap, hsz, htake⟩
  · exact ⟨none, 0, by rw [h0], .inl (List.length_eq_zero_iff.1 h0)⟩
  · refine ⟨_, cap, rfl, .inr ⟨g, 0, rfl, Blk.lt (b := g) hh, ?_⟩⟩
    intro i hi j hj
    have hb : Blk w g cur e := hh
    rw [hb.cell, ← flat_get k xss hk i hi j hj, ← htake, List.getElem?_take]
    have hlt : i * k + j < xss.length * k := by
      have : (i + 1) * k ≤ xss.length * k := Nat.mul_le_mul_right k (by omega)
      rw [Nat.succ_mul] at this; omega
    rw [if_pos hlt]
    simp

/-- A literal's block reads as a slice. -/
theorem Sl.new (w : World) (cs : Array Value) (t : TypeId) (k n c : Nat) (xss : List (List Value)) (h1 : cs.toList = xss.flatten) (h2 : ∀ xs ∈ xss, xs.length = k) (h3 : n = xss.length) :
    Sl (w.alloc (.cells cs t)) (.slice (some ⟨w.heap.size, 0, none⟩) n c) k xss := by
  subst h3
  refine ⟨_, c, rfl, .inr ⟨w.heap.size, 0, rfl, (Blk.new w cs t).lt, ?_⟩⟩
  intro i hi j hj
  rw [(Blk.new w cs t).cell, ← flat_get k xss h2 i hi j hj, ← h1]
  simp

theorem Sl.shape {w : World} {v : Value} {k n : Nat} {xss : List (List Value)} (h : Sl w v k xss) (hn : xss.length = n) :
    ∃ a cap, v = .slice a n cap ∧ (n = 0 ∨ ∃ b o, a = some ⟨b, o, none⟩ ∧ b < w.heap.size ∧ ∀ i, i < n → ∀ j, j < k → w.cell? ⟨b, o + i * k + j, none⟩ = (xss.getD i [])[j]?) := by
  subst hn
  obtain ⟨a, cap, hv, h⟩ := h
  exact ⟨a, cap, hv, h.imp (fun e => by rw [e]; rfl) id⟩

/-- A slice of one element. -/
theorem Sl.one {w : World} {v : Value} {k : Nat} {xs : List Value} (h : Sl w v k [xs]) : ∃ b q cap, v = .slice (some ⟨b, q, none⟩) 1 cap ∧ b < w.heap.size ∧ ∀ j, j < k → w.cell? ⟨b, q + j, none⟩ = xs[j]? := by
  obtain ⟨a, cap, rfl, h⟩ := h
  rcases h with h | ⟨b, q, rfl, hb, hc⟩
  · cases h
  · refine ⟨b, q, cap, rfl, hb, fun j hj => ?_⟩
    have := hc 0 (by simp) j hj
    simpa using this

end Go.Proofs.YtdgalkljngigeaaGreat

/-
Relations in plain words: names, columns, the first of several errors, what is wrong with a relation; slices read at an index.
-/
namespace Go.Proofs.YtdgalkljngigeaaGreat
open Go.RowKit

/-- A slice's element, at an index. -/
theorem Sl.at_ {w : World} {a : Option Addr} {n cap k : Nat} {xss : List (List Value)} (h : Sl w (.slice a n cap) k xss) {i : Nat} (hi : i < xss.length) :
    ∃ b o, a = some ⟨b, o, none⟩ ∧ b < w.heap.size ∧ ∀ j, j < k → w.cell? ⟨b, o + i * k + j, none⟩ = (xss.getD i [])[j]? := by
  obtain ⟨a', cap', hv, hs⟩ := h
  simp only [Value.slice.injEq] at hv
  obtain ⟨rfl, -, -⟩ := hv
  rcases hs with rfl | ⟨b, o, rfl, hb, hc⟩
  · simp at hi
  · exact ⟨b, o, rfl, hb, hc i hi⟩
theorem getD_map {α β : Type} (f : α → List β) (l : List α) {i : Nat} (hi : i < l.length) : (l.map f).getD i [] = f l[i] := by simp [hi]

structure Col where
  nm : ByteArray
  ty : Int
  key : Bool
def Col.cells (c : Col) : List Value := [.string c.nm, .int .u8 c.ty, .bool c.key]
theorem Col.at_ {w wr : World} {b o : Nat} {l : List Col} {k : Nat} (hk : k < l.length) (hc : ∀ j, j < 3 → w.cell? ⟨b, o + k * 3 + j, none⟩ = ((l.map Col.cells).getD k [])[j]?) (hb : b < w.heap.size) (hE : Ext w wr) :
    wr.cell? ⟨b, o + k * 3, none⟩ = some (.string l[k].nm) ∧ wr.cell? ⟨b, o + k * 3 + 1, none⟩ = some (.int .u8 l[k].ty) ∧ wr.cell? ⟨b, o + k * 3 + 2, none⟩ = some (.bool l[k].key) := by
  rw [getD_map Col.cells l hk] at hc
  have c := hE.cells.1 b
  exact ⟨(c _ hb).trans (hc 0 (by omega)), (c _ hb).trans (hc 1 (by omega)), (c _ hb).trans (hc 2 (by omega))⟩

/-- A relation. -/
structure Rl where
  oid : Int
  ver : Int
  nm : ByteArray
  id : Int
  cols : List Col
def Rl.arr (r : Rl) (v : Value) : Array Value := #[.int .u32 r.oid, .int .u32 r.ver, .string r.nm, .int .u8 r.id, v]

/-- The first error of n. -/
def firstE (f : Nat → Int) : Nat → Int
  | 0 => 0
  | n + 1 => if firstE f n ≠ 0 then firstE f n else f n
theorem firstE_zero {f : Nat → Int} {n : Nat} (h : ∀ i, i < n → f i = 0) : firstE f n = 0 := by
  induction n with
  | zero => rfl
  | succ n ih =>
    have h1 := ih (fun i hi => h i (by omega))
    unfold firstE
    rw [h1, if_neg (by simp)]
    exact h n (by omega)
theorem firstE_all {f : Nat → Int} {n : Nat} (h : firstE f n = 0) : ∀ i, i < n → f i = 0 := by
  induction n with
  | zero => intro i hi; omega
  | succ n ih =>
    unfold firstE at h
    by_cases h1 : firstE f n = 0
    · rw [if_neg (by simpa using h1)] at h
      intro i hi
      by_cases e : i = n
      · subst e; exact h
      · exact ih h1 i (by omega)
    · rw [if_pos h1] at h; exact absurd h h1
theorem firstE_at {f : Nat → Int} {n k : Nat} (h : ∀ i, i < k → f i = 0) (hk : k < n) (h0 : f k ≠ 0) : firstE f n = f k := by
  induction n with
  | zero => omega
  | succ n ih =>
    unfold firstE
    by_cases e : k = n
    · subst e
      rw [if_neg (by rw [firstE_zero h]; simp)]
    · have := ih (by omega)
      rw [if_pos (by rw [this]; exact h0), this]
theorem firstE_congr {f g : Nat → Int} {n : Nat} (h : ∀ i, i < n → f i = g i) : firstE f n = firstE g n := by
  induction n with
  | zero => rfl
  | succ n ih =>
    unfold firstE
    rw [ih (fun i hi => h i (by omega)), h n (by omega)]
theorem firstE_get {f : Nat → Int} {n : Nat} (h : firstE f n ≠ 0) : ∃ k, k < n ∧ (∀ i, i < k → f i = 0) ∧ firstE f n = f k := by
  induction n with
  | zero => exact absurd rfl h
  | succ n ih =>
    unfold firstE at h ⊢
    by_cases h1 : firstE f n = 0
    · rw [if_neg (by simpa using h1)]
      exact ⟨n, by omega, firstE_all h1, rfl⟩
    · rw [if_pos h1]
      obtain ⟨k, hk, h2, h3⟩ := ih h1
      exact ⟨k, by omega, h2, h3⟩

/-- A byte of a text. -/
def chr (s : ByteArray) (i : Nat) : Int := if h : i < s.size then (s[i].toNat : Int) else 0
theorem chr_lt {s : ByteArray} {i : Nat} (h : i < s.size) : chr s i = (s[i].toNat : Int) := by unfold chr; rw [dif_pos h]
def nameAt (s : ByteArray) (i : Nat) : Bool := decide ((97 ≤ chr s i ∧ chr s i ≤ 122) ∨ (0 < i ∧ ((48 ≤ chr s i ∧ chr s i ≤ 57) ∨ chr s i = 95)))
/-- Is it a name? -/
def namedB (s : ByteArray) : Bool := decide (1 ≤ s.size ∧ s.size ≤ 31) && (List.range s.size).all (nameAt s)
theorem named_no {s : ByteArray} {k : Nat} (hk : k < s.size) (h : nameAt s k = false) : namedB s = false := by
  unfold namedB
  rw [Bool.and_eq_false_iff]
  right
  rw [List.all_eq_false]
  exact ⟨k, List.mem_range.2 hk, by simp [h]⟩
theorem named_yes {s : ByteArray} (h : ∀ j, j < s.size → nameAt s j = true) : namedB s = decide (1 ≤ s.size ∧ s.size ≤ 31) := by
  unfold namedB
  have : (List.range s.size).all (nameAt s) = true := List.all_eq_true.2 fun x hx => h x (List.mem_range.1 hx)
  rw [this, Bool.and_true]
theorem named_len {s : ByteArray} (h : ¬ (1 ≤ s.size ∧ s.size ≤ 31)) : namedB s = false := by
  unfold namedB; rw [decide_eq_false h]; rfl
theorem name_cases {s : ByteArray} {k : Nat} (h : k < s.size) :
    (nameAt s k = true ∧ ((97 ≤ (s[k].toNat : Int) ∧ (s[k].toNat : Int) ≤ 122) ∨ (0 < k ∧ 48 ≤ (s[k].toNat : Int) ∧ (s[k].toNat : Int) ≤ 57) ∨ (0 < k ∧ (s[k].toNat : Int) = 95))) ∨
    (nameAt s k = false ∧ ((k = 0 ∧ (s[k].toNat : Int) < 97) ∨ (k = 0 ∧ 122 < (s[k].toNat : Int)) ∨ (0 < k ∧ (s[k].toNat : Int) < 48) ∨ (0 < k ∧ 57 < (s[k].toNat : Int) ∧ (s[k].toNat : Int) < 95) ∨ (0 < k ∧ 95 < (s[k].toNat : Int) ∧ (s[k].toNat : Int) < 97) ∨ (0 < k ∧ 122 < (s[k].toNat : Int)))) := by
  unfold nameAt
  rw [decide_eq_true_iff, decide_eq_false_iff_not, chr_lt h]
  omega

/-- What is wrong with a column, behind some others. -/
def colE (c : Col) (ahead : List Col) : Int := if namedB c.nm = false then 3 else if ahead.any (fun o => decide (o.nm = c.nm)) = true then 9 else if c.ty < 1 ∨ 6 < c.ty then 11 else 0
def colAt (cols : List Col) (i : Nat) : Int := if h : i < cols.length then colE cols[i] (cols.take i) else 0
theorem colAt_lt {cols : List Col} {i : Nat} (h : i < cols.length) : colAt cols i = colE cols[i] (cols.take i) := by unfold colAt; rw [dif_pos h]
/-- What is wrong with a relation. -/
def Rl.right (r : Rl) : Int :=
  if r.oid = 0 ∨ r.ver = 0 then 4 else if namedB r.nm = false then 3 else if 2 < r.id then 7 else if r.cols.length < 1 ∨ 16 < r.cols.length then 17
  else if firstE (colAt r.cols) r.cols.length ≠ 0 then firstE (colAt r.cols) r.cols.length
  else if r.id = 1 ∧ r.cols.any Col.key = false then 13 else 0

structure Rl.wf (r : Rl) : Prop where
  nm : r.nm.size ≤ 9223372036854775807
  cols : ∀ c ∈ r.cols, c.nm.size ≤ 9223372036854775807

end Go.Proofs.YtdgalkljngigeaaGreat

/-
A region that draws its order and ends in operations that wait for all others: its head is walked in the order of the text, under a condition that holds till the tail begins; the tail is walked as a plain region.
-/
namespace Go.Proofs.YtdgalkljngigeaaGreat
open Go.RowKit

section
variable {P : Program} {ops : Array Oper} {Q : Exit → Act → World → Prop} {md : Region.Mode} {S : World → Prop}

def wpHd (P : Program) (md : Region.Mode) (ops : Array Oper) (Q : Exit → Act → World → Prop) (S : World → Prop) (n : Nat) : Nat → Array Bool → Act → World → Prop
  | 0, listed, a, w => Region.seqB md ops (ops.size - n) n listed = true ∧ wpList P ops Q (ops.toList.drop n) a w
  | f + 1, listed, a, w => Region.ready md ops listed ≠ [] ∧ ∀ i ∈ Region.ready md ops listed, i < n ∧ wpOp P ops Q i (fun a' w' => S w' ∧ wpHd P md ops Q S n f (listed.setIfInBounds i true) a' w') a w

theorem wpAny_of_hd {n : Nat} : ∀ (f : Nat) (listed : Array Bool) (a : Act) (w : World), wpHd P md ops Q S n f listed a w → wpAny P md ops Q (f + (ops.size - n)) listed a w
  | 0, listed, a, w, h => by
    rw [Nat.zero_add]
    obtain ⟨hB, h⟩ := h
    have hl : (ops.toList.drop n).length = ops.size - n := by simp
    have := wpAny_of_seq (P := P) (md := md) (ops := ops) (Q' := Q) (ops.toList.drop n) n listed a w (fun j => by rw [List.getElem?_drop, Array.getElem?_toList]) (by rw [hl]; exact hB) h
    rw [hl] at this
    exact this
  | f + 1, listed, a, w, h => by
    rw [show f + 1 + (ops.size - n) = (f + (ops.size - n)) + 1 by omega]
    exact ⟨fun h0 => absurd h0 h.1, fun i hi => wpOp_mono (fun a' w' h' => wpAny_of_hd f _ a' w' h'.2) (h.2 i hi).2⟩

theorem wpHd_first {n i : Nat} {oi : Oper} {v : Value} (hi : ops[i]? = some oi) (hsel : ∀ (j : Nat) (o : Oper) cs b, ops[j]? = some o → o.op ≠ .select cs b)
    (hs : Region.sinkB md ops n = true) (hc : Region.chainB md ops n = true) (hn : n < ops.size) (hin : i < n)
    (hQ : ∀ c a w, Q (.panic c) (a.put oi.dst v) w → Q (.panic c) a w) :
    ∀ (f : Nat) (listed : Array Bool) (a : Act) (w : World), HeadInv md ops n listed →
      (∀ j oj, ops[j]? = some oj → j ≠ i → listed.getD j true = false → (∀ e ∈ oj.after, Region.binds md e = true → e.on ≠ i) → oi.apart ops oj = true) →
      i ∈ Region.ready md ops listed → YieldsIf P ops S oi v a → S w →
      wpHd P md ops Q S n f (listed.setIfInBounds i true) (a.put oi.dst v) w → wpHd P md ops Q S n (f + 1) listed a w := by
  intro f
  induction f with
  | zero =>
    intro listed a w inv _ hr hy hS H
    have hun := (mem_ready.1 hr).1
    refine ⟨fun h => (by rw [h] at hr; cases hr), fun j hj => ?_⟩
    have hjn : j < n := by
      rcases Nat.lt_or_ge j n with h | h
      · exact h
      · exact absurd hj (tail_waits hs hc hn inv _ i rfl hin hun j h)
    refine ⟨hjn, ?_⟩
    by_cases hji : j = i
    · subst hji; exact hy.wpOp hi hS ⟨hS, H⟩
    · have := seqB_ready H.1 j (ready_mono hj hji)
      omega
  | succ f ih =>
    intro listed a w inv hfree hr hy hS H
    have hun := (mem_ready.1 hr).1
    refine ⟨fun h => (by rw [h] at hr; cases hr), fun j hj => ?_⟩
    have hjn : j < n := by
      rcases Nat.lt_or_ge j n with h | h
      · exact h
      · exact absurd hj (tail_waits hs hc hn inv _ i rfl hin hun j h)
    refine ⟨hjn, ?_⟩
    by_cases hji : j = i
    · subst hji; exact hy.wpOp hi hS ⟨hS, H⟩
    · have h1 := (H.2 j (ready_mono hj hji)).2
      obtain ⟨hjun, oj, hoj, hall⟩ := mem_ready.1 hj
      have hnot : ∀ e ∈ oj.after, Region.binds md e = true → e.on ≠ i := fun e he hb heq => by
        have h1 := hall e he hb
        rw [heq, getD_both hun] at h1
        cases h1
      have h2 := wpOp_putIf hoj (hfree j oj hoj hji hjun hnot) (fun cs b => hsel i oi cs b hi) (fun cs b => hsel j oj cs b hoj) hQ hy h1
      have hfree' : ∀ k ok, ops[k]? = some ok → k ≠ i → (listed.setIfInBounds j true).getD k true = false →
          (∀ e ∈ ok.after, Region.binds md e = true → e.on ≠ i) → oi.apart ops ok = true := fun k ok hk hki hun hno => by
        refine hfree k ok hk hki ?_ hno
        by_cases hjk : j = k
        · subst hjk; exact hjun
        · rw [getD_set_ne true hjk] at hun; exact hun
      refine wpOp_mono (fun a' w' h3 => ⟨h3.2.1, ih (listed.setIfInBounds j true) a' w' (inv.set hj hjn) hfree' (ready_mono hr (Ne.symm hji)) h3.1 h3.2.1 ?_⟩) h2
      rw [Array.setIfInBounds_comm _ _ hji]
      exact h3.2.2

def headB (md : Region.Mode) (ops : Array Oper) (n : Nat) (listed : Array Bool) : Bool :=
  decide (listed.size = ops.size) && decide (n < ops.size) && Region.noSelect ops && Region.sinkB md ops n && Region.chainB md ops n &&
  ((List.range ops.size).all fun j => !(listed.getD j false) || ((ops[j]?).map (·.after.all fun e => !Region.binds md e || listed.getD e.on false)).getD true) &&
  ((List.range ops.size).all fun t => decide (t < n) || !(listed.getD t true))

theorem headB_spec {n : Nat} {listed : Array Bool} (h : headB md ops n listed = true) :
    n < ops.size ∧ Region.noSelect ops = true ∧ Region.sinkB md ops n = true ∧ Region.chainB md ops n = true ∧ HeadInv md ops n listed := by
  unfold headB at h
  simp only [Bool.and_eq_true, decide_eq_true_eq] at h
  obtain ⟨⟨⟨⟨⟨⟨h1, h2⟩, h3⟩, h4⟩, h5⟩, h6⟩, h7⟩ := h
  refine ⟨h2, h3, h4, h5, h1, ?_, ?_⟩
  · intro j oj hj hl e he hb
    have hjl : j < ops.size := (Array.getElem?_eq_some_iff.1 hj).1
    have := List.all_eq_true.1 h6 j (List.mem_range.2 hjl)
    rw [hl, hj] at this
    simp only [Bool.not_true, Bool.false_or, Option.map_some, Option.getD_some] at this
    have h8 := Array.all_eq_true'.1 this e he
    rw [hb] at h8
    simpa using h8
  · intro t ht htl
    have := List.all_eq_true.1 h7 t (List.mem_range.2 htl)
    rw [decide_eq_false (by omega)] at this
    simpa using this

/-- Number 'i' is taken: it only reads, and in every world that meets S it yields 'v'. -/
theorem wpHd_take {n i : Nat} {oi : Oper} {v : Value} {f : Nat} {listed : Array Bool} {a : Act} {w : World} (hi : ops[i]? = some oi)
    (hB : headB md ops n listed = true) (hf : Region.free md ops listed i = true) (hr : ((Region.ready md ops listed).contains i && decide (i < n)) = true)
    (hQ : ∀ c a w, Q (.panic c) (a.put oi.dst v) w → Q (.panic c) a w) (hy : YieldsIf P ops S oi v a) (hS : S w)
    (h : wpHd P md ops Q S n f (listed.setIfInBounds i true) (a.put oi.dst v) w) : wpHd P md ops Q S n (f + 1) listed a w := by
  obtain ⟨hn, hsel, hs, hc, inv⟩ := headB_spec hB
  simp only [Bool.and_eq_true, decide_eq_true_eq] at hr
  exact wpHd_first hi (Region.noSelect_spec hsel) hs hc hn hr.2 hQ f listed a w inv (Region.free_spec hi hf) (by simpa using hr.1) hy hS h

/-- Number 'i' alone may come up: it is carried out, and S shown anew. -/
theorem wpHd_one {n i : Nat} {o : Oper} {f : Nat} {listed : Array Bool} {a : Act} {w : World} (hi : ops[i]? = some o) (hg : o.guard = none)
    (hr : (decide (Region.ready md ops listed = [i]) && decide (i < n)) = true)
    (h : ∀ K : Act → World → Prop, Hid (∀ a' w', S w' → (S w' → wpHd P md ops Q S n f (listed.setIfInBounds i true) a' w') → K a' w') → o.wp P a w K Q) : wpHd P md ops Q S n (f + 1) listed a w := by
  simp only [Bool.and_eq_true, decide_eq_true_eq] at hr
  refine ⟨by rw [hr.1]; simp, fun j hj => ?_⟩
  rw [hr.1] at hj
  have hji : j = i := by simpa using hj
  subst hji
  refine ⟨hr.2, ?_⟩
  unfold wpOp
  simp only [hi]
  rw [if_pos (by simp [Region.wanted, hg])]
  exact .inl (h _ (fun a' w' hs hk => ⟨hs, hk hs⟩))

/-- The head is done: the tail, as a plain region. -/
theorem wpHd_tail {n : Nat} {listed : Array Bool} {a : Act} {w : World} (hB : Region.seqB md ops (ops.size - n) n listed = true) (h : wpList P ops Q (ops.toList.drop n) a w) : wpHd P md ops Q S n 0 listed a w := ⟨hB, h⟩

/-- The beginning. -/
theorem wp_region_head (n : Nat) (S : World → Prop) {id : Nat} {a : Act} {w : World} (hm : P.follows .mixedOrders = true) (hn : n < ops.size)
    (h : wpHd P .any ops Q S n n (Array.replicate ops.size false) a w.drew) : (Code.region id ops true).wp P Q a w := by
  have h2 := wpAny_of_hd n _ _ _ h
  rw [show n + (ops.size - n) = ops.size by omega] at h2
  exact wp_region_any hm h2
end

/-- Number i is taken first, its slot is d: the rest by autoParams (one short row an operation). -/
theorem HG.on {P : Program} {ops : Array Oper} {Q : Exit → Act → World → Prop} {md : Region.Mode} {S : World → Prop} {n : Nat} (i : Nat) (d : Tmp) {oi : Oper} {v : Value} {f : Nat} {listed : Array Bool} {a : Act} {w : World} (hS : S w)
    (h : wpHd P md ops Q S n f (listed.setIfInBounds i true) (a.put (some d) v) w)
    (hi : ops[i]? = some oi := by rfl) (hd : oi.dst = some d := by rfl)
    (hB : headB md ops n listed = true := by kernel_rfl) (hf : Region.free md ops listed i = true := by kernel_rfl) (hr : ((Region.ready md ops listed).contains i && decide (i < n)) = true := by kernel_rfl)
    (hQ : ∀ c a w, Q (.panic c) (a.put (some d) v) w → Q (.panic c) a w := by exact fun _ _ _ h => h) (hy : YieldsIf P ops S oi v a := by exact Or.inl ⟨by rfl, by (intro w' hS'; (obtain ⟨hEs', hcs', hfs'⟩ := hS'); go_simp; try with_reducible rfl)⟩) : wpHd P md ops Q S n (f + 1) listed a w := by
  subst_vars
  rw [← hd] at h hQ
  exact wpHd_take hi hB hf hr hQ hy hS h

end Go.Proofs.YtdgalkljngigeaaGreat

/-
The laws' Own of a relation.
-/
namespace Go.Proofs.YtdgalkljngigeaaGreat
open Go.RowKit

theorem Blk.grown {w w1 : World} {row : Option Nat} {g : Nat} {cs : Array Value} {t : TypeId} (h : Blk w g cs t) (hg : w.grownBy w1 row) (hne : row ≠ some g) : Blk w1 g cs t :=
  (hg.block g h.lt (fun e => hne e.symm)).trans h
theorem owns_set {w : World} {base : Nat} {e : TypeId} {size n : Nat} {v : Value} {xs : List Value} (h : w.ownsRow base e size v n xs) {p : Addr} (hp : p.block < base) (u : Value) : (w.setCell p u).ownsRow base e size v n xs := by
  obtain ⟨h1, h2⟩ := h
  refine ⟨h1, ?_⟩
  rcases h2 with h2 | ⟨g, cap, cur, hv, hg, hh, hr⟩
  · exact .inl h2
  · exact .inr ⟨g, cap, cur, hv, hg, Blk.other (b := g) hh p u (by omega), hr⟩
theorem owns_ne {w : World} {base g : Nat} {e : TypeId} {size n : Nat} {v : Value} {xs : List Value} (h : w.ownsRow base e size v n xs) (hg : g < base) : v.ownBlock ≠ some g := fun he => by
  have := (h.lt _ he).1; omega

theorem Tryz.infoCol : (Tryz.prog.info? 115).map (fun i => (i.zero, i.size, i.bytes)) = some (some (.agg #[.string ByteArray.empty, .int .u8 0, .bool false]), 3, 24) := by kernel_rfl

theorem flat_snoc {α β : Type} {f : α → List β} {l : List α} {k : Nat} (h : k < l.length) : ((l.map f).take (k + 1)).flatten = ((l.map f).take k).flatten ++ f l[k] := by
  rw [List.take_succ_eq_append_getElem (by simpa using h), List.flatten_append]; simp
theorem owns_cap {w : World} {base : Nat} {e : TypeId} {size n m c : Nat} {a : Option Addr} {xs : List Value} (h : w.ownsRow base e size (.slice a m c) n xs) : m ≤ c := by
  rcases h.2 with ⟨h1, h0⟩ | ⟨g, cap, cur, hv, _, _, hn, _⟩
  · simp at h1; omega
  · simp at hv; omega
theorem owns_shape {w : World} {base : Nat} {e : TypeId} {size n : Nat} {v : Value} {xs : List Value} (h : w.ownsRow base e size v n xs) : ∃ a cap, v = .slice a n cap := by
  rcases h.2 with ⟨rfl, h0⟩ | ⟨g, cap, cur, hv, _⟩
  · exact ⟨none, 0, by rw [h0]⟩
  · exact ⟨_, cap, hv⟩

set_option maxRecDepth 100000 in set_option maxHeartbeats 1600000 in
theorem own8_any (oid ver : Int) (nm : ByteArray) (id : Int) (cols : List Col) (a : Option Addr) (cap : Nat) (w : World) (hl : Sl w (.slice a cols.length cap) 3 (cols.map Col.cells)) (hlen : cols.length ≤ 1000) :
    Calls Tryz.prog 58 #[.agg #[.int .u32 oid, .int .u32 ver, .string nm, .int .u8 id, .slice a cols.length cap]] w fun e w' => ∃ a' cap', e = .returned (.agg #[.int .u32 oid, .int .u32 ver, .string nm, .int .u8 id, .slice a' cols.length cap']) ∧ cols.length ≤ cap' ∧ Sl w' (.slice a' cols.length cap') 3 (cols.map Col.cells) ∧ Ext w w' := by
  have HL := Hid.mk' hl
  clear hl
  obtain ⟨i0, hi, hz0, hz1, hz2⟩ := info_parts Tryz.infoCol
  go_enter Tryz.func58, Tryz.ntmps58
  go_wp2
  go_loopw [4] (fun i wr => ∃ (k : Nat) (v : Value), k ≤ cols.length ∧ i = .int .i64 k ∧ Hid (wr.ownsRow (w.heap.size + 3) 115 3 v k ((cols.map Col.cells).take k).flatten) ∧ Blk wr w.heap.size #[.int .u32 oid, .int .u32 ver, .string nm, .int .u8 id, .slice a cols.length cap] 51 ∧ Blk wr (w.heap.size + 1) #[.int .u32 0, .int .u32 0, .string ⟨#[]⟩, .int .u8 0, .slice none 0 0] 99 ∧ Blk wr (w.heap.size + 1 + 1) #[.int .u32 oid, .int .u32 ver, .string nm, .int .u8 id, v] 99 ∧ Hid (Ext w wr)) (fun i _ => cols.length - (intOf i).toNat)
  case atStart => exact ⟨0, .slice none 0 0, Nat.zero_le _, rfl, World.ownsRow_nil _ _ _ _, ((Blk.new _ _ _).alloc _).alloc _, (Blk.new' _ _ (by simp)).alloc _, Blk.new' _ _ (by simp), Hid.mk' (by exact eX)⟩
  case round =>
    obtain ⟨k, v, hk, rfl, hown, hB0, hB1, hB2, hE⟩ := hrel
    by_cases hlt : k < cols.length
    · obtain ⟨b, o, rfl, hb, hc⟩ := HL.out.at_ (i := k) (by simpa using hlt)
      obtain ⟨f0, f1, f2⟩ := Col.at_ hlt hc hb hE.out
      have hT := Hid.mk' (flat_snoc (f := Col.cells) hlt)
      obtain ⟨c, hcc⟩ : ∃ c, c = cols[k] := ⟨_, rfl⟩
      rw [← hcc] at f0 f1 f2 hT
      have hbw : b < wr.heap.size := Nat.lt_of_lt_of_le hb hE.out.size
      have HC := Hid.mk' hcc
      clear hcc hc
      have g0 := hB0.cell
      have g2 := hB2.cell
      have z0 := hB0.lt
      have z1 := hB1.lt
      have z2 := hB2.lt
      have HB0 := Hid.mk' hB0
      have HB1 := Hid.mk' hB1
      have HB2 := Hid.mk' hB2
      clear hB0 hB1 hB2
      go_wp2
      refine wp_region_head 22 (fun w' => Ext (wr) w' ∧ (∀ b o, b < (wr).heap.size → w'.cell? ⟨b, o, none⟩ = (wr).cell? ⟨b, o, none⟩) ∧ (∀ b o, b < (wr).heap.size → w'.frozen? ⟨b, o, none⟩ = (wr).frozen? ⟨b, o, none⟩)) (by kernel_rfl) (by decide) ?_
      have hA0 : Hid ((fun w' => Ext (wr) w' ∧ (∀ b o, b < (wr).heap.size → w'.cell? ⟨b, o, none⟩ = (wr).cell? ⟨b, o, none⟩) ∧ (∀ b o, b < (wr).heap.size → w'.frozen? ⟨b, o, none⟩ = (wr).frozen? ⟨b, o, none⟩)) wr.drew) := held_of (by exact eX)
      (refine wpHd_take (i := 0) (v := ?_) rfl (by kernel_rfl) (by kernel_rfl) (by kernel_rfl) (fun _ _ _ h => h) (Or.inl ⟨by rfl, ?_⟩) hA0.out ?_; rotate_left 1; · (intro w' hS'; (obtain ⟨hEs', hcs', hfs'⟩ := hS'); go_simp; try with_reducible rfl))
      (refine wpHd_take (i := 1) (v := ?_) rfl (by kernel_rfl) (by kernel_rfl) (by kernel_rfl) (fun _ _ _ h => h) (Or.inl ⟨by rfl, ?_⟩) hA0.out ?_; rotate_left 1; · (intro w' hS'; (obtain ⟨hEs', hcs', hfs'⟩ := hS'); go_simp; try with_reducible rfl))
      (refine wpHd_take (i := 2) (v := ?_) rfl (by kernel_rfl) (by kernel_rfl) (by kernel_rfl) (fun _ _ _ h => h) (Or.inl ⟨by rfl, ?_⟩) hA0.out ?_; rotate_left 1; · (intro w' hS'; (obtain ⟨hEs', hcs', hfs'⟩ := hS'); go_simp; try with_reducible rfl))
      (refine wpHd_take (i := 3) (v := ?_) rfl (by kernel_rfl) (by kernel_rfl) (by kernel_rfl) (fun _ _ _ h => h) (Or.inl ⟨by rfl, ?_⟩) hA0.out ?_; rotate_left 1; · (intro w' hS'; (obtain ⟨hEs', hcs', hfs'⟩ := hS'); go_simp; try with_reducible rfl))
      (refine wpHd_take (i := 4) (v := ?_) rfl (by kernel_rfl) (by kernel_rfl) (by kernel_rfl) (fun _ _ _ h => h) (Or.inl ⟨by rfl, ?_⟩) hA0.out ?_; rotate_left 1; · (intro w' hS'; (obtain ⟨hEs', hcs', hfs'⟩ := hS'); go_simp; try with_reducible rfl))
      (refine wpHd_take (i := 5) (v := ?_) rfl (by kernel_rfl) (by kernel_rfl) (by kernel_rfl) (fun _ _ _ h => h) (Or.inl ⟨by rfl, ?_⟩) hA0.out ?_; rotate_left 1; · (intro w' hS'; (obtain ⟨hEs', hcs', hfs'⟩ := hS'); go_simp; try with_reducible rfl))
      (refine wpHd_take (i := 6) (v := ?_) rfl (by kernel_rfl) (by kernel_rfl) (by kernel_rfl) (fun _ _ _ h => h) (Or.inl ⟨by rfl, ?_⟩) hA0.out ?_; rotate_left 1; · (intro w' hS'; (obtain ⟨hEs', hcs', hfs'⟩ := hS'); go_simp; try with_reducible rfl))
      (refine wpHd_take (i := 7) (v := ?_) rfl (by kernel_rfl) (by kernel_rfl) (by kernel_rfl) (fun _ _ _ h => h) (Or.inl ⟨by rfl, ?_⟩) hA0.out ?_; rotate_left 1; · (intro w' hS'; (obtain ⟨hEs', hcs', hfs'⟩ := hS'); go_simp; try with_reducible rfl))
      (refine wpHd_take (i := 8) (v := ?_) rfl (by kernel_rfl) (by kernel_rfl) (by kernel_rfl) (fun _ _ _ h => h) (Or.inl ⟨by rfl, ?_⟩) hA0.out ?_; rotate_left 1; · (intro w' hS'; (obtain ⟨hEs', hcs', hfs'⟩ := hS'); go_simp; try with_reducible rfl))
      (refine wpHd_take (i := 9) (v := ?_) rfl (by kernel_rfl) (by kernel_rfl) (by kernel_rfl) (fun _ _ _ h => h) (Or.inl ⟨by rfl, ?_⟩) hA0.out ?_; rotate_left 1; · (intro w' hS'; (obtain ⟨hEs', hcs', hfs'⟩ := hS'); go_simp; try with_reducible rfl))
      (refine wpHd_take (i := 10) (v := ?_) rfl (by kernel_rfl) (by kernel_rfl) (by kernel_rfl) (fun _ _ _ h => h) (Or.inl ⟨by rfl, ?_⟩) hA0.out ?_; rotate_left 1; · (intro w' hS'; (obtain ⟨hEs', hcs', hfs'⟩ := hS'); go_simp; try with_reducible rfl))
      (refine wpHd_take (i := 11) (v := ?_) rfl (by kernel_rfl) (by kernel_rfl) (by kernel_rfl) (fun _ _ _ h => h) (Or.inl ⟨by rfl, ?_⟩) hA0.out ?_; rotate_left 1; · (intro w' hS'; (obtain ⟨hEs', hcs', hfs'⟩ := hS'); go_simp; try with_reducible rfl))
      (refine wpHd_take (i := 12) (v := ?_) rfl (by kernel_rfl) (by kernel_rfl) (by kernel_rfl) (fun _ _ _ h => h) (Or.inl ⟨by rfl, ?_⟩) hA0.out ?_; rotate_left 1; · (intro w' hS'; (obtain ⟨hEs', hcs', hfs'⟩ := hS'); go_simp; try with_reducible rfl))
      (refine wpHd_take (i := 13) (v := ?_) rfl (by kernel_rfl) (by kernel_rfl) (by kernel_rfl) (fun _ _ _ h => h) (Or.inl ⟨by rfl, ?_⟩) hA0.out ?_; rotate_left 1; · (intro w' hS'; (obtain ⟨hEs', hcs', hfs'⟩ := hS'); go_simp; try with_reducible rfl))
      (refine wpHd_take (i := 14) (v := ?_) rfl (by kernel_rfl) (by kernel_rfl) (by kernel_rfl) (fun _ _ _ h => h) (Or.inl ⟨by rfl, ?_⟩) hA0.out ?_; rotate_left 1; · (intro w' hS'; (obtain ⟨hEs', hcs', hfs'⟩ := hS'); go_simp; try with_reducible rfl))
      (refine wpHd_take (i := 15) (v := ?_) rfl (by kernel_rfl) (by kernel_rfl) (by kernel_rfl) (fun _ _ _ h => h) (Or.inl ⟨by rfl, ?_⟩) hA0.out ?_; rotate_left 1; · (intro w' hS'; (obtain ⟨hEs', hcs', hfs'⟩ := hS'); go_simp; try with_reducible rfl))
      (refine wpHd_take (i := 16) (v := ?_) rfl (by kernel_rfl) (by kernel_rfl) (by kernel_rfl) (fun _ _ _ h => h) (Or.inl ⟨by rfl, ?_⟩) hA0.out ?_; rotate_left 1; · (intro w' hS'; (obtain ⟨hEs', hcs', hfs'⟩ := hS'); go_simp; try with_reducible rfl))
      (refine wpHd_take (i := 17) (v := ?_) rfl (by kernel_rfl) (by kernel_rfl) (by kernel_rfl) (fun _ _ _ h => h) (Or.inl ⟨by rfl, ?_⟩) hA0.out ?_; rotate_left 1; · (intro w' hS'; (obtain ⟨hEs', hcs', hfs'⟩ := hS'); go_simp; try with_reducible rfl))
      (refine wpHd_take (i := 18) (v := ?_) rfl (by kernel_rfl) (by kernel_rfl) (by kernel_rfl) (fun _ _ _ h => h) (Or.inl ⟨by rfl, ?_⟩) hA0.out ?_; rotate_left 1; · (intro w' hS'; (obtain ⟨hEs', hcs', hfs'⟩ := hS'); go_simp; try with_reducible rfl))
      (refine wpHd_take (i := 19) (v := ?_) rfl (by kernel_rfl) (by kernel_rfl) (by kernel_rfl) (fun _ _ _ h => h) (Or.inl ⟨by rfl, ?_⟩) hA0.out ?_; rotate_left 1; · (intro w' hS'; (obtain ⟨hEs', hcs', hfs'⟩ := hS'); go_simp; try with_reducible rfl))
      (refine wpHd_take (i := 20) (v := ?_) rfl (by kernel_rfl) (by kernel_rfl) (by kernel_rfl) (fun _ _ _ h => h) (Or.inl ⟨by rfl, ?_⟩) hA0.out ?_; rotate_left 1; · (intro w' hS'; (obtain ⟨hEs', hcs', hfs'⟩ := hS'); go_simp; try with_reducible rfl))
      refine wpHd_one (i := 21) rfl rfl (by kernel_rfl) (fun K hK => ?_)
      go_simp
      refine hK.out _ _ (held_of (by exact eX)) (fun hA => ?_)
      clear hK K hA hA0
      refine wpHd_tail (by kernel_rfl) ?_
      simp only [List.drop_succ_cons, List.drop_zero]
      have hob := owns_ne hown.out (show w.heap.size + 1 + 1 < w.heap.size + 3 by omega)
      go_wp2_with (at_builtin; refine wpList_append_lies _ rfl _ _ 97 rfl (w.heap.size + 3) 115 i0 _ 3 24 Tryz.underlying97 hi hz0 hz1 hz2 rfl (by decide) _ _ _ rfl (owns_ext hown.out (by exact eX)) ⟨_, 0, none⟩ 1 1 c.cells rfl rfl ?c1 ?c2 (by decide) ?c3 ?c4 ?c5 _ rfl ?_)
      case c1 => exact cells_new _ #[.string c.nm, .int .u8 c.ty, .bool c.key] _
      case c2 => intro u hu; simp [Col.cells] at hu; rcases hu with rfl | rfl | rfl <;> rfl
      case c3 => unfold maxLen; omega
      case c4 => omega
      case c5 => simp; omega
      intro g' cap' w2 hown' hgrow _ _
      have hE1 : Ext wr (wr.drew.alloc (.cells #[.string c.nm, .int .u8 c.ty, .bool c.key] 115)) := by exact eX
      have HE2 : Hid (Ext w w2) := Hid.mk' (Below.grown (hE.out.trans hE1) hgrow (hE.out.trans hE1).size (fun g hg => by have := (hown.out.lt g hg).1; omega))
      have hsz2 := hgrow.size
      have HB0' := Hid.mk' ((HB0.out.ext hE1).grown hgrow (owns_ne hown.out (by omega)))
      have HB1' := Hid.mk' ((HB1.out.ext hE1).grown hgrow (owns_ne hown.out (by omega)))
      have hB2' := (HB2.out.ext hE1).grown hgrow hob
      have g2' := hB2'.cell
      have g2f := hB2'.frozen
      have z2' := hB2'.lt
      have HB2' := Hid.mk' hB2'
      have HO := Hid.mk' hown'
      clear hB2' hown' hgrow hE1 hob
      go_wp2
      go_roundw
      case rel => exact ⟨k + 1, _, by omega, by go_num, Hid.mk' (by rw [hT.out]; exact owns_set (p := ⟨w.heap.size + 1 + 1, 4, none⟩) HO.out (by show w.heap.size + 1 + 1 < _; omega) _), HB0'.out.other _ _ (by show w.heap.size ≠ w.heap.size + 1 + 1; omega), HB1'.out.other _ _ (by show w.heap.size + 1 ≠ w.heap.size + 1 + 1; omega), HB2'.out.set 4 _, Hid.mk' (HE2.out.setCell (by simp; omega) _)⟩
      case measure => simp [intOf]; omega
    · have hkk : k = cols.length := by omega
      subst hkk
      rw [show cols.length = (cols.map Col.cells).length by simp, List.take_length] at hown
      rw [List.length_map] at hown
      obtain ⟨a', c', rfl⟩ := owns_shape hown.out
      have g0 := hB0.cell
      have z0 := hB0.lt
      have g1 := hB1.cell
      have g1f := hB1.frozen
      have g2 := hB2.cell
      have z1 := hB1.lt
      have z2 := hB2.lt
      clear hB0 hB1 hB2
      go_wp2
      simp [bodyPost, results, Tryz.results58, go_sem, *]
      refine ⟨_, _, ⟨rfl, rfl⟩, owns_cap hown.out, Sl.of_owns (base := w.heap.size + 3) (e := 115) ?_ ?_, ?_⟩
      · have e : (cols.map Col.cells).length = cols.length := by simp
        rw [e]
        have hown := hown.out
        repeat (with_reducible (first | exact hown | refine owns_set ?_ (by show w.heap.size + 1 < _; omega) _))
      · intro xs hxs; simp at hxs; obtain ⟨a, _, rfl⟩ := hxs; rfl
      · have hE := hE.out
        exact eX

end Go.Proofs.YtdgalkljngigeaaGreat

/-
Walks: value.Of, value.Bits, the laws' Own and Back of a value and of a cell.
-/
namespace Go.Proofs.YtdgalkljngigeaaGreat
open Go.RowKit

theorem call_bits (x : Nat) (w : World) : (callFunc 116 #[.float .f64 x]).run Tryz.prog w = .ok (.value (.int .u64 x)) w :=
  run_callFunc_extern (e := Extern.MathFloatBits.float64bits) Tryz.func116 (by kernel_rfl) (by kernel_rfl) (by kernel_rfl) (by kernel_rfl) _ w
theorem call_frombits (x : Int) (w : World) : (callFunc 115 #[.int .u64 x]).run Tryz.prog w = .ok (.value (.float .f64 x.toNat)) w :=
  run_callFunc_extern (e := Extern.MathFloatBits.float64frombits) Tryz.func115 (by kernel_rfl) (by kernel_rfl) (by kernel_rfl) (by kernel_rfl) _ w

set_option maxRecDepth 20000 in set_option maxHeartbeats 400000 in
theorem vof_any (x y : Int) (w : World) :
    Calls Tryz.prog 99 #[.int .u64 x, .int .u64 y] w fun e w' => e = .returned (.complex .f64 x.toNat y.toNat) ∧ w = w' := by
  have h2 := call_frombits
  go_enter Tryz.func99, Tryz.ntmps99
  go_wp2
  go_ret
  exact ⟨rfl, rfl⟩

set_option maxRecDepth 20000 in set_option maxHeartbeats 400000 in
theorem vbits_any (x y : Nat) (w : World) :
    Calls Tryz.prog 100 #[.complex .f64 x y] w fun e w' => e = .returned (.tuple #[.int .u64 x, .int .u64 y]) ∧ w = w' := by
  have h2 := call_bits
  go_enter Tryz.func100, Tryz.ntmps100
  go_wp2
  go_ret2
  exact ⟨rfl, rfl⟩

set_option maxRecDepth 20000 in set_option maxHeartbeats 400000 in
theorem vown_any (ty n x y : Int) (s : ByteArray) (w : World) :
    Calls Tryz.prog 80 #[.agg #[.int .u8 ty, .int .i64 n, .int .u64 x, .int .u64 y, .string s]] w fun e w' =>
      e = .returned (.agg #[.int .u8 ty, .int .i64 n, .complex .f64 x.toNat y.toNat, .string s]) ∧ Ext w w' := by
  go_enter Tryz.func80, Tryz.ntmps80
  go_wp2
  go_region_held3 (fun w' => Ext (w.alloc (.cells #[.int .u8 ty, .int .i64 n, .int .u64 x, .int .u64 y, .string s] 117)) w' ∧ (∀ b o, b < (w.alloc (.cells #[.int .u8 ty, .int .i64 n, .int .u64 x, .int .u64 y, .string s] 117)).heap.size → w'.cell? ⟨b, o, none⟩ = (w.alloc (.cells #[.int .u8 ty, .int .i64 n, .int .u64 x, .int .u64 y, .string s] 117)).cell? ⟨b, o, none⟩) ∧ (∀ b o, b < (w.alloc (.cells #[.int .u8 ty, .int .i64 n, .int .u64 x, .int .u64 y, .string s] 117)).heap.size → w'.frozen? ⟨b, o, none⟩ = (w.alloc (.cells #[.int .u8 ty, .int .i64 n, .int .u64 x, .int .u64 y, .string s] 117)).frozen? ⟨b, o, none⟩)) ((exact held_of (by exact eX)))
    (first
      | (go_at_call 99; refine (vof_any x y _).mono ?_; rintro e w' ⟨rfl, rfl⟩))
  go_wp2
  simp [bodyPost, results, Tryz.results80, go_sem]
  exact eX

set_option maxRecDepth 20000 in set_option maxHeartbeats 400000 in
theorem cown_any (k ty n x y : Int) (s : ByteArray) (w : World) :
    Calls Tryz.prog 52 #[.agg #[.int .u8 k, .int .u8 ty, .int .i64 n, .int .u64 x, .int .u64 y, .string s]] w fun e w' =>
      e = .returned (.agg #[.int .u8 k, .int .u8 ty, .int .i64 n, .complex .f64 x.toNat y.toNat, .string s]) ∧ Ext w w' := by
  go_enter Tryz.func52, Tryz.ntmps52
  go_wp2
  go_region_held3 (fun w' => Ext (w.alloc (.cells #[.int .u8 k, .int .u8 ty, .int .i64 n, .int .u64 x, .int .u64 y, .string s] 119)) w' ∧ (∀ b o, b < (w.alloc (.cells #[.int .u8 k, .int .u8 ty, .int .i64 n, .int .u64 x, .int .u64 y, .string s] 119)).heap.size → w'.cell? ⟨b, o, none⟩ = (w.alloc (.cells #[.int .u8 k, .int .u8 ty, .int .i64 n, .int .u64 x, .int .u64 y, .string s] 119)).cell? ⟨b, o, none⟩) ∧ (∀ b o, b < (w.alloc (.cells #[.int .u8 k, .int .u8 ty, .int .i64 n, .int .u64 x, .int .u64 y, .string s] 119)).heap.size → w'.frozen? ⟨b, o, none⟩ = (w.alloc (.cells #[.int .u8 k, .int .u8 ty, .int .i64 n, .int .u64 x, .int .u64 y, .string s] 119)).frozen? ⟨b, o, none⟩)) ((exact held_of (by exact eX)))
    (first
      | (go_at_call 80; refine (vown_any ty n x y s _).mono ?_; rintro e w' ⟨rfl, hb⟩; obtain ⟨hc, hf⟩ := hb.cells))
  go_wp2
  simp [bodyPost, results, Tryz.results52, go_sem, *]
  exact eX

end Go.Proofs.YtdgalkljngigeaaGreat

/-
The reference's plain and Right of a value.
-/
namespace Go.Proofs.YtdgalkljngigeaaGreat
open Go.RowKit

def plainB (s : ByteArray) : Bool := s.data.toList.all fun c => 32 ≤ c && c ≤ 126

theorem plain_get {s : ByteArray} (h : plainB s = true) (k : Nat) (hk : k < s.size) : 32 ≤ (s[k].toNat : Int) ∧ (s[k].toNat : Int) ≤ 126 := by
  unfold plainB at h
  rw [List.all_eq_true] at h
  have := h s[k] (by rw [Array.mem_toList_iff]; exact Array.getElem_mem hk)
  simp [UInt8.le_iff_toNat_le] at this
  omega

theorem plain_of {s : ByteArray} (h : ∀ k (hk : k < s.size), 32 ≤ (s[k].toNat : Int) ∧ (s[k].toNat : Int) ≤ 126) : plainB s = true := by
  unfold plainB
  rw [List.all_eq_true]
  intro c hc
  rw [Array.mem_toList_iff] at hc
  obtain ⟨k, hk, rfl⟩ := Array.mem_iff_getElem.1 hc
  have := h k hk
  simp [UInt8.le_iff_toNat_le]
  have e : s[k] = s.data[k] := rfl
  rw [e] at this
  omega

set_option maxRecDepth 20000 in set_option maxHeartbeats 400000 in
theorem rplain_any (s : ByteArray) (w : World) (hs : s.size ≤ 9223372036854775807) :
    Calls Tryz.prog 135 #[.string s] w fun e w' => e = .returned (.bool (plainB s)) ∧ w = w' := by
  go_enter Tryz.func135, Tryz.ntmps135
  go_wp2
  go_loop [3] (fun i => ∃ k : Nat, k ≤ s.size ∧ i = .int .i64 k ∧ Hid (∀ j (hj : j < s.size), j < k → 32 ≤ (s[j].toNat : Int) ∧ (s[j].toNat : Int) ≤ 126)) (fun i => s.size - (intOf i).toNat)
  case atStart => exact ⟨0, Nat.zero_le _, rfl, fun j _ h => by omega⟩
  case round =>
    obtain ⟨k, hk, rfl, hrel⟩ := hrel
    by_cases hlt : k < s.size
    · by_cases hg : 32 ≤ (s[k].toNat : Int) ∧ (s[k].toNat : Int) ≤ 126
      · obtain ⟨h1, h2⟩ := hg
        go_wp2
        go_round
        case rel => exact ⟨k + 1, by omega, by go_num, fun j hj hjk => by
          by_cases e : j = k
          · subst e; exact ⟨h1, h2⟩
          · exact hrel.out j hj (by omega)⟩
        case measure => simp [intOf]; omega
      · have hf : Hid (plainB s = false) := by
          show plainB s = false
          rw [Bool.eq_false_iff]; exact fun h => hg (plain_get h k hlt)
        by_cases hg1 : (s[k].toNat : Int) < 32
        · go_wp2
          go_ret
          exact ⟨ret_bool hf.out.symm, rfl⟩
        · have hg2 : 126 < (s[k].toNat : Int) := by omega
          go_wp2
          go_ret
          exact ⟨ret_bool hf.out.symm, rfl⟩
    · have hkk : k = s.size := by omega
      have hf : Hid (plainB s = true) := plain_of fun j hj => hrel.out j hj (by omega)
      subst hkk
      go_wp2
      go_ret
      exact ⟨ret_bool hf.out.symm, rfl⟩

/-- What is wrong with a value. -/
def rightV (ty n x y : Int) (s : ByteArray) : Int :=
  if ty < 1 ∨ 6 < ty then 11
  else if (2 < ty ∧ n ≠ 0) ∨ (ty ≠ 3 ∧ ty ≠ 4 ∧ x ≠ 0) ∨ (ty ≠ 4 ∧ y ≠ 0) ∨ (ty < 5 ∧ s.size ≠ 0) then 3
  else if ty = 1 ∧ n ≠ 0 ∧ n ≠ 1 then 4
  else if 2048 < s.size then 2
  else if ty = 5 ∧ plainB s = false then 3
  else 0

set_option maxRecDepth 100000 in set_option maxHeartbeats 1600000 in
theorem rright_any (ty n x y : Int) (s : ByteArray) (w : World) (hs : s.size ≤ 9223372036854775807) :
    Calls Tryz.prog 132 #[.agg #[.int .u8 ty, .int .i64 n, .int .u64 x, .int .u64 y, .string s]] w fun e w' =>
      e = .returned (.int .i64 (rightV ty n x y s)) ∧ Ext w w' := by
  have HP := Hid.mk' (fun w => rplain_any s w hs)
  go_enter Tryz.func132, Tryz.ntmps132
  go_wp2_with (go_at_call 135; refine (HP.out _).mono ?_; rintro e w' ⟨rfl, rfl⟩)
  all_goals
    go_ret
    refine ⟨ret_int ?_, by exact eX⟩
    clear HP
    try simp only [isEmpty_size] at *
    unfold rightV
    (repeat' split) <;> (first | rfl | (exfalso; omega) | (simp_all; done) | (simp_all; omega) | (exfalso; simp_all; omega))

end Go.Proofs.YtdgalkljngigeaaGreat

/-
The program's plain, own, Same and Right of a value.
-/
namespace Go.Proofs.YtdgalkljngigeaaGreat
open Go.RowKit

set_option maxRecDepth 20000 in set_option maxHeartbeats 400000 in
theorem vplain_any (s : ByteArray) (w : World) (hs : s.size ≤ 9223372036854775807) :
    Calls Tryz.prog 134 #[.string s] w fun e w' => e = .returned (.bool (plainB s)) ∧ w = w' := by
  go_enter Tryz.func134, Tryz.ntmps134
  go_wp2
  go_loop [6] (fun i => ∃ k : Nat, k ≤ s.size ∧ i = .int .i64 k ∧ Hid (∀ j (hj : j < s.size), j < k → 32 ≤ (s[j].toNat : Int) ∧ (s[j].toNat : Int) ≤ 126)) (fun i => s.size - (intOf i).toNat)
  case atStart => exact ⟨0, Nat.zero_le _, rfl, fun j _ h => by omega⟩
  case round =>
    obtain ⟨k, hk, rfl, hrel⟩ := hrel
    by_cases hlt : k < s.size
    · by_cases hg : 32 ≤ (s[k].toNat : Int) ∧ (s[k].toNat : Int) ≤ 126
      · obtain ⟨h1, h2⟩ := hg
        go_wp2
        go_round
        case rel => exact ⟨k + 1, by omega, by go_num, fun j hj hjk => by
          by_cases e : j = k
          · subst e; exact ⟨h1, h2⟩
          · exact hrel.out j hj (by omega)⟩
        case measure => simp [intOf]; omega
      · have hf : Hid (plainB s = false) := by
          show plainB s = false
          rw [Bool.eq_false_iff]; exact fun h => hg (plain_get h k hlt)
        by_cases hg1 : (s[k].toNat : Int) < 32
        · go_wp2
          go_ret
          exact ⟨ret_bool hf.out.symm, rfl⟩
        · have hg2 : 126 < (s[k].toNat : Int) := by omega
          go_wp2
          go_ret
          exact ⟨ret_bool hf.out.symm, rfl⟩
    · have hkk : k = s.size := by omega
      have hf : Hid (plainB s = true) := plain_of fun j hj => hrel.out j hj (by omega)
      subst hkk
      go_wp2
      go_ret
      exact ⟨ret_bool hf.out.symm, rfl⟩

/-- A value of the program. -/
def vAgg (ty n : Int) (x y : Nat) (s : ByteArray) : Value := .agg #[.int .u8 ty, .int .i64 n, .complex .f64 x y, .string s]
/-- Are two values the same? -/
def sameB (ty n : Int) (x y : Nat) (s : ByteArray) (ty' n' : Int) (x' y' : Nat) (s' : ByteArray) : Bool := decide (ty = ty' ∧ n = n' ∧ x = x' ∧ y = y' ∧ s = s')

theorem str_beq (s t : ByteArray) : (s.toList == t.toList) = decide (s = t) := by
  rw [ByteArray.toList_eq, ByteArray.toList_eq, Bool.eq_iff_iff, beq_iff_eq, decide_eq_true_eq]
  constructor
  · intro h; cases s; cases t; simp only [ByteArray.mk.injEq]; exact Array.toList_inj.1 h
  · intro h; rw [h]

set_option maxRecDepth 100000 in set_option maxHeartbeats 1600000 in
theorem vsame_any (ty n : Int) (x y : Nat) (s : ByteArray) (ty' n' : Int) (x' y' : Nat) (s' : ByteArray) (w : World) :
    Calls Tryz.prog 82 #[.agg #[.int .u8 ty, .int .i64 n, .complex .f64 x y, .string s], .agg #[.int .u8 ty', .int .i64 n', .complex .f64 x' y', .string s']] w fun e w' =>
      e = .returned (.bool (sameB ty n x y s ty' n' x' y' s')) ∧ Ext w w' := by
  go_enter Tryz.func82, Tryz.ntmps82
  go_wp2_with (go_at_call 100; refine (vbits_any _ _ _).mono ?_; rintro e w1 ⟨rfl, rfl⟩)
  all_goals
    go_ret
    refine ⟨ret_bool ?_, by exact eX⟩
    unfold sameB
    first
      | (rw [str_beq]; exact decide_eq_decide.2 ⟨fun h => ⟨by omega, by omega, by omega, by omega, h⟩, fun h => h.2.2.2.2⟩)
      | (symm; rw [decide_eq_false_iff_not]; intro h; omega)

/-- A value's own parts. -/
def ownN (ty n : Int) : Int := if ty = 1 ∨ ty = 2 then n else 0
def ownX (ty : Int) (x : Nat) : Nat := if ty = 3 ∨ ty = 4 then x else 0
def ownY (ty : Int) (y : Nat) : Nat := if ty = 4 then y else 0
def ownS (ty : Int) (s : ByteArray) : ByteArray := if ty = 5 ∨ ty = 6 then s else ByteArray.empty

set_option maxRecDepth 100000 in set_option maxHeartbeats 1600000 in
theorem vvown_any (ty n : Int) (x y : Nat) (s : ByteArray) (w : World) :
    Calls Tryz.prog 133 #[.agg #[.int .u8 ty, .int .i64 n, .complex .f64 x y, .string s]] w fun e w' =>
      e = .returned (.agg #[.int .u8 ty, .int .i64 (ownN ty n), .complex .f64 (ownX ty x) (ownY ty y), .string (ownS ty s)]) ∧ Ext w w' := by
  go_enter Tryz.func133, Tryz.ntmps133
  go_wp2_with (first
    | (go_at_call 100; refine (vbits_any _ _ _).mono ?_; rintro e w1 ⟨rfl, rfl⟩)
    | (go_at_call 99; refine (vof_any _ _ _).mono ?_; rintro e w2 ⟨rfl, rfl⟩; simp only [Int.toNat_natCast, Int.toNat_zero]))
  all_goals
    simp [bodyPost, results, Tryz.results133, go_sem, *]
    refine ⟨?_, by exact eX⟩
    unfold ownN ownX ownY ownS
    first
      | (simp_all; done)
      | (simp_all; rfl)

theorem size_zero (s : ByteArray) : s = ByteArray.empty ↔ s.size = 0 := by
  constructor
  · rintro rfl; rfl
  · intro h
    cases s with
    | mk d =>
      have h2 : d = #[] := Array.eq_empty_of_size_eq_zero h
      subst h2; rfl

/-- A value has nothing but what is its own just if it is the same as its own. -/
theorem same_own (ty n : Int) (x y : Nat) (s : ByteArray) (h : 1 ≤ ty ∧ ty ≤ 6) : sameB ty n x y s ty (ownN ty n) (ownX ty x) (ownY ty y) (ownS ty s) = true ↔
    ¬ ((2 < ty ∧ n ≠ 0) ∨ (ty ≠ 3 ∧ ty ≠ 4 ∧ (x : Int) ≠ 0) ∨ (ty ≠ 4 ∧ (y : Int) ≠ 0) ∨ (ty < 5 ∧ s.size ≠ 0)) := by
  have ht : ty = 1 ∨ ty = 2 ∨ ty = 3 ∨ ty = 4 ∨ ty = 5 ∨ ty = 6 := by omega
  unfold sameB
  rw [decide_eq_true_eq]
  rcases ht with rfl | rfl | rfl | rfl | rfl | rfl <;> simp [ownN, ownX, ownY, ownS] <;> grind

set_option maxRecDepth 100000 in set_option maxHeartbeats 1600000 in
theorem vright_any (ty n : Int) (x y : Nat) (s : ByteArray) (w : World) (hs : s.size ≤ 9223372036854775807) :
    Calls Tryz.prog 130 #[.agg #[.int .u8 ty, .int .i64 n, .complex .f64 x y, .string s]] w fun e w' =>
      e = .returned (.int .i64 (rightV ty n x y s)) ∧ Ext w w' := by
  have HP := Hid.mk' (fun w => vplain_any s w hs)
  have HO := Hid.mk' (fun w => vvown_any ty n x y s w)
  obtain ⟨S, hS⟩ : ∃ S, S = sameB ty n x y s ty (ownN ty n) (ownX ty x) (ownY ty y) (ownS ty s) := ⟨_, rfl⟩
  have HSa := Hid.mk' (fun w => vsame_any ty n x y s ty (ownN ty n) (ownX ty x) (ownY ty y) (ownS ty s) w)
  rw [← hS] at HSa
  have HS2 : Hid (1 ≤ ty ∧ ty ≤ 6 → (S = true ↔ ¬ ((2 < ty ∧ n ≠ 0) ∨ (ty ≠ 3 ∧ ty ≠ 4 ∧ (x : Int) ≠ 0) ∨ (ty ≠ 4 ∧ (y : Int) ≠ 0) ∨ (ty < 5 ∧ s.size ≠ 0)))) := fun h => by rw [hS]; exact same_own ty n x y s h
  clear hS
  generalize ownN ty n = n' at *
  generalize ownX ty x = x' at *
  generalize ownY ty y = y' at *
  generalize ownS ty s = s' at *
  go_enter Tryz.func130, Tryz.ntmps130
  go_upto_region 3 with (fail)
  all_goals try (go_ret; exact ⟨ret_int (by unfold rightV; rw [if_pos (by omega)]), by exact eX⟩)
  go_region_held3 (fun w' => Ext (w.alloc (.cells #[.int .u8 ty, .int .i64 n, .complex .f64 x y, .string s] 122)) w' ∧ (∀ b o, b < (w.alloc (.cells #[.int .u8 ty, .int .i64 n, .complex .f64 x y, .string s] 122)).heap.size → w'.cell? ⟨b, o, none⟩ = (w.alloc (.cells #[.int .u8 ty, .int .i64 n, .complex .f64 x y, .string s] 122)).cell? ⟨b, o, none⟩) ∧ (∀ b o, b < (w.alloc (.cells #[.int .u8 ty, .int .i64 n, .complex .f64 x y, .string s] 122)).heap.size → w'.frozen? ⟨b, o, none⟩ = (w.alloc (.cells #[.int .u8 ty, .int .i64 n, .complex .f64 x y, .string s] 122)).frozen? ⟨b, o, none⟩)) ((exact held_of (by exact eX)))
    (first
      | (go_at_call 133; refine (HO.out _).mono ?_; rintro e w1 ⟨rfl, hb1⟩)
      | (go_at_call 82; refine (HSa.out _).mono ?_; rintro e w2 ⟨rfl, hb2⟩))
  go_wp2_with (go_at_call 134; refine (HP.out _).mono ?_; rintro e w3 ⟨rfl, rfl⟩)
  all_goals
    go_ret
    refine ⟨ret_int ?_, by exact eX⟩
    have hS3 := HS2.out ⟨by omega, by omega⟩
    clear HP HO HSa HS2
    unfold rightV
    cases S <;> simp only [Bool.not_true, Bool.not_false, Bool.false_eq_true, false_iff, true_iff, Classical.not_not, reduceCtorEq] at *
    all_goals first
      | ((repeat' split) <;> (first | rfl | (exfalso; omega) | (simp_all; done) | (simp_all; omega) | (exfalso; simp_all; omega)))

end Go.Proofs.YtdgalkljngigeaaGreat

/-
A value, in plain words.
-/
namespace Go.Proofs.YtdgalkljngigeaaGreat
open Go.RowKit

/-- A value. -/
structure V where
  ty : Int
  n : Int
  x : Nat
  y : Nat
  s : ByteArray
def V.zero : V := ⟨0, 0, 0, 0, ByteArray.empty⟩
def V.right (v : V) : Int := rightV v.ty v.n v.x v.y v.s
def V.wf (v : V) : Prop := (-9223372036854775808 ≤ v.n ∧ v.n < 9223372036854775808) ∧ v.x < 2 ^ 64 ∧ v.y < 2 ^ 64

theorem right_zero {ty n x y : Int} {s : ByteArray} (h : rightV ty n x y s = 0) : 1 ≤ ty ∧ ty ≤ 6 ∧ s.size ≤ 2048 ∧ (ty = 1 → n = 0 ∨ n = 1) ∧ (2 < ty → n = 0) ∧ (ty ≠ 3 → ty ≠ 4 → x = 0) ∧ (ty ≠ 4 → y = 0) ∧ (ty < 5 → s.size = 0) ∧ (ty = 5 → plainB s = true) := by
  unfold rightV at h
  (repeat' split at h) <;> first | (exfalso; omega) | skip
  rename_i h1 h2 h3 h4 h5
  refine ⟨by omega, by omega, by omega, by omega, by omega, by omega, by omega, by omega, ?_⟩
  intro h6
  cases hp : plainB s
  · exact absurd ⟨h6, hp⟩ h5
  · rfl

end Go.Proofs.YtdgalkljngigeaaGreat

/-
A cell, in plain words: what is wrong with one.
-/
namespace Go.Proofs.YtdgalkljngigeaaGreat
open Go.RowKit

/-- What is wrong with a cell in a column. -/
def rightC (k ty n x y : Int) (s : ByteArray) (kind : Int) : Int :=
  if kind < 1 ∨ 6 < kind then 11 else if 2 < k then 7
  else if k < 2 then (if ty = 0 ∧ n = 0 ∧ x = 0 ∧ y = 0 ∧ s.size = 0 then (if k = 1 ∧ kind ≠ 5 ∧ kind ≠ 6 then 11 else 0) else 3)
  else if rightV ty n x y s ≠ 0 then rightV ty n x y s else if ty ≠ kind then 11 else 0
def largeB (k ty : Int) (s : ByteArray) : Bool := decide (k = 2 ∧ (ty = 5 ∨ ty = 6) ∧ 64 < s.size)
/-- A cell. -/
structure K where
  k : Int
  v : V
def K.zero : K := ⟨0, V.zero⟩
def K.right (c : K) (kind : Int) : Int := rightC c.k c.v.ty c.v.n c.v.x c.v.y c.v.s kind
theorem right_same {k ty n x y : Int} {s : ByteArray} {kind : Int} (hk : k < 2) (h : rightC k ty n x y s kind = 0) : ty = 0 ∧ n = 0 ∧ x = 0 ∧ y = 0 ∧ s.size = 0 ∧ (k = 1 → kind = 5 ∨ kind = 6) := by
  unfold rightC at h
  (repeat' split at h) <;> first | omega | (exfalso; omega)
theorem right_full {ty n x y : Int} {s : ByteArray} {kind : Int} (h : rightC 2 ty n x y s kind = 0) : rightV ty n x y s = 0 ∧ ty = kind := by
  unfold rightC at h
  (repeat' split at h) <;> first | omega | (exfalso; omega)
theorem right_mk {ty n x y : Int} {s : ByteArray} {kind : Int} (h : rightV ty n x y s = 0) (hk : ty = kind) : rightC 2 ty n x y s kind = 0 := by
  have := right_zero h
  unfold rightC
  (repeat' split) <;> first | rfl | omega | (exfalso; omega)

end Go.Proofs.YtdgalkljngigeaaGreat

/-
The program's cell: texty, typed, Alike, Right.
-/
namespace Go.Proofs.YtdgalkljngigeaaGreat
open Go.RowKit

set_option maxRecDepth 20000 in set_option maxHeartbeats 400000 in
theorem texty_yes (kind : Int) (w : World) (h : kind = 5 ∨ kind = 6) : Calls Tryz.prog 129 #[.int .u8 kind] w fun e w' => e = .returned (.bool true) ∧ w = w' := by
  rcases h with rfl | rfl
  all_goals
    go_enter Tryz.func129, Tryz.ntmps129
    go_wp2
    go_ret
    exact ⟨rfl, rfl⟩
set_option maxRecDepth 20000 in set_option maxHeartbeats 400000 in
theorem texty_no (kind : Int) (w : World) (h : kind ≠ 5 ∧ kind ≠ 6) : Calls Tryz.prog 129 #[.int .u8 kind] w fun e w' => e = .returned (.bool false) ∧ w = w' := by
  have h5 : (kind == 5) = false := by simpa using h.1
  have h6 : (kind == 6) = false := by simpa using h.2
  clear h
  go_enter Tryz.func129, Tryz.ntmps129
  go_wp2
  go_ret
  exact ⟨rfl, rfl⟩
set_option maxRecDepth 20000 in set_option maxHeartbeats 400000 in
theorem typed_yes (kind : Int) (w : World) (h1 : 1 ≤ kind) (h2 : kind ≤ 6) : Calls Tryz.prog 128 #[.int .u8 kind] w fun e w' => e = .returned (.bool true) ∧ w = w' := by
  go_enter Tryz.func128, Tryz.ntmps128
  go_wp2
  go_ret
  exact ⟨ret_bool (by first | (simp; done) | (simp; omega)), rfl⟩
set_option maxRecDepth 20000 in set_option maxHeartbeats 400000 in
theorem typed_no (kind : Int) (w : World) (h : kind < 1 ∨ 6 < kind) : Calls Tryz.prog 128 #[.int .u8 kind] w fun e w' => e = .returned (.bool false) ∧ w = w' := by
  go_enter Tryz.func128, Tryz.ntmps128
  go_wp2
  all_goals
    go_ret
    exact ⟨ret_bool (by first | (simp; done) | (simp; omega)), rfl⟩

/-- Are two cells alike? -/
def alikeB (k ty n : Int) (x y : Nat) (s : ByteArray) (k' ty' n' : Int) (x' y' : Nat) (s' : ByteArray) : Bool := decide (k = k' ∧ ty = ty' ∧ n = n' ∧ x = x' ∧ y = y' ∧ s = s')
theorem alike_same {k ty n : Int} {x y : Nat} {s : ByteArray} {ty' n' : Int} {x' y' : Nat} {s' : ByteArray} : alikeB k ty n x y s k ty' n' x' y' s' = sameB ty n x y s ty' n' x' y' s' := by
  unfold alikeB sameB; exact decide_eq_decide.2 ⟨fun h => h.2, fun h => ⟨rfl, h⟩⟩

set_option maxRecDepth 100000 in set_option maxHeartbeats 1600000 in
theorem calike_any (k ty n : Int) (x y : Nat) (s : ByteArray) (k' ty' n' : Int) (x' y' : Nat) (s' : ByteArray) (w : World) :
    Calls Tryz.prog 57 #[.agg #[.int .u8 k, .int .u8 ty, .int .i64 n, .complex .f64 x y, .string s], .agg #[.int .u8 k', .int .u8 ty', .int .i64 n', .complex .f64 x' y', .string s']] w fun e w' =>
      e = .returned (.bool (alikeB k ty n x y s k' ty' n' x' y' s')) ∧ Ext w w' := by
  by_cases hk : k = k'
  · subst hk
    have HS := Hid.mk' (fun w => vsame_any ty n x y s ty' n' x' y' s' w)
    go_enter Tryz.func57, Tryz.ntmps57
    go_wp2_with (go_at_call 82; refine (HS.out _).mono ?_; rintro e w1 ⟨rfl, hb1⟩)
    go_ret
    exact ⟨ret_bool (by rw [alike_same]), by exact eX⟩
  · have hL : Hid (alikeB k ty n x y s k' ty' n' x' y' s' = false) := Hid.mk' (by unfold alikeB; rw [decide_eq_false_iff_not]; exact fun h => hk h.1)
    have hk2 : (k == k') = false := by simpa using hk
    clear hk
    go_enter Tryz.func57, Tryz.ntmps57
    go_wp2
    go_ret
    exact ⟨ret_bool hL.out.symm, by exact eX⟩

theorem same_zero {ty n : Int} {x y : Nat} {s : ByteArray} : sameB ty n x y s 0 0 0 0 ByteArray.empty = decide (ty = 0 ∧ n = 0 ∧ (x : Int) = 0 ∧ (y : Int) = 0 ∧ s.size = 0) := by
  unfold sameB; exact decide_eq_decide.2 ⟨fun h => ⟨h.1, h.2.1, by omega, by omega, (size_zero s).1 h.2.2.2.2⟩, fun h => ⟨h.1, h.2.1, by omega, by omega, (size_zero s).2 h.2.2.2.2⟩⟩

set_option maxRecDepth 100000 in set_option maxHeartbeats 1600000 in
theorem cright_any (k ty n : Int) (x y : Nat) (s : ByteArray) (kind : Int) (w : World) (hk0 : 0 ≤ k) (hs : s.size ≤ 9223372036854775807) :
    Calls Tryz.prog 126 #[.agg #[.int .u8 k, .int .u8 ty, .int .i64 n, .complex .f64 x y, .string s], .int .u8 kind] w fun e w' => e = .returned (.int .i64 (rightC k ty n x y s kind)) ∧ Ext w w' := by
  have HV := Hid.mk' (fun w => vright_any ty n x y s w hs)
  have HSa := Hid.mk' (fun w => vsame_any ty n x y s 0 0 0 0 ByteArray.empty w)
  rw [same_zero] at HSa
  by_cases hkd : kind < 1 ∨ 6 < kind
  · have HR : Hid (rightC k ty n x y s kind = 11) := Hid.mk' (by unfold rightC; rw [if_pos hkd])
    have HT := Hid.mk' (fun w => typed_no kind w hkd)
    clear hkd
    go_enter Tryz.func126, Tryz.ntmps126
    go_wp2_with (go_at_call 128; refine (HT.out _).mono ?_; rintro e w1 ⟨rfl, rfl⟩)
    go_ret
    exact ⟨ret_int HR.out.symm, by exact eX⟩
  have HT := Hid.mk' (fun w => typed_yes kind w (by omega) (by omega))
  by_cases hk2 : 2 < k
  · have HR : Hid (rightC k ty n x y s kind = 7) := Hid.mk' (by unfold rightC; rw [if_neg hkd, if_pos hk2])
    clear hkd
    go_enter Tryz.func126, Tryz.ntmps126
    go_wp2_with (go_at_call 128; refine (HT.out _).mono ?_; rintro e w1 ⟨rfl, rfl⟩)
    go_ret
    exact ⟨ret_int HR.out.symm, by exact eX⟩
  by_cases hk3 : k < 2
  · by_cases hz : ty = 0 ∧ n = 0 ∧ (x : Int) = 0 ∧ (y : Int) = 0 ∧ s.size = 0
    · rw [decide_eq_true hz] at HSa
      by_cases h1 : k = 1
      · subst h1
        by_cases ht : kind = 5 ∨ kind = 6
        · have HR : Hid (rightC 1 ty n x y s kind = 0) := Hid.mk' (by unfold rightC; rw [if_neg hkd, if_neg hk2, if_pos hk3, if_pos hz, if_neg (by omega)])
          have HX := Hid.mk' (fun w => texty_yes kind w ht)
          clear hkd hz ht
          go_enter Tryz.func126, Tryz.ntmps126
          go_wp2_with (first
            | (go_at_call 128; refine (HT.out _).mono ?_; rintro e w1 ⟨rfl, rfl⟩)
            | (go_at_call 82; refine (HSa.out _).mono ?_; rintro e w1 ⟨rfl, hb1⟩; have h1 := (Blk.new w #[.int .u8 1, .int .u8 ty, .int .i64 n, .complex .f64 x y, .string s] 124).ext hb1; have k1 := h1.cell; have z1 := h1.lt)
            | (go_at_call 129; refine (HX.out _).mono ?_; rintro e w1 ⟨rfl, rfl⟩))
          go_ret
          exact ⟨ret_int HR.out.symm, by exact eX⟩
        · have HR : Hid (rightC 1 ty n x y s kind = 11) := Hid.mk' (by unfold rightC; rw [if_neg hkd, if_neg hk2, if_pos hk3, if_pos hz, if_pos (by omega)])
          have HX := Hid.mk' (fun w => texty_no kind w (by omega))
          clear hkd hz ht
          go_enter Tryz.func126, Tryz.ntmps126
          go_wp2_with (first
            | (go_at_call 128; refine (HT.out _).mono ?_; rintro e w1 ⟨rfl, rfl⟩)
            | (go_at_call 82; refine (HSa.out _).mono ?_; rintro e w1 ⟨rfl, hb1⟩; have h1 := (Blk.new w #[.int .u8 1, .int .u8 ty, .int .i64 n, .complex .f64 x y, .string s] 124).ext hb1; have k1 := h1.cell; have z1 := h1.lt)
            | (go_at_call 129; refine (HX.out _).mono ?_; rintro e w1 ⟨rfl, rfl⟩))
          go_ret
          exact ⟨ret_int HR.out.symm, by exact eX⟩
      · obtain rfl : k = 0 := by omega
        have HR : Hid (rightC 0 ty n x y s kind = 0) := Hid.mk' (by unfold rightC; rw [if_neg hkd, if_neg hk2, if_pos hk3, if_pos hz, if_neg (by omega)])
        clear hkd hz h1
        go_enter Tryz.func126, Tryz.ntmps126
        go_wp2_with (first
          | (go_at_call 128; refine (HT.out _).mono ?_; rintro e w1 ⟨rfl, rfl⟩)
          | (go_at_call 82; refine (HSa.out _).mono ?_; rintro e w1 ⟨rfl, hb1⟩; have h1 := (Blk.new w #[.int .u8 0, .int .u8 ty, .int .i64 n, .complex .f64 x y, .string s] 124).ext hb1; have k1 := h1.cell; have z1 := h1.lt))
        go_ret
        exact ⟨ret_int HR.out.symm, by exact eX⟩
    · rw [decide_eq_false hz] at HSa
      have HR : Hid (rightC k ty n x y s kind = 3) := Hid.mk' (by unfold rightC; rw [if_neg hkd, if_neg hk2, if_pos hk3, if_neg hz])
      have hkn : (k == 2) = false := by simp; omega
      have hkm : (k != 2) = true := by simp; omega
      clear hkd hz
      go_enter Tryz.func126, Tryz.ntmps126
      go_wp2_with (first
        | (go_at_call 128; refine (HT.out _).mono ?_; rintro e w1 ⟨rfl, rfl⟩)
        | (go_at_call 82; refine (HSa.out _).mono ?_; rintro e w1 ⟨rfl, hb1⟩; have h1 := (Blk.new w #[.int .u8 k, .int .u8 ty, .int .i64 n, .complex .f64 x y, .string s] 124).ext hb1; have k1 := h1.cell; have z1 := h1.lt))
      go_ret
      exact ⟨ret_int HR.out.symm, by exact eX⟩
  · obtain rfl : k = 2 := by omega
    obtain ⟨R, hR⟩ : ∃ R, R = rightV ty n x y s := ⟨_, rfl⟩
    rw [← hR] at HV
    by_cases h0 : R = 0
    · subst h0
      by_cases ht : ty = kind
      · have HR : Hid (rightC 2 ty n x y s kind = 0) := Hid.mk' (right_mk hR.symm ht)
        subst ht
        clear hkd hR
        go_enter Tryz.func126, Tryz.ntmps126
        go_wp2_with (first
          | (go_at_call 128; refine (HT.out _).mono ?_; rintro e w1 ⟨rfl, rfl⟩)
          | (go_at_call 130; refine (HV.out _).mono ?_; rintro e w1 ⟨rfl, hb1⟩; have h1 := (Blk.new w #[.int .u8 2, .int .u8 ty, .int .i64 n, .complex .f64 x y, .string s] 124).ext hb1; have k1 := h1.cell; have z1 := h1.lt))
        go_ret
        exact ⟨ret_int HR.out.symm, by exact eX⟩
      · have HR : Hid (rightC 2 ty n x y s kind = 11) := Hid.mk' (by unfold rightC; rw [if_neg hkd, if_neg hk2, if_neg hk3, if_neg (by rw [← hR]; decide), if_pos ht])
        have ht2 : (ty != kind) = true := by simpa using ht
        clear hkd hR ht
        go_enter Tryz.func126, Tryz.ntmps126
        go_wp2_with (first
          | (go_at_call 128; refine (HT.out _).mono ?_; rintro e w1 ⟨rfl, rfl⟩)
          | (go_at_call 130; refine (HV.out _).mono ?_; rintro e w1 ⟨rfl, hb1⟩; have h1 := (Blk.new w #[.int .u8 2, .int .u8 ty, .int .i64 n, .complex .f64 x y, .string s] 124).ext hb1; have k1 := h1.cell; have z1 := h1.lt))
        go_ret
        exact ⟨ret_int HR.out.symm, by exact eX⟩
    · have HR : Hid (rightC 2 ty n x y s kind = R) := Hid.mk' (by unfold rightC; rw [if_neg hkd, if_neg hk2, if_neg hk3, if_pos (by rw [← hR]; exact h0), hR])
      have h02 : (R != 0) = true := by simpa using h0
      clear hkd hR h0
      go_enter Tryz.func126, Tryz.ntmps126
      go_wp2_with (first
        | (go_at_call 128; refine (HT.out _).mono ?_; rintro e w1 ⟨rfl, rfl⟩)
        | (go_at_call 130; refine (HV.out _).mono ?_; rintro e w1 ⟨rfl, hb1⟩; have h1 := (Blk.new w #[.int .u8 2, .int .u8 ty, .int .i64 n, .complex .f64 x y, .string s] 124).ext hb1; have k1 := h1.cell; have z1 := h1.lt))
      go_ret
      exact ⟨ret_int HR.out.symm, by exact eX⟩

end Go.Proofs.YtdgalkljngigeaaGreat

/-
Equality of two values of the document.
-/
namespace Go.Proofs.YtdgalkljngigeaaGreat
open Go.RowKit

theorem toList_inj2 {s t : ByteArray} (h : s.toList = t.toList) : s = t := by
  have := str_beq s t
  rw [h, beq_self_eq_true] at this
  exact of_decide_eq_true this.symm
set_option maxRecDepth 20000 in
theorem eq_val2 (ty n : Int) (x y : Nat) (s : ByteArray) (w : World) :
    (binOp .eql 117 (.agg #[.int .u8 ty, .int .i64 n, .int .u64 x, .int .u64 y, .string s]) (.agg #[.int .u8 ty, .int .i64 n, .int .u64 x, .int .u64 y, .string s])).run Tryz.prog w = .ok (.bool true) w := by
  simp [go_sem]

theorem toList_inj' {s t : ByteArray} (h : s.toList = t.toList) : s = t := by
  have := str_beq s t
  rw [h, beq_self_eq_true] at this
  exact of_decide_eq_true this.symm
set_option maxRecDepth 20000 in
theorem eq_val (ty n : Int) (x y : Nat) (s : ByteArray) (ty' n' : Int) (x' y' : Nat) (s' : ByteArray) (w : World) :
    (binOp .eql 117 (.agg #[.int .u8 ty, .int .i64 n, .int .u64 x, .int .u64 y, .string s]) (.agg #[.int .u8 ty', .int .i64 n', .int .u64 x', .int .u64 y', .string s'])).run Tryz.prog w = .ok (.bool (sameB ty n x y s ty' n' x' y' s')) w := by
  by_cases h1 : ty = ty' <;> by_cases h2 : n = n' <;> by_cases h3 : x = x' <;> by_cases h4 : y = y' <;> by_cases h5 : s = s' <;> simp [go_sem, sameB, h1, h2, h3, h4, h5]
  all_goals first
    | (intro h; exact absurd (toList_inj' h) h5)
    | omega
    | (intros; omega)
    | (intros; intro h; exact absurd (toList_inj' h) h5)


end Go.Proofs.YtdgalkljngigeaaGreat

/-
The laws' Back of a value; a value against itself.
-/
namespace Go.Proofs.YtdgalkljngigeaaGreat
open Go.RowKit

set_option maxRecDepth 100000 in set_option maxHeartbeats 1600000 in
theorem vback_any (ty n : Int) (x y : Nat) (s : ByteArray) (w : World) :
    Calls Tryz.prog 81 #[.agg #[.int .u8 ty, .int .i64 n, .complex .f64 x y, .string s]] w fun e w' =>
      e = .returned (.agg #[.int .u8 ty, .int .i64 n, .int .u64 x, .int .u64 y, .string s]) ∧ Ext w w' := by
  go_enter Tryz.func81, Tryz.ntmps81
  go_wp2_with (go_at_call 100; refine (vbits_any x y _).mono ?_; rintro e w1 ⟨rfl, rfl⟩)
  refine bodyPost_ret (v := .agg #[.int .u8 ty, .int .i64 n, .int .u64 x, .int .u64 y, .string s]) (by simp [results, Tryz.results81, go_sem]) rfl ⟨rfl, by exact eX⟩

set_option maxRecDepth 20000 in
theorem neq_val (ty n : Int) (x y : Nat) (s : ByteArray) (w : World) :
    (binOp .neq 117 (.agg #[.int .u8 ty, .int .i64 n, .int .u64 x, .int .u64 y, .string s]) (.agg #[.int .u8 ty, .int .i64 n, .int .u64 x, .int .u64 y, .string s])).run Tryz.prog w = .ok (.bool false) w := by
  simp [go_sem]

end Go.Proofs.YtdgalkljngigeaaGreat

/-
The laws' Back of a cell; equality of two cells of the document.
-/
namespace Go.Proofs.YtdgalkljngigeaaGreat
open Go.RowKit

set_option maxRecDepth 100000 in set_option maxHeartbeats 1600000 in
theorem eq_cell (k ty n : Int) (x y : Nat) (s : ByteArray) (k' ty' n' : Int) (x' y' : Nat) (s' : ByteArray) (w : World) :
    (binOp .eql 119 (.agg #[.int .u8 k, .int .u8 ty, .int .i64 n, .int .u64 x, .int .u64 y, .string s]) (.agg #[.int .u8 k', .int .u8 ty', .int .i64 n', .int .u64 x', .int .u64 y', .string s'])).run Tryz.prog w = .ok (.bool (alikeB k ty n x y s k' ty' n' x' y' s')) w := by
  by_cases h0 : k = k' <;> by_cases h1 : ty = ty' <;> by_cases h2 : n = n' <;> by_cases h3 : x = x' <;> by_cases h4 : y = y' <;> by_cases h5 : s = s' <;> simp [go_sem, alikeB, h0, h1, h2, h3, h4, h5]
  all_goals first
    | (intro h; exact absurd (toList_inj' h) h5)
    | omega
    | (intros; omega)
    | (intros; intro h; exact absurd (toList_inj' h) h5)

set_option maxRecDepth 100000 in set_option maxHeartbeats 1600000 in
theorem cback_any (k ty n : Int) (x y : Nat) (s : ByteArray) (w : World) :
    Calls Tryz.prog 55 #[.agg #[.int .u8 k, .int .u8 ty, .int .i64 n, .complex .f64 x y, .string s]] w fun e w' =>
      e = .returned (.agg #[.int .u8 k, .int .u8 ty, .int .i64 n, .int .u64 x, .int .u64 y, .string s]) ∧ Ext w w' := by
  go_enter Tryz.func55, Tryz.ntmps55
  go_wp2
  go_region_held3 (fun w' => Ext (w.alloc (.cells #[.int .u8 k, .int .u8 ty, .int .i64 n, .complex .f64 x y, .string s] 124)) w' ∧ (∀ b o, b < (w.alloc (.cells #[.int .u8 k, .int .u8 ty, .int .i64 n, .complex .f64 x y, .string s] 124)).heap.size → w'.cell? ⟨b, o, none⟩ = (w.alloc (.cells #[.int .u8 k, .int .u8 ty, .int .i64 n, .complex .f64 x y, .string s] 124)).cell? ⟨b, o, none⟩) ∧ (∀ b o, b < (w.alloc (.cells #[.int .u8 k, .int .u8 ty, .int .i64 n, .complex .f64 x y, .string s] 124)).heap.size → w'.frozen? ⟨b, o, none⟩ = (w.alloc (.cells #[.int .u8 k, .int .u8 ty, .int .i64 n, .complex .f64 x y, .string s] 124)).frozen? ⟨b, o, none⟩)) ((exact held_of (by exact eX)))
    (first
      | (go_at_call 81; refine (vback_any ty n x y s _).mono ?_; rintro e w' ⟨rfl, hb⟩; obtain ⟨hc, hf⟩ := hb.cells))
  go_wp2
  simp [bodyPost, results, Tryz.results55, go_sem, *]
  exact eX

end Go.Proofs.YtdgalkljngigeaaGreat

/-
Rows: the laws' Own and Back of a list of cells; whether a law looks at so much.
-/
namespace Go.Proofs.YtdgalkljngigeaaGreat
open Go.RowKit

/-- A cell's cells, the program's and the document's. -/
def K.pc (c : K) : List Value := [.int .u8 c.k, .int .u8 c.v.ty, .int .i64 c.v.n, .complex .f64 c.v.x c.v.y, .string c.v.s]
def K.rc (c : K) : List Value := [.int .u8 c.k, .int .u8 c.v.ty, .int .i64 c.v.n, .int .u64 c.v.x, .int .u64 c.v.y, .string c.v.s]
theorem K.pcAt {w wr : World} {b o : Nat} {l : List K} {k : Nat} (hk : k < l.length) (hc : ∀ j, j < 5 → w.cell? ⟨b, o + k * 5 + j, none⟩ = ((l.map K.pc).getD k [])[j]?) (hb : b < w.heap.size) (hE : Ext w wr) :
    wr.cell? ⟨b, o + k * 5, none⟩ = some (.int .u8 l[k].k) ∧ wr.cell? ⟨b, o + k * 5 + 1, none⟩ = some (.int .u8 l[k].v.ty) ∧ wr.cell? ⟨b, o + k * 5 + 2, none⟩ = some (.int .i64 l[k].v.n) ∧
    wr.cell? ⟨b, o + k * 5 + 3, none⟩ = some (.complex .f64 l[k].v.x l[k].v.y) ∧ wr.cell? ⟨b, o + k * 5 + 4, none⟩ = some (.string l[k].v.s) := by
  rw [getD_map K.pc l hk] at hc
  have c := hE.cells.1 b
  exact ⟨(c _ hb).trans (hc 0 (by omega)), (c _ hb).trans (hc 1 (by omega)), (c _ hb).trans (hc 2 (by omega)), (c _ hb).trans (hc 3 (by omega)), (c _ hb).trans (hc 4 (by omega))⟩
theorem K.rcAt {w wr : World} {b o : Nat} {l : List K} {k : Nat} (hk : k < l.length) (hc : ∀ j, j < 6 → w.cell? ⟨b, o + k * 6 + j, none⟩ = ((l.map K.rc).getD k [])[j]?) (hb : b < w.heap.size) (hE : Ext w wr) :
    wr.cell? ⟨b, o + k * 6, none⟩ = some (.int .u8 l[k].k) ∧ wr.cell? ⟨b, o + k * 6 + 1, none⟩ = some (.int .u8 l[k].v.ty) ∧ wr.cell? ⟨b, o + k * 6 + 2, none⟩ = some (.int .i64 l[k].v.n) ∧
    wr.cell? ⟨b, o + k * 6 + 3, none⟩ = some (.int .u64 l[k].v.x) ∧ wr.cell? ⟨b, o + k * 6 + 4, none⟩ = some (.int .u64 l[k].v.y) ∧ wr.cell? ⟨b, o + k * 6 + 5, none⟩ = some (.string l[k].v.s) := by
  rw [getD_map K.rc l hk] at hc
  have c := hE.cells.1 b
  exact ⟨(c _ hb).trans (hc 0 (by omega)), (c _ hb).trans (hc 1 (by omega)), (c _ hb).trans (hc 2 (by omega)), (c _ hb).trans (hc 3 (by omega)), (c _ hb).trans (hc 4 (by omega)), (c _ hb).trans (hc 5 (by omega))⟩

theorem Tryz.infoCellP : (Tryz.prog.info? 124).map (fun i => (i.zero, i.size, i.bytes)) = some (some (.agg #[.int .u8 0, .int .u8 0, .int .i64 0, .complex .f64 0 0, .string ByteArray.empty]), 5, 56) := by kernel_rfl
theorem Tryz.infoCellR : (Tryz.prog.info? 119).map (fun i => (i.zero, i.size, i.bytes)) = some (some (.agg #[.int .u8 0, .int .u8 0, .int .i64 0, .int .u64 0, .int .u64 0, .string ByteArray.empty]), 6, 56) := by kernel_rfl

set_option maxRecDepth 100000 in set_option maxHeartbeats 1600000 in
theorem ownK_any (l : List K) (a : Option Addr) (cap : Nat) (w : World) (hl : Sl w (.slice a l.length cap) 6 (l.map K.rc)) (hlen : l.length ≤ 1000) :
    Calls Tryz.prog 24 #[.slice a l.length cap] w fun e w' => ∃ a' cap', e = .returned (.slice a' l.length cap') ∧ l.length ≤ cap' ∧ Sl w' (.slice a' l.length cap') 5 (l.map K.pc) ∧ Ext w w' := by
  have HL := Hid.mk' hl
  clear hl
  obtain ⟨i0, hi, hz0, hz1, hz2⟩ := info_parts Tryz.infoCellP
  go_enter Tryz.func24, Tryz.ntmps24
  go_wp2
  go_loopw [3, 4] (fun v i wr => ∃ k : Nat, k ≤ l.length ∧ i = .int .i64 k ∧ Hid (wr.ownsRow w.heap.size 124 5 v k ((l.map K.pc).take k).flatten) ∧ Hid (Ext w wr)) (fun _ i _ => l.length - (intOf i).toNat)
  case atStart => exact ⟨0, Nat.zero_le _, rfl, World.ownsRow_nil _ _ _ _, Ext.refl _⟩
  case round =>
    obtain ⟨k, hk, rfl, hown, hE⟩ := hrel
    by_cases hlt : k < l.length
    · obtain ⟨b, o, rfl, hb, hx⟩ := HL.out.at_ (i := k) (by simpa using hlt)
      obtain ⟨f0, f1, f2, f3, f4, f5⟩ := K.rcAt hlt hx hb hE.out
      have hbw : b < wr.heap.size := Nat.lt_of_lt_of_le hb hE.out.size
      have HT := Hid.mk' (flat_snoc (f := K.pc) hlt)
      have HC := Hid.mk' (fun w => cown_any l[k].k l[k].v.ty l[k].v.n l[k].v.x l[k].v.y l[k].v.s w)
      simp only [Int.toNat_natCast] at HC
      obtain ⟨c, hc⟩ : ∃ c, c = l[k] := ⟨_, rfl⟩
      rw [← hc] at f0 f1 f2 f3 f4 f5 HT HC
      clear hc hx
      go_wp2_with (first
        | (go_at_call 52; refine (HC.out _).mono ?_; rintro e w1 ⟨rfl, hb1⟩; have HB1 := Hid.mk' hb1; have hz1' := hb1.size; clear hb1)
        | (at_builtin; refine wpList_append_own _ rfl _ _ 71 rfl w.heap.size 124 i0 _ 5 56 Tryz.underlying71 hi hz0 hz1 hz2 rfl (by decide) _ _ _ rfl ((owns_ext hown.out HB1.out).alloc _) ⟨_, 0, none⟩ 1 1 c.pc rfl rfl ?c1 ?c2 ?c3 ?c4 ?c5 ?_))
      case c1 => exact cells_new _ #[.int .u8 c.k, .int .u8 c.v.ty, .int .i64 c.v.n, .complex .f64 c.v.x c.v.y, .string c.v.s] _
      case c2 => intro u hu; simp [K.pc] at hu; rcases hu with rfl | rfl | rfl | rfl | rfl <;> rfl
      case c3 => unfold maxLen; omega
      case c4 => omega
      case c5 => have := (hE.out.trans HB1.out).size; simp; omega
      · intro v' w2 hown' hgrow _
        have HE2 := Hid.mk' (((hE.out.trans HB1.out).alloc _).grown ((owns_ext hown.out HB1.out).alloc _) hgrow)
        have HO2 := Hid.mk' hown'
        clear hown' hgrow
        go_wp2
        go_roundw
        case rel => exact ⟨k + 1, by omega, by go_num, Hid.mk' (by rw [HT.out]; exact HO2.out), HE2⟩
        case measure => simp [intOf]; omega
    · have hkk : k = l.length := by omega
      subst hkk
      rw [show l.length = (l.map K.pc).length by simp, List.take_length] at hown
      rw [List.length_map] at hown
      obtain ⟨a', c', rfl⟩ := owns_shape hown.out
      go_wp2
      go_ret
      refine ⟨a', c', rfl, owns_cap hown.out, Sl.of_owns (base := w.heap.size) (e := 124) ?_ ?_, hE.out⟩
      · have e : (l.map K.pc).length = l.length := by simp
        rw [e]; exact hown.out
      · intro xs hxs; simp at hxs; obtain ⟨a, _, rfl⟩ := hxs; rfl

set_option maxRecDepth 100000 in set_option maxHeartbeats 1600000 in
theorem backK_any (l : List K) (a : Option Addr) (cap : Nat) (w : World) (hl : Sl w (.slice a l.length cap) 5 (l.map K.pc)) (hlen : l.length ≤ 1000) :
    Calls Tryz.prog 27 #[.slice a l.length cap] w fun e w' => ∃ a' cap', e = .returned (.slice a' l.length cap') ∧ l.length ≤ cap' ∧ Sl w' (.slice a' l.length cap') 6 (l.map K.rc) ∧ Ext w w' := by
  have HL := Hid.mk' hl
  clear hl
  obtain ⟨i0, hi, hz0, hz1, hz2⟩ := info_parts Tryz.infoCellR
  go_enter Tryz.func27, Tryz.ntmps27
  go_wp2
  go_loopw [3, 4] (fun v i wr => ∃ k : Nat, k ≤ l.length ∧ i = .int .i64 k ∧ Hid (wr.ownsRow w.heap.size 119 6 v k ((l.map K.rc).take k).flatten) ∧ Hid (Ext w wr)) (fun _ i _ => l.length - (intOf i).toNat)
  case atStart => exact ⟨0, Nat.zero_le _, rfl, World.ownsRow_nil _ _ _ _, Ext.refl _⟩
  case round =>
    obtain ⟨k, hk, rfl, hown, hE⟩ := hrel
    by_cases hlt : k < l.length
    · obtain ⟨b, o, rfl, hb, hx⟩ := HL.out.at_ (i := k) (by simpa using hlt)
      obtain ⟨f0, f1, f2, f3, f4⟩ := K.pcAt hlt hx hb hE.out
      have hbw : b < wr.heap.size := Nat.lt_of_lt_of_le hb hE.out.size
      have HT := Hid.mk' (flat_snoc (f := K.rc) hlt)
      have HC := Hid.mk' (fun w => cback_any l[k].k l[k].v.ty l[k].v.n l[k].v.x l[k].v.y l[k].v.s w)
      obtain ⟨c, hc⟩ : ∃ c, c = l[k] := ⟨_, rfl⟩
      rw [← hc] at f0 f1 f2 f3 f4 HT HC
      clear hc hx
      go_wp2_with (first
        | (go_at_call 55; refine (HC.out _).mono ?_; rintro e w1 ⟨rfl, hb1⟩; have HB1 := Hid.mk' hb1; have hz1' := hb1.size; clear hb1)
        | (at_builtin; refine wpList_append_own _ rfl _ _ 45 rfl w.heap.size 119 i0 _ 6 56 Tryz.underlying45 hi hz0 hz1 hz2 rfl (by decide) _ _ _ rfl ((owns_ext hown.out HB1.out).alloc _) ⟨_, 0, none⟩ 1 1 c.rc rfl rfl ?c1 ?c2 ?c3 ?c4 ?c5 ?_))
      case c1 => exact cells_new _ #[.int .u8 c.k, .int .u8 c.v.ty, .int .i64 c.v.n, .int .u64 c.v.x, .int .u64 c.v.y, .string c.v.s] _
      case c2 => intro u hu; simp [K.rc] at hu; rcases hu with rfl | rfl | rfl | rfl | rfl | rfl <;> rfl
      case c3 => unfold maxLen; omega
      case c4 => omega
      case c5 => have := (hE.out.trans HB1.out).size; simp; omega
      · intro v' w2 hown' hgrow _
        have HE2 := Hid.mk' (((hE.out.trans HB1.out).alloc _).grown ((owns_ext hown.out HB1.out).alloc _) hgrow)
        have HO2 := Hid.mk' hown'
        clear hown' hgrow
        go_wp2
        go_roundw
        case rel => exact ⟨k + 1, by omega, by go_num, Hid.mk' (by rw [HT.out]; exact HO2.out), HE2⟩
        case measure => simp [intOf]; omega
    · have hkk : k = l.length := by omega
      subst hkk
      rw [show l.length = (l.map K.rc).length by simp, List.take_length] at hown
      rw [List.length_map] at hown
      obtain ⟨a', c', rfl⟩ := owns_shape hown.out
      go_wp2
      go_ret
      refine ⟨a', c', rfl, owns_cap hown.out, Sl.of_owns (base := w.heap.size) (e := 119) ?_ ?_, hE.out⟩
      · have e : (l.map K.rc).length = l.length := by simp
        rw [e]; exact hown.out
      · intro xs hxs; simp at hxs; obtain ⟨a, _, rfl⟩ := hxs; rfl

end Go.Proofs.YtdgalkljngigeaaGreat
