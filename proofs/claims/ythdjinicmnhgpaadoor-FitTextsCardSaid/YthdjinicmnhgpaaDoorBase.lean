/-
Small general laws: stores of floats and complex numbers; worlds that only grow.
-/
import Derived.Test.YthdjinicmnhgpaaDoorRows
import Derived.WalkKit
import Derived.WalkSpells
import Derived.WalkLawsBesides
import Derived.Laws.EntriesVeiled
import Derived.Laws.ComplexArith
import Derived.Deep.QuietTactic
import Derived.BigQuiet
import Derived.Deep.RegionHeld3
import Derived.Deep.RegionWith
import Derived.StillTailTactics
import Derived.Deep.LoopGhost
import Derived.Deep.DeepCutAuto
namespace Go.Proofs.YthdjinicmnhgpaaDoor
open Go.RowKit
section
variable {P : Program} (w : World) (a : Addr) (m : Mode)
@[go_sem] theorem run_store_complex (k : FloatKind) (x y : Nat) : (store a (.complex k x y) m).run P w = stored P w a (.complex k x y) m := run_store P w a _ m rfl
@[go_sem] theorem run_store_float (k : FloatKind) (x : Nat) : (store a (.float k x) m).run P w = stored P w a (.float k x) m := run_store P w a _ m rfl
end

/-- A fact behind a name: the walk's simp does not look there. -/
theorem Hid.mk' {p : Prop} (h : p) : Hid p := h

/-- The world has grown; what there was is as it was. -/
def Ext (w w' : World) : Prop := Below w.heap.size w w'
theorem Ext.refl (w : World) : Ext w w := Below.refl _ _
theorem Ext.alloc {w w1 : World} (h : Ext w w1) (o : Obj) : Ext w (w1.alloc o) := Below.alloc h h.size o
theorem Ext.drew {w w1 : World} (h : Ext w w1) : Ext w w1.drew := Below.drew h
theorem Ext.drewN {w w1 : World} (h : Ext w w1) (n : Nat) : Ext w (w1.drewN n) := ⟨h.os, h.tape, h.output, h.size, h.block⟩
theorem Ext.trans {w w1 w2 : World} (h : Ext w w1) (k : Ext w1 w2) : Ext w w2 := Below.trans h (Below.mono k h.size)
theorem Ext.size {w w1 : World} (h : Ext w w1) : w.heap.size ≤ w1.heap.size := Below.size h
theorem Ext.cells {W w1 : World} (hb : Ext W w1) : (∀ b o, b < W.heap.size → w1.cell? ⟨b, o, none⟩ = W.cell? ⟨b, o, none⟩) ∧ (∀ b o, b < W.heap.size → w1.frozen? ⟨b, o, none⟩ = W.frozen? ⟨b, o, none⟩) :=
  ⟨fun b o h => Below.cell hb (p := ⟨b, o, none⟩) h, fun b o h => Below.frozen hb (p := ⟨b, o, none⟩) h⟩
theorem held_of {W w1 : World} (h : Ext W w1) : Ext W w1 ∧ (∀ b o, b < W.heap.size → w1.cell? ⟨b, o, none⟩ = W.cell? ⟨b, o, none⟩) ∧ (∀ b o, b < W.heap.size → w1.frozen? ⟨b, o, none⟩ = W.frozen? ⟨b, o, none⟩) := ⟨h, h.cells⟩
theorem held_left {W w1 : World} {q : Prop} (h : Ext W w1 ∧ q) : Ext W w1 := h.1
theorem Ext.setCell {w w1 : World} (h : Ext w w1) {p : Addr} (hp : w.heap.size ≤ p.block) (u : Value) : Ext w (w1.setCell p u) := Below.setCell h hp u

theorem ret_int {k : IntKind} {a b : Int} (h : a = b) : Ending.returned (.int k a) = .returned (.int k b) := by rw [h]
theorem ret_bool {a b : Bool} (h : a = b) : Ending.returned (.bool a) = .returned (.bool b) := by rw [h]
theorem isEmpty_size (s : ByteArray) : s.toList.isEmpty = decide (s.size = 0) := by
  have h : s.size = s.data.toList.length := by simp only [Array.length_toList]; rfl
  rw [ByteArray.toList_eq, h]
  cases s.data.toList <;> simp

/-- A block that is known whole; no cell of it is frozen. -/
def Blk (w : World) (b : Nat) (cs : Array Value) (t : TypeId) : Prop := w.heap[b]? = some (.cells cs t (0, 0))
theorem Blk.lt {w : World} {b : Nat} {cs : Array Value} {t : TypeId} (h : Blk w b cs t) : b < w.heap.size := by
  rcases Nat.lt_or_ge b w.heap.size with h1 | h1
  · exact h1
  · unfold Blk at h; rw [Array.getElem?_eq_none h1] at h; cases h
theorem Blk.cell {w : World} {b : Nat} {cs : Array Value} {t : TypeId} (h : Blk w b cs t) : ∀ o, w.cell? ⟨b, o, none⟩ = cs[o]? := by
  intro o; unfold World.cell?; unfold Blk at h; simp only [h]; rfl
theorem Blk.frozen {w : World} {b : Nat} {cs : Array Value} {t : TypeId} (h : Blk w b cs t) : ∀ o, w.frozen? ⟨b, o, none⟩ = false := by
  intro o; unfold World.frozen?; unfold Blk at h; simp only [h]; simp
theorem Blk.ext {w w1 : World} {b : Nat} {cs : Array Value} {t : TypeId} (h : Blk w b cs t) (he : Ext w w1) : Blk w1 b cs t := (he.block b h.lt).trans h
theorem Blk.alloc {w : World} {b : Nat} {cs : Array Value} {t : TypeId} (h : Blk w b cs t) (o : Obj) : Blk (w.alloc o) b cs t := h.ext ((Ext.refl w).alloc o)
theorem Blk.drew {w : World} {b : Nat} {cs : Array Value} {t : TypeId} (h : Blk w b cs t) : Blk w.drew b cs t := h
theorem Blk.drewN {w : World} {b : Nat} {cs : Array Value} {t : TypeId} (h : Blk w b cs t) (n : Nat) : Blk (w.drewN n) b cs t := h
theorem Blk.new (w : World) (cs : Array Value) (t : TypeId) : Blk (w.alloc (.cells cs t)) w.heap.size cs t := by
  show (w.heap.push _)[w.heap.size]? = _
  simp
theorem Blk.new' {w : World} {b : Nat} (cs : Array Value) (t : TypeId) (h : b = w.heap.size) : Blk (w.alloc (.cells cs t)) b cs t := h ▸ Blk.new w cs t
theorem Blk.set {w : World} {b : Nat} {cs : Array Value} {t : TypeId} (h : Blk w b cs t) (i : Nat) (v : Value) : Blk (w.setCell ⟨b, i, none⟩ v) b (cs.setIfInBounds i v) t := by
  unfold Blk at *
  simp only [World.setCell, Array.getElem?_modify, h, if_true, Option.map_some]
  rfl
theorem Blk.other {w : World} {b : Nat} {cs : Array Value} {t : TypeId} (h : Blk w b cs t) (a : Addr) (v : Value) (hne : b ≠ a.block) : Blk (w.setCell a v) b cs t :=
  (Below.heap_setCell w a v b hne).trans h

/-- The slice v has the elements xss, each of k cells. -/
def Sl (w : World) (v : Value) (k : Nat) (xss : List (List Value)) : Prop :=
  ∃ a cap, v = .slice a xss.length cap ∧ (xss = [] ∨ ∃ b o, a = some ⟨b, o, none⟩ ∧ b < w.heap.size ∧ ∀ i, i < xss.length → ∀ j, j < k → w.cell? ⟨b, o + i * k + j, none⟩ = (xss.getD i [])[j]?)
theorem Sl.ext {w w1 : World} {v : Value} {k : Nat} {xss : List (List Value)} (h : Sl w v k xss) (he : Ext w w1) : Sl w1 v k xss := by
  obtain ⟨a, cap, rfl, h⟩ := h
  refine ⟨a, cap, rfl, ?_⟩
  rcases h with h | ⟨b, o, rfl, hb, hc⟩
  · exact .inl h
  · exact .inr ⟨b, o, rfl, Nat.lt_of_lt_of_le hb he.size, fun i hi j hj => (he.cells.1 b _ hb).trans (hc i hi j hj)⟩

end Go.Proofs.YthdjinicmnhgpaaDoor
