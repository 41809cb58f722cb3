/-
Rows beside a reader; a map of bits taken: the program's mapped.
-/
import Derived.Deep.CutBlock
import Derived.Deep.RegionLaw
import Derived.Test.YtlobghojjfkchaaGreatP14
namespace Go.Proofs.YtlobghojjfkchaaGreat
open Go.RowKit

theorem owns_tch {w w1 : World} {g base : Nat} {e : TypeId} {size n : Nat} {v : Value} {xs : List Value} (h : w.ownsRow base e size v n xs) (ht : Tch g w w1) (hg : g < base) : w1.ownsRow base e size v n xs := by
  obtain ⟨h1, h2⟩ := h
  refine ⟨h1, ?_⟩
  rcases h2 with h2 | ⟨k, cap, cur, hv, hb, hh, hr⟩
  · exact .inl h2
  · exact .inr ⟨k, cap, cur, hv, hb, Blk.tch (b := k) hh ht (by omega), hr⟩
theorem OB.tch {w w1 : World} {g base : Nat} {v : Value} {l : List Int} (h : OB w base v l) (ht : Tch g w w1) (hg : g < base) : OB w1 base v l := owns_tch h ht hg
theorem Tch.grown {g : Nat} {w w1 w2 : World} {row : Option Nat} (h : Tch g w w1) (hg : w1.grownBy w2 row) (hr : ∀ j, row = some j → w.heap.size ≤ j) : Tch g w w2 :=
  ⟨hg.os.trans h.os, hg.tape.trans h.tape, hg.output.trans h.output, Nat.le_trans h.size hg.size, fun k hk hne => (hg.block k (Nat.lt_of_lt_of_le hk h.size) (fun e => by have := hr k e.symm; omega)).trans (h.block k hk hne)⟩
theorem RD.grown {w1 w2 : World} {g d : Nat} {st : RS} {row : Option Nat} (h : RD w1 g d st) (hg : w1.grownBy w2 row) (hr : ∀ j, row = some j → g < j) : RD w2 g d st := by
  cases row with
  | none => exact h.ext ⟨hg.os, hg.tape, hg.output, hg.size, fun k hk => hg.block k hk (by simp)⟩
  | some j =>
    have := hr j rfl
    exact h.tch (h := j) ⟨hg.os, hg.tape, hg.output, hg.size, fun k hk hne => hg.block k hk (by simpa using hne)⟩ (by omega) (.inr (by omega))
theorem RF.grown {w1 w2 : World} {g d : Nat} {st : RS} {row : Option Nat} (h : RF w1 g d st) (hg : w1.grownBy w2 row) (hr : ∀ j, row = some j → g < j) : RF w2 g d st := by
  cases row with
  | none => exact h.ext ⟨hg.os, hg.tape, hg.output, hg.size, fun k hk => hg.block k hk (by simp)⟩
  | some j =>
    have := hr j rfl
    exact h.tch (h := j) ⟨hg.os, hg.tape, hg.output, hg.size, fun k hk hne => hg.block k hk (by simpa using hne)⟩ (by omega) (.inr (by omega))
theorem Sl.tch {w w1 : World} {g k : Nat} {a : Option Addr} {n cap : Nat} {xss : List (List Value)} (h : Sl w (.slice a n cap) k xss) (ht : Tch g w w1) (hg : ∀ b o, a = some ⟨b, o, none⟩ → b ≠ g) : Sl w1 (.slice a n cap) k xss := by
  obtain ⟨a', c', hv, h⟩ := h
  simp only [Value.slice.injEq] at hv
  obtain ⟨rfl, hn, rfl⟩ := hv
  refine ⟨a, cap, by rw [hn], ?_⟩
  rcases h with h | ⟨b, o, rfl, hb, hc⟩
  · exact .inl h
  · exact .inr ⟨b, o, rfl, Nat.lt_of_lt_of_le hb ht.size, fun i hi j hj => (ht.cell hb (hg b o rfl) _).trans (hc i hi j hj)⟩

end Go.Proofs.YtlobghojjfkchaaGreat

/-
The program's Take of a value.
-/
namespace Go.Proofs.YtlobghojjfkchaaGreat
open Go.RowKit

theorem Tch.set1 (g : Nat) (w : World) (i : Nat) (v : Value) : Tch g w (w.setCell ⟨g, i, none⟩ v) := (Tch.refl g w).set i v

def TkRel (g d : Nat) (w : World) (V0 : V) (S : RS) (wx : World) : Prop :=
  Blk wx (w.heap.size + 1) #[.int .u8 V0.ty, .int .i64 V0.n, .complex .f64 V0.x V0.y, .string V0.s] 193 ∧ Blk wx w.heap.size #[.int .u8 0, .int .i64 0, .complex .f64 0 0, .string ByteArray.empty] 193 ∧ RD wx g d S ∧ Tch g w wx

theorem TkRel.mk' {g d : Nat} {w wx : World} {V0 : V} {S : RS} {ty n : Int} {x y : Nat} {s : ByteArray} (hV : V0 = ⟨ty, n, x, y, s⟩) (h7 : Blk wx (w.heap.size + 1) #[.int .u8 ty, .int .i64 n, .complex .f64 x y, .string s] 193)
    (h6 : Blk wx w.heap.size #[.int .u8 0, .int .i64 0, .complex .f64 0 0, .string ByteArray.empty] 193) (hr : RD wx g d S) (ht : Tch g w wx) : TkRel g d w V0 S wx := by
  subst hV; exact ⟨h7, h6, hr, ht⟩
/-- Behind a store into the new value. -/
theorem TkRel.set {g d : Nat} {w w1 : World} {V0 : V} {S : RS} {ty n : Int} {x y : Nat} {s : ByteArray} {ty' n' : Int} {x' y' : Nat} {s' : ByteArray} (i : Nat) (v : Value) (hV : V0 = ⟨ty, n, x, y, s⟩)
    (he : (#[.int .u8 ty', .int .i64 n', .complex .f64 x' y', .string s'] : Array Value).setIfInBounds i v = #[.int .u8 ty, .int .i64 n, .complex .f64 x y, .string s]) (hg : g < w.heap.size)
    (h7 : Blk w1 (w.heap.size + 1) #[.int .u8 ty', .int .i64 n', .complex .f64 x' y', .string s'] 193)
    (h6 : Blk w1 w.heap.size #[.int .u8 0, .int .i64 0, .complex .f64 0 0, .string ByteArray.empty] 193) (hr : RD w1 g d S) (ht : Tch g w w1) : TkRel g d w V0 S (w1.setCell ⟨w.heap.size + 1, i, none⟩ v) := by
  refine TkRel.mk' hV (by rw [← he]; exact h7.set i v) (h6.other _ _ (by simp)) (hr.tch ((Tch.refl (w.heap.size + 1) w1).set i v) (by omega) (.inr (by omega))) (ht.setNew (by omega) _ _)

end Go.Proofs.YtlobghojjfkchaaGreat

/-
Storing a cell, the program's or the document's, into a block that is known whole.
-/
namespace Go.Proofs.YtlobghojjfkchaaGreat
open Go.RowKit

theorem Blk.five {W : World} {b : Nat} {u0 u1 u2 u3 u4 v0 v1 v2 v3 v4 : Value} {T : TypeId} (h : Blk W b #[u0, u1, u2, u3, u4] T) :
    Blk (((((W.setCell ⟨b, 0, none⟩ v0).setCell ⟨b, 1, none⟩ v1).setCell ⟨b, 2, none⟩ v2).setCell ⟨b, 3, none⟩ v3).setCell ⟨b, 4, none⟩ v4) b #[v0, v1, v2, v3, v4] T := ((((h.set 0 _).set 1 _).set 2 _).set 3 _).set 4 _
theorem RD.set {W : World} {g d b : Nat} {st : RS} (h : RD W g d st) (hb : g < b) (i : Nat) (v : Value) : RD (W.setCell ⟨b, i, none⟩ v) g d st := h.tch (Tch.set1 b W i v) (by omega) (.inr (by omega))
theorem RF.set {W : World} {g d b : Nat} {st : RS} (h : RF W g d st) (hb : g < b) (i : Nat) (v : Value) : RF (W.setCell ⟨b, i, none⟩ v) g d st := h.tch (Tch.set1 b W i v) (by omega) (.inr (by omega))
theorem RD.five {W : World} {g d b : Nat} {st : RS} {v0 v1 v2 v3 v4 : Value} (h : RD W g d st) (hb : g < b) :
    RD (((((W.setCell ⟨b, 0, none⟩ v0).setCell ⟨b, 1, none⟩ v1).setCell ⟨b, 2, none⟩ v2).setCell ⟨b, 3, none⟩ v3).setCell ⟨b, 4, none⟩ v4) g d st := ((((h.set hb 0 _).set hb 1 _).set hb 2 _).set hb 3 _).set hb 4 _
theorem Tch.five {w W : World} {g b : Nat} {v0 v1 v2 v3 v4 : Value} (h : Tch g w W) (hb : w.heap.size ≤ b) :
    Tch g w (((((W.setCell ⟨b, 0, none⟩ v0).setCell ⟨b, 1, none⟩ v1).setCell ⟨b, 2, none⟩ v2).setCell ⟨b, 3, none⟩ v3).setCell ⟨b, 4, none⟩ v4) := ((((h.setNew hb 0 _).setNew hb 1 _).setNew hb 2 _).setNew hb 3 _).setNew hb 4 _
def K.agg (c : K) : Value := .agg #[.int .u8 c.k, .int .u8 c.v.ty, .int .i64 c.v.n, .complex .f64 c.v.x c.v.y, .string c.v.s]
def CTPost (g d : Nat) (w : World) (R : (K × Nat) × RS) (e : Ending) (w' : World) : Prop := ∃ (c : K) (m : Nat), e = .returned (.tuple #[c.agg, .int .i64 m]) ∧ (R.2.e = 0 → (c, m) = R.1) ∧ RD w' g d R.2 ∧ Tch g w w'
theorem CTPost.mk' {g d : Nat} {w w' : World} {R : (K × Nat) × RS} (c : K) (m : Nat) {S : RS} (h2 : R.2 = S) (h1 : R.2.e = 0 → (c, m) = R.1) (hr : RD w' g d S) (ht : Tch g w w') : CTPost g d w R (.returned (.tuple #[c.agg, .int .i64 m])) w' :=
  ⟨c, m, rfl, h1, by rw [h2]; exact hr, ht⟩

end Go.Proofs.YtlobghojjfkchaaGreat

/-
The program's cell: large and first.
-/
namespace Go.Proofs.YtlobghojjfkchaaGreat
open Go.RowKit

end Go.Proofs.YtlobghojjfkchaaGreat

/-
The program's cell: second.
-/
namespace Go.Proofs.YtlobghojjfkchaaGreat
open Go.RowKit

end Go.Proofs.YtlobghojjfkchaaGreat
