/-
Storing a cell, the program's or the document's, into a block that is known whole.
-/
import Derived.Test.YtmpnopjkpamhaaaCellG
import Derived.Test.YtmpnopjkpamhaaaTake
import Derived.Test.YtmpnopjkpamhaaaRfr
namespace Go.Proofs.Ytmpnopjkpamhaaa
open Go.RowKit

theorem Blk.five {W : World} {b : Nat} {u0 u1 u2 u3 u4 v0 v1 v2 v3 v4 : Value} {T : TypeId} (h : Blk W b #[u0, u1, u2, u3, u4] T) :
    Blk (((((W.setCell ⟨b, 0, none⟩ v0).setCell ⟨b, 1, none⟩ v1).setCell ⟨b, 2, none⟩ v2).setCell ⟨b, 3, none⟩ v3).setCell ⟨b, 4, none⟩ v4) b #[v0, v1, v2, v3, v4] T := ((((h.set 0 _).set 1 _).set 2 _).set 3 _).set 4 _
theorem Blk.four {W : World} {b : Nat} {u0 u1 u2 u3 v0 v1 v2 v3 : Value} {T : TypeId} (h : Blk W b #[u0, u1, u2, u3] T) :
    Blk ((((W.setCell ⟨b, 0, none⟩ v0).setCell ⟨b, 1, none⟩ v1).setCell ⟨b, 2, none⟩ v2).setCell ⟨b, 3, none⟩ v3) b #[v0, v1, v2, v3] T := (((h.set 0 _).set 1 _).set 2 _).set 3 _
theorem Blk.six {W : World} {b : Nat} {u0 u1 u2 u3 u4 u5 v0 v1 v2 v3 v4 v5 : Value} {T : TypeId} (h : Blk W b #[u0, u1, u2, u3, u4, u5] T) :
    Blk ((((((W.setCell ⟨b, 0, none⟩ v0).setCell ⟨b, 1, none⟩ v1).setCell ⟨b, 2, none⟩ v2).setCell ⟨b, 3, none⟩ v3).setCell ⟨b, 4, none⟩ v4).setCell ⟨b, 5, none⟩ v5) b #[v0, v1, v2, v3, v4, v5] T := (((((h.set 0 _).set 1 _).set 2 _).set 3 _).set 4 _).set 5 _
theorem RD.set {W : World} {g d b : Nat} {st : RS} (h : RD W g d st) (hb : g < b) (i : Nat) (v : Value) : RD (W.setCell ⟨b, i, none⟩ v) g d st := h.tch (Tch.set1 b W i v) (by omega) (.inr (by omega))
theorem RF.set {W : World} {g d b : Nat} {st : RS} (h : RF W g d st) (hb : g < b) (i : Nat) (v : Value) : RF (W.setCell ⟨b, i, none⟩ v) g d st := h.tch (Tch.set1 b W i v) (by omega) (.inr (by omega))
theorem RD.five {W : World} {g d b : Nat} {st : RS} {v0 v1 v2 v3 v4 : Value} (h : RD W g d st) (hb : g < b) :
    RD (((((W.setCell ⟨b, 0, none⟩ v0).setCell ⟨b, 1, none⟩ v1).setCell ⟨b, 2, none⟩ v2).setCell ⟨b, 3, none⟩ v3).setCell ⟨b, 4, none⟩ v4) g d st := ((((h.set hb 0 _).set hb 1 _).set hb 2 _).set hb 3 _).set hb 4 _
theorem Tch.five {w W : World} {g b : Nat} {v0 v1 v2 v3 v4 : Value} (h : Tch g w W) (hb : w.heap.size ≤ b) :
    Tch g w (((((W.setCell ⟨b, 0, none⟩ v0).setCell ⟨b, 1, none⟩ v1).setCell ⟨b, 2, none⟩ v2).setCell ⟨b, 3, none⟩ v3).setCell ⟨b, 4, none⟩ v4) := ((((h.setNew hb 0 _).setNew hb 1 _).setNew hb 2 _).setNew hb 3 _).setNew hb 4 _
theorem RF.six {W : World} {g d b : Nat} {st : RS} {v0 v1 v2 v3 v4 v5 : Value} (h : RF W g d st) (hb : g < b) :
    RF ((((((W.setCell ⟨b, 0, none⟩ v0).setCell ⟨b, 1, none⟩ v1).setCell ⟨b, 2, none⟩ v2).setCell ⟨b, 3, none⟩ v3).setCell ⟨b, 4, none⟩ v4).setCell ⟨b, 5, none⟩ v5) g d st := (((((h.set hb 0 _).set hb 1 _).set hb 2 _).set hb 3 _).set hb 4 _).set hb 5 _
theorem Tch.six {w W : World} {g b : Nat} {v0 v1 v2 v3 v4 v5 : Value} (h : Tch g w W) (hb : w.heap.size ≤ b) :
    Tch g w ((((((W.setCell ⟨b, 0, none⟩ v0).setCell ⟨b, 1, none⟩ v1).setCell ⟨b, 2, none⟩ v2).setCell ⟨b, 3, none⟩ v3).setCell ⟨b, 4, none⟩ v4).setCell ⟨b, 5, none⟩ v5) := (((((h.setNew hb 0 _).setNew hb 1 _).setNew hb 2 _).setNew hb 3 _).setNew hb 4 _).setNew hb 5 _

def K.agg (c : K) : Value := .agg #[.int .u8 c.k, .int .u8 c.v.ty, .int .i64 c.v.n, .complex .f64 c.v.x c.v.y, .string c.v.s]
def CTPost (g d : Nat) (w : World) (R : (K × Nat) × RS) (e : Ending) (w' : World) : Prop := ∃ (c : K) (m : Nat), e = .returned (.tuple #[c.agg, .int .i64 m]) ∧ (R.2.e = 0 → (c, m) = R.1) ∧ RD w' g d R.2 ∧ Tch g w w'
theorem CTPost.mk' {g d : Nat} {w w' : World} {R : (K × Nat) × RS} (c : K) (m : Nat) {S : RS} (h2 : R.2 = S) (h1 : R.2.e = 0 → (c, m) = R.1) (hr : RD w' g d S) (ht : Tch g w w') : CTPost g d w R (.returned (.tuple #[c.agg, .int .i64 m])) w' :=
  ⟨c, m, rfl, h1, by rw [h2]; exact hr, ht⟩

set_option maxRecDepth 20000 in
theorem res_first {W : World} {b : Nat} {k ty n : Int} {x y : Nat} {s : ByteArray} {m : Int} {tm : Array Value} (h : Blk W b #[.int .u8 k, .int .u8 ty, .int .i64 n, .complex .f64 x y, .string s] 37) (ht : tm.getD 4 undef = .pointer (some ⟨b, 0, none⟩)) (hm : tm.getD 5 undef = .int .i64 m) :
    (results Try.f42 tm).run Try.prog W = .ok (.tuple #[.agg #[.int .u8 k, .int .u8 ty, .int .i64 n, .complex .f64 x y, .string s], .int .i64 m]) W := by
  have c := h.cell
  have c0 := c 0
  have c1 := c 1
  have c2 := c 2
  have c3 := c 3
  have c4 := c 4
  clear c h
  simp at c0 c1 c2 c3 c4
  rw [Array.getD_eq_getD_getElem?] at ht hm
  simp [results, Try.results42, go_sem, ht, hm, c0, c1, c2, c3, c4]
set_option maxRecDepth 20000 in
theorem res_second {W : World} {b : Nat} {k ty n : Int} {x y : Nat} {s : ByteArray} {m : Int} {tm : Array Value} (h : Blk W b #[.int .u8 k, .int .u8 ty, .int .i64 n, .complex .f64 x y, .string s] 37) (ht : tm.getD 4 undef = .pointer (some ⟨b, 0, none⟩)) (hm : tm.getD 5 undef = .int .i64 m) :
    (results Try.f43 tm).run Try.prog W = .ok (.tuple #[.agg #[.int .u8 k, .int .u8 ty, .int .i64 n, .complex .f64 x y, .string s], .int .i64 m]) W := by
  have c := h.cell
  have c0 := c 0
  have c1 := c 1
  have c2 := c 2
  have c3 := c 3
  have c4 := c 4
  clear c h
  simp at c0 c1 c2 c3 c4
  rw [Array.getD_eq_getD_getElem?] at ht hm
  simp [results, Try.results43, go_sem, ht, hm, c0, c1, c2, c3, c4]
set_option maxRecDepth 20000 in
theorem res_ctake {W : World} {b : Nat} {k ty n : Int} {x y : Nat} {s : ByteArray} {m : Int} {tm : Array Value} (h : Blk W b #[.int .u8 k, .int .u8 ty, .int .i64 n, .complex .f64 x y, .string s] 37) (ht : tm.getD 6 undef = .pointer (some ⟨b, 0, none⟩)) (hm : tm.getD 7 undef = .int .i64 m) :
    (results Try.f20 tm).run Try.prog W = .ok (.tuple #[.agg #[.int .u8 k, .int .u8 ty, .int .i64 n, .complex .f64 x y, .string s], .int .i64 m]) W := by
  have c := h.cell
  have c0 := c 0
  have c1 := c 1
  have c2 := c 2
  have c3 := c 3
  have c4 := c 4
  clear c h
  simp at c0 c1 c2 c3 c4
  rw [Array.getD_eq_getD_getElem?] at ht hm
  simp [results, Try.results20, go_sem, ht, hm, c0, c1, c2, c3, c4]

end Go.Proofs.Ytmpnopjkpamhaaa
