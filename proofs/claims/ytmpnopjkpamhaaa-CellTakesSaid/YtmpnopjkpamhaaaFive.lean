import Derived.Test.YtmpnopjkpamhaaaTkF
import Derived.Test.YtmpnopjkpamhaaaCellG
import Derived.Test.YtmpnopjkpamhaaaTake
/-
The reference's reader: what it tells; giving up; bytes.
-/
namespace Go.Proofs.Ytmpnopjkpamhaaa
open Go.RowKit

/-- The reference's reader in block g, its bytes in a block from d on, below g. -/
def RF (w : World) (g d : Nat) (st : RS) : Prop := ∃ v L at', Blk w g #[v, .int .i64 (at' : Nat), .int .i64 st.e] 57 ∧ SB w g d v L ∧ at' ≤ L.length ∧ st.l = (if st.e = 0 then L.drop at' else []) ∧ isB L ∧ L.length ≤ 1000000
theorem RF.ext {w w1 : World} {g d : Nat} {st : RS} (hr : RF w g d st) (he : Ext w w1) : RF w1 g d st := by
  obtain ⟨v, L, a, h1, h2, h3⟩ := hr
  exact ⟨v, L, a, h1.ext he, h2.ext he, h3⟩
theorem RF.drewN {w : World} {g d : Nat} {st : RS} (hr : RF w g d st) (n : Nat) : RF (w.drewN n) g d st := hr.ext ((Ext.refl w).drewN n)
theorem RF.tch {w w1 : World} {g d h : Nat} {st : RS} (hr : RF w g d st) (he : Tch h w w1) (hg : h ≠ g) (hd : h < d ∨ g ≤ h) : RF w1 g d st := by
  obtain ⟨v, L, a, h1, h2, h3⟩ := hr
  exact ⟨v, L, a, h1.tch he hg.symm, h2.tch he hd, h3⟩
theorem RF.lt {w : World} {g d : Nat} {st : RS} (hr : RF w g d st) : g < w.heap.size := by obtain ⟨v, L, a, h1, _⟩ := hr; exact h1.lt
theorem RF.ok {w : World} {g d : Nat} {st : RS} (hr : RF w g d st) : st.ok := by
  obtain ⟨v, L, a, _, _, _, hl, hb, _⟩ := hr
  refine ⟨fun h => by rw [hl, if_neg h], ?_⟩
  rw [hl]; split; exact hb.drop _; exact isB.nil
def FPost (g d : Nat) (w : World) (r : Value) (st : RS) (e : Ending) (w' : World) : Prop := e = .returned r ∧ RF w' g d st ∧ Tch g w w'

set_option maxRecDepth 100000 in set_option maxHeartbeats 1600000 in
theorem fgive_any (g d : Nat) (st : RS) (x : Int) (w : World) (h : RF w g d st) (hx : x ≠ 0) :
    Calls Try.prog 76 #[.pointer (some ⟨g, 0, none⟩), .int .i64 x] w (FPost g d w (.tuple #[]) (giveS st x)) := by
  obtain ⟨v, L, a, hb, hsb, hat, hl, hB, hlen⟩ := h
  have hc := hb.cell
  have hf := hb.frozen
  have hlt := hb.lt
  have HB := Hid.mk' hb
  have HS := Hid.mk' hsb
  have HL := Hid.mk' hl
  clear hb hsb hl
  by_cases he : st.e = 0
  · rw [he] at hc HB
    have HE := Hid.mk' he
    clear he
    go_enter Try.func76, Try.ntmps76
    go_wp2
    go_end0
    refine ⟨rfl, ?_, (Tch.refl g w).set 2 _⟩
    unfold giveS; rw [if_pos HE.out]
    exact ⟨_, L, a, HB.out.set 2 _, HS.out.tch ((Tch.refl g w).set 2 _) (.inr (Nat.le_refl _)), hat, by simp [hx], hB, hlen⟩
  · have he2 : (st.e == 0) = false := by simpa using he
    have HE := Hid.mk' he
    clear he
    go_enter Try.func76, Try.ntmps76
    go_wp2
    go_end0
    exact ⟨rfl, by unfold giveS; rw [if_neg HE.out]; exact ⟨_, L, a, HB.out, HS.out, hat, HL.out, hB, hlen⟩, Tch.refl g w⟩

set_option maxRecDepth 100000 in set_option maxHeartbeats 1600000 in
theorem fleft_any (g d : Nat) (st : RS) (w : World) (h : RF w g d st) :
    Calls Try.prog 24 #[.pointer (some ⟨g, 0, none⟩)] w fun e w' => e = .returned (.int .i64 st.l.length) ∧ ∃ m, w' = w.drewN m := by
  obtain ⟨v, L, a, hb, ⟨ad, cap, rfl, -, -, -⟩, hat, hl, hB, hlen⟩ := h
  have hc := hb.cell
  clear hb
  by_cases he : st.e = 0
  · rw [he] at hc
    have hll : st.l.length = L.length - a := by rw [hl, if_pos he, List.length_drop]
    have HLL : Hid ((st.l.length : Int) = (L.length : Int) - (a : Int)) := Hid.mk' (by rw [hll]; omega)
    clear he hl hll
    go_enter Try.func24, Try.ntmps24
    go_wp2
    go_quiet (fail)
    go_wp2
    go_ret
    exact ⟨ret_int (by rw [HLL.out]), nq, rfl⟩
  · have he2 : (st.e != 0) = true := by simpa using he
    have HL : Hid (st.l.length = 0) := Hid.mk' (by rw [hl, if_neg he]; rfl)
    clear he hl
    go_enter Try.func24, Try.ntmps24
    go_wp2
    go_ret
    exact ⟨ret_int (by rw [HL.out]; rfl), 0, rfl⟩

end Go.Proofs.Ytmpnopjkpamhaaa

/-
Storing a cell, the program's or the document's, into a block that is known whole.
-/
namespace Go.Proofs.Ytmpnopjkpamhaaa
open Go.RowKit

theorem Blk.five {W : World} {b : Nat} {u0 u1 u2 u3 u4 v0 v1 v2 v3 v4 : Value} {T : TypeId} (h : Blk W b #[u0, u1, u2, u3, u4] T) :
    Blk (((((W.setCell ⟨b, 0, none⟩ v0).setCell ⟨b, 1, none⟩ v1).setCell ⟨b, 2, none⟩ v2).setCell ⟨b, 3, none⟩ v3).setCell ⟨b, 4, none⟩ v4) b #[v0, v1, v2, v3, v4] T := ((((h.set 0 _).set 1 _).set 2 _).set 3 _).set 4 _
theorem Blk.four {W : World} {b : Nat} {u0 u1 u2 u3 v0 v1 v2 v3 : Value} {T : TypeId} (h : Blk W b #[u0, u1, u2, u3] T) :
    Blk ((((W.setCell ⟨b, 0, none⟩ v0).setCell ⟨b, 1, none⟩ v1).setCell ⟨b, 2, none⟩ v2).setCell ⟨b, 3, none⟩ v3) b #[v0, v1, v2, v3] T := (((h.set 0 _).set 1 _).set 2 _).set 3 _
theorem Blk.six {W : World} {b : Nat} {u0 u1 u2 u3 u4 u5 v0 v1 v2 v3 v4 v5 : Value} {T : TypeId} (h : Blk W b #[u0, u1, u2, u3, u4, u5] T) :
    Blk ((((((W.setCell ⟨b, 0, none⟩ v0).setCell ⟨b, 1, none⟩ v1).setCell ⟨b, 2, none⟩ v2).setCell ⟨b, 3, none⟩ v3).setCell ⟨b, 4, none⟩ v4).setCell ⟨b, 5, none⟩ v5) b #[v0, v1, v2, v3, v4, v5] T := (((((h.set 0 _).set 1 _).set 2 _).set 3 _).set 4 _).set 5 _
theorem RD.set {W : World} {g d b : Nat} {st : RS} (h : RD W g d st) (hb : g < b) (i : Nat) (v : Value) : RD (W.setCell ⟨b, i, none⟩ v) g d st := h.tch (Tch.set1 b W i v) (by omega) (.inr (by omega))
theorem RF.set {W : World} {g d b : Nat} {st : RS} (h : RF W g d st) (hb : g < b) (i : Nat) (v : Value) : RF (W.setCell ⟨b, i, none⟩ v) g d st := h.tch (Tch.set1 b W i v) (by omega) (.inr (by omega))
theorem RD.five {W : World} {g d b : Nat} {st : RS} {v0 v1 v2 v3 v4 : Value} (h : RD W g d st) (hb : g < b) :
    RD (((((W.setCell ⟨b, 0, none⟩ v0).setCell ⟨b, 1, none⟩ v1).setCell ⟨b, 2, none⟩ v2).setCell ⟨b, 3, none⟩ v3).setCell ⟨b, 4, none⟩ v4) g d st := ((((h.set hb 0 _).set hb 1 _).set hb 2 _).set hb 3 _).set hb 4 _
theorem Tch.five {w W : World} {g b : Nat} {v0 v1 v2 v3 v4 : Value} (h : Tch g w W) (hb : w.heap.size ≤ b) :
    Tch g w (((((W.setCell ⟨b, 0, none⟩ v0).setCell ⟨b, 1, none⟩ v1).setCell ⟨b, 2, none⟩ v2).setCell ⟨b, 3, none⟩ v3).setCell ⟨b, 4, none⟩ v4) := ((((h.setNew hb 0 _).setNew hb 1 _).setNew hb 2 _).setNew hb 3 _).setNew hb 4 _
theorem RF.six {W : World} {g d b : Nat} {st : RS} {v0 v1 v2 v3 v4 v5 : Value} (h : RF W g d st) (hb : g < b) :
    RF ((((((W.setCell ⟨b, 0, none⟩ v0).setCell ⟨b, 1, none⟩ v1).setCell ⟨b, 2, none⟩ v2).setCell ⟨b, 3, none⟩ v3).setCell ⟨b, 4, none⟩ v4).setCell ⟨b, 5, none⟩ v5) g d st := (((((h.set hb 0 _).set hb 1 _).set hb 2 _).set hb 3 _).set hb 4 _).set hb 5 _
theorem Tch.six {w W : World} {g b : Nat} {v0 v1 v2 v3 v4 v5 : Value} (h : Tch g w W) (hb : w.heap.size ≤ b) :
    Tch g w ((((((W.setCell ⟨b, 0, none⟩ v0).setCell ⟨b, 1, none⟩ v1).setCell ⟨b, 2, none⟩ v2).setCell ⟨b, 3, none⟩ v3).setCell ⟨b, 4, none⟩ v4).setCell ⟨b, 5, none⟩ v5) := (((((h.setNew hb 0 _).setNew hb 1 _).setNew hb 2 _).setNew hb 3 _).setNew hb 4 _).setNew hb 5 _

def K.agg (c : K) : Value := .agg #[.int .u8 c.k, .int .u8 c.v.ty, .int .i64 c.v.n, .complex .f64 c.v.x c.v.y, .string c.v.s]
def CTPost (g d : Nat) (w : World) (R : (K × Nat) × RS) (e : Ending) (w' : World) : Prop := ∃ (c : K) (m : Nat), e = .returned (.tuple #[c.agg, .int .i64 m]) ∧ (R.2.e = 0 → (c, m) = R.1) ∧ RD w' g d R.2 ∧ Tch g w w'
theorem CTPost.mk' {g d : Nat} {w w' : World} {R : (K × Nat) × RS} (c : K) (m : Nat) {S : RS} (h2 : R.2 = S) (h1 : R.2.e = 0 → (c, m) = R.1) (hr : RD w' g d S) (ht : Tch g w w') : CTPost g d w R (.returned (.tuple #[c.agg, .int .i64 m])) w' :=
  ⟨c, m, rfl, h1, by rw [h2]; exact hr, ht⟩

set_option maxRecDepth 20000 in
theorem res_first {W : World} {b : Nat} {k ty n : Int} {x y : Nat} {s : ByteArray} {m : Int} {tm : Array Value} (h : Blk W b #[.int .u8 k, .int .u8 ty, .int .i64 n, .complex .f64 x y, .string s] 37) (ht : tm.getD 4 undef = .pointer (some ⟨b, 0, none⟩)) (hm : tm.getD 5 undef = .int .i64 m) :
    (results Try.f42 tm).run Try.prog W = .ok (.tuple #[.agg #[.int .u8 k, .int .u8 ty, .int .i64 n, .complex .f64 x y, .string s], .int .i64 m]) W := by
  have c := h.cell
  have c0 := c 0
  have c1 := c 1
  have c2 := c 2
  have c3 := c 3
  have c4 := c 4
  clear c h
  simp at c0 c1 c2 c3 c4
  rw [Array.getD_eq_getD_getElem?] at ht hm
  simp [results, Try.results42, go_sem, ht, hm, c0, c1, c2, c3, c4]
set_option maxRecDepth 20000 in
theorem res_second {W : World} {b : Nat} {k ty n : Int} {x y : Nat} {s : ByteArray} {m : Int} {tm : Array Value} (h : Blk W b #[.int .u8 k, .int .u8 ty, .int .i64 n, .complex .f64 x y, .string s] 37) (ht : tm.getD 4 undef = .pointer (some ⟨b, 0, none⟩)) (hm : tm.getD 5 undef = .int .i64 m) :
    (results Try.f43 tm).run Try.prog W = .ok (.tuple #[.agg #[.int .u8 k, .int .u8 ty, .int .i64 n, .complex .f64 x y, .string s], .int .i64 m]) W := by
  have c := h.cell
  have c0 := c 0
  have c1 := c 1
  have c2 := c 2
  have c3 := c 3
  have c4 := c 4
  clear c h
  simp at c0 c1 c2 c3 c4
  rw [Array.getD_eq_getD_getElem?] at ht hm
  simp [results, Try.results43, go_sem, ht, hm, c0, c1, c2, c3, c4]
set_option maxRecDepth 20000 in
theorem res_ctake {W : World} {b : Nat} {k ty n : Int} {x y : Nat} {s : ByteArray} {m : Int} {tm : Array Value} (h : Blk W b #[.int .u8 k, .int .u8 ty, .int .i64 n, .complex .f64 x y, .string s] 37) (ht : tm.getD 6 undef = .pointer (some ⟨b, 0, none⟩)) (hm : tm.getD 7 undef = .int .i64 m) :
    (results Try.f20 tm).run Try.prog W = .ok (.tuple #[.agg #[.int .u8 k, .int .u8 ty, .int .i64 n, .complex .f64 x y, .string s], .int .i64 m]) W := by
  have c := h.cell
  have c0 := c 0
  have c1 := c 1
  have c2 := c 2
  have c3 := c 3
  have c4 := c 4
  clear c h
  simp at c0 c1 c2 c3 c4
  rw [Array.getD_eq_getD_getElem?] at ht hm
  simp [results, Try.results20, go_sem, ht, hm, c0, c1, c2, c3, c4]

end Go.Proofs.Ytmpnopjkpamhaaa
