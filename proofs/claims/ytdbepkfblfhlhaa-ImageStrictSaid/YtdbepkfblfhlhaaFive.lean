import Derived.Test.YtdbepkfblfhlhaaCellI
import Derived.Test.YtdbepkfblfhlhaaTkF
import Derived.Test.YtdbepkfblfhlhaaTake
/-
A reader that gave up stays as it is, in plain words.
-/
namespace Go.Proofs.Ytdbepkfblfhlhaa
open Go.RowKit

theorem gave_form {st : RS} (h : st.ok) (he : st.e ≠ 0) : st = ⟨[], st.e⟩ := by
  cases st; simp only at he; have := h.1 he; simp only at this; subst this; rfl
theorem uintR_gave {m : Nat} {e : Int} (he : e ≠ 0) : uintR m ⟨[], e⟩ = (0, ⟨[], e⟩) := by
  have h : giveS ⟨[], e⟩ 1 = ⟨[], e⟩ := giveS_gave 1 he
  unfold uintR
  have hd : digs ([] : List Int) 0 0 = (0, 0, 1) := rfl
  simp only [hd]
  exact (if_pos (by decide)).trans (congrArg (Prod.mk 0) h)
theorem bytesR_gave {n : Nat} {e : Int} (he : e ≠ 0) : bytesR n ⟨[], e⟩ = ([], ⟨[], e⟩) := by
  unfold bytesR
  split
  · rw [giveS_gave 1 he]
  · simp
theorem byteR_gave {e : Int} (he : e ≠ 0) : byteR ⟨[], e⟩ = (0, ⟨[], e⟩) := by unfold byteR; rw [bytesR_gave he]; rfl
theorem wordR_gave {e : Int} (he : e ≠ 0) : wordR ⟨[], e⟩ = (0, ⟨[], e⟩) := by unfold wordR; rw [bytesR_gave he]; rfl
theorem floatR_gave {ver : Int} {e : Int} (he : e ≠ 0) : (floatR ver ⟨[], e⟩).2 = ⟨[], e⟩ := by
  unfold floatR; split
  · rw [wordR_gave he]
  · simp only; rw [uintR_gave he]
theorem failS_gave {e x : Int} (he : e ≠ 0) : failS ⟨[], e⟩ x = ⟨[], e⟩ := by
  unfold failS; split
  · exact giveS_gave x he
  · rfl
theorem partR_gave {t : Bool} {e : Int} (he : e ≠ 0) : (partR t ⟨[], e⟩).2 = ⟨[], e⟩ := by
  unfold partR; split
  · simp only
    have h := floatR_gave (ver := 2) he
    rw [h]
    split
    · exact giveS_gave 3 he
    · rfl
  · rfl
theorem complexR_gave {ver : Int} {e : Int} (he : e ≠ 0) : (complexR ver ⟨[], e⟩).2 = ⟨[], e⟩ := by
  unfold complexR; split
  · simp only; rw [wordR_gave he]; simp only; rw [wordR_gave he]
  · simp only; rw [byteR_gave he]; simp only
    rw [if_neg (by decide), partR_gave he, partR_gave he]
theorem textR_gave {m : Nat} {e : Int} (he : e ≠ 0) : textR m ⟨[], e⟩ = ([], ⟨[], e⟩) := by
  unfold textR; simp only; rw [uintR_gave he]; simp only; rw [bytesR_gave he]
theorem bodyR_gave {kind ver : Int} {e : Int} (he : e ≠ 0) : (bodyR kind ver ⟨[], e⟩).2 = ⟨[], e⟩ := by
  unfold bodyR
  (repeat' split)
  · simp only; rw [byteR_gave he]
  · simp only; rw [wordR_gave he]
  · simp only [intR]; rw [uintR_gave he]
  · simp only; rw [floatR_gave he]
  · simp only; rw [complexR_gave he]
  · simp only; rw [textR_gave he]
  · rfl
theorem takeV_gave {kind ver : Int} {e : Int} (he : e ≠ 0) : (takeV kind ver ⟨[], e⟩).2 = ⟨[], e⟩ := by
  unfold takeV
  split
  · simp only
    rw [bodyR_gave he, failS_gave he, if_pos he]
  · exact giveS_gave 18 he

/-- What a first cell does behind its tag. -/
def tailC (kind : Int) (S : RS) : (K × Nat) × RS := if kind = 5 ∨ kind = 6 then textK kind (textR 64 S) else ((⟨2, (takeV kind 1 S).1⟩, 0), (takeV kind 1 S).2)
theorem tailC_gave {kind : Int} {e : Int} (he : e ≠ 0) : (tailC kind ⟨[], e⟩).2 = ⟨[], e⟩ := by
  unfold tailC
  split
  · rw [textR_gave he]; exact failS_gave he
  · exact takeV_gave he
theorem largeR_ok {st : RS} (h : st.ok) : (largeR st).2.ok := by
  unfold largeR; simp only; split
  · exact giveS_ok (uintR_ok h _) _
  · exact uintR_ok h _
theorem largeR_le {st : RS} : (largeR st).1 ≤ 2048 := by unfold largeR; exact uintR_le 2048
theorem textK_ok {kind : Int} {q : List Int × RS} (h : q.2.ok) : (textK kind q).2.ok := failS_ok h _
theorem firstC_ok {kind : Int} {st : RS} (h : st.ok) : (firstC kind st).2.ok := by
  have h1 := byteR_ok h
  unfold firstC
  simp only
  (repeat' split)
  · exact h1
  · exact giveS_ok h1 _
  · exact h1
  · exact largeR_ok h1
  · exact textK_ok (textR_ok h1 _)
  · exact takeV_ok h1 _ _
theorem secondC_ok {kind : Int} {st : RS} (h : st.ok) : (secondC kind st).2.ok := by
  have h1 := uintR_ok h 66
  unfold secondC
  simp only
  (repeat' split)
  · exact h1
  · exact h1
  · exact largeR_ok h1
  · exact textK_ok (bytesR_ok h1 _)
theorem preC_ok {kind ver : Int} {st : RS} (h : st.ok) : (preC kind ver st).2.ok := by
  unfold preC
  (repeat' split)
  · exact giveS_ok h _
  · exact giveS_ok h _
  · exact firstC_ok h
  · exact secondC_ok h
  · exact takeV_ok h _ _
theorem takeC_ok {kind ver : Int} {st : RS} (h : st.ok) : (takeC kind ver st).2.ok := by
  unfold takeC finC
  split
  · exact preC_ok h
  · exact preC_ok h
theorem giveS_nil {st : RS} {x : Int} (hx : x ≠ 0) (h : st.ok) : ∃ e, e ≠ 0 ∧ giveS st x = ⟨[], e⟩ := by
  unfold giveS
  split
  · exact ⟨x, hx, rfl⟩
  · rename_i he; exact ⟨st.e, he, gave_form h he⟩

end Go.Proofs.Ytdbepkfblfhlhaa

/-
The reference's reader: what it tells; giving up; bytes.
-/
namespace Go.Proofs.Ytdbepkfblfhlhaa
open Go.RowKit

/-- The reference's reader in block g, its bytes in a block from d on, below g. -/
def RF (w : World) (g d : Nat) (st : RS) : Prop := ∃ v L at', Blk w g #[v, .int .i64 (at' : Nat), .int .i64 st.e] 108 ∧ SB w g d v L ∧ at' ≤ L.length ∧ st.l = (if st.e = 0 then L.drop at' else []) ∧ isB L ∧ L.length ≤ 1000000
theorem RF.ext {w w1 : World} {g d : Nat} {st : RS} (hr : RF w g d st) (he : Ext w w1) : RF w1 g d st := by
  obtain ⟨v, L, a, h1, h2, h3⟩ := hr
  exact ⟨v, L, a, h1.ext he, h2.ext he, h3⟩
theorem RF.drewN {w : World} {g d : Nat} {st : RS} (hr : RF w g d st) (n : Nat) : RF (w.drewN n) g d st := hr.ext ((Ext.refl w).drewN n)
theorem RF.tch {w w1 : World} {g d h : Nat} {st : RS} (hr : RF w g d st) (he : Tch h w w1) (hg : h ≠ g) (hd : h < d ∨ g ≤ h) : RF w1 g d st := by
  obtain ⟨v, L, a, h1, h2, h3⟩ := hr
  exact ⟨v, L, a, h1.tch he hg.symm, h2.tch he hd, h3⟩
theorem RF.lt {w : World} {g d : Nat} {st : RS} (hr : RF w g d st) : g < w.heap.size := by obtain ⟨v, L, a, h1, _⟩ := hr; exact h1.lt
theorem RF.ok {w : World} {g d : Nat} {st : RS} (hr : RF w g d st) : st.ok := by
  obtain ⟨v, L, a, _, _, _, hl, hb, _⟩ := hr
  refine ⟨fun h => by rw [hl, if_neg h], ?_⟩
  rw [hl]; split; exact hb.drop _; exact isB.nil
def FPost (g d : Nat) (w : World) (r : Value) (st : RS) (e : Ending) (w' : World) : Prop := e = .returned r ∧ RF w' g d st ∧ Tch g w w'

set_option maxRecDepth 100000 in set_option maxHeartbeats 1600000 in
theorem fgive_any (g d : Nat) (st : RS) (x : Int) (w : World) (h : RF w g d st) (hx : x ≠ 0) :
    Calls Try.prog 89 #[.pointer (some ⟨g, 0, none⟩), .int .i64 x] w (FPost g d w (.tuple #[]) (giveS st x)) := by
  obtain ⟨v, L, a, hb, hsb, hat, hl, hB, hlen⟩ := h
  have hc := hb.cell
  have hf := hb.frozen
  have hlt := hb.lt
  have HB := Hid.mk' hb
  have HS := Hid.mk' hsb
  have HL := Hid.mk' hl
  clear hb hsb hl
  by_cases he : st.e = 0
  · rw [he] at hc HB
    have HE := Hid.mk' he
    clear he
    go_enter Try.func89, Try.ntmps89
    go_wp2
    go_end0
    refine ⟨rfl, ?_, (Tch.refl g w).set 2 _⟩
    unfold giveS; rw [if_pos HE.out]
    exact ⟨_, L, a, HB.out.set 2 _, HS.out.tch ((Tch.refl g w).set 2 _) (.inr (Nat.le_refl _)), hat, by simp [hx], hB, hlen⟩
  · have he2 : (st.e == 0) = false := by simpa using he
    have HE := Hid.mk' he
    clear he
    go_enter Try.func89, Try.ntmps89
    go_wp2
    go_end0
    exact ⟨rfl, by unfold giveS; rw [if_neg HE.out]; exact ⟨_, L, a, HB.out, HS.out, hat, HL.out, hB, hlen⟩, Tch.refl g w⟩

set_option maxRecDepth 100000 in set_option maxHeartbeats 1600000 in
theorem fleft_any (g d : Nat) (st : RS) (w : World) (h : RF w g d st) :
    Calls Try.prog 54 #[.pointer (some ⟨g, 0, none⟩)] w fun e w' => e = .returned (.int .i64 st.l.length) ∧ ∃ m, w' = w.drewN m := by
  obtain ⟨v, L, a, hb, ⟨ad, cap, rfl, -, -, -⟩, hat, hl, hB, hlen⟩ := h
  have hc := hb.cell
  clear hb
  by_cases he : st.e = 0
  · rw [he] at hc
    have hll : st.l.length = L.length - a := by rw [hl, if_pos he, List.length_drop]
    have HLL : Hid ((st.l.length : Int) = (L.length : Int) - (a : Int)) := Hid.mk' (by rw [hll]; omega)
    clear he hl hll
    go_enter Try.func54, Try.ntmps54
    go_wp2
    go_quiet (fail)
    go_wp2
    go_ret
    exact ⟨ret_int (by rw [HLL.out]), nq, rfl⟩
  · have he2 : (st.e != 0) = true := by simpa using he
    have HL : Hid (st.l.length = 0) := Hid.mk' (by rw [hl, if_neg he]; rfl)
    clear he hl
    go_enter Try.func54, Try.ntmps54
    go_wp2
    go_ret
    exact ⟨ret_int (by rw [HL.out]; rfl), 0, rfl⟩

end Go.Proofs.Ytdbepkfblfhlhaa

/-
Storing a cell, the program's or the document's, into a block that is known whole.
-/
namespace Go.Proofs.Ytdbepkfblfhlhaa
open Go.RowKit

theorem Blk.five {W : World} {b : Nat} {u0 u1 u2 u3 u4 v0 v1 v2 v3 v4 : Value} {T : TypeId} (h : Blk W b #[u0, u1, u2, u3, u4] T) :
    Blk (((((W.setCell ⟨b, 0, none⟩ v0).setCell ⟨b, 1, none⟩ v1).setCell ⟨b, 2, none⟩ v2).setCell ⟨b, 3, none⟩ v3).setCell ⟨b, 4, none⟩ v4) b #[v0, v1, v2, v3, v4] T := ((((h.set 0 _).set 1 _).set 2 _).set 3 _).set 4 _
theorem Blk.four {W : World} {b : Nat} {u0 u1 u2 u3 v0 v1 v2 v3 : Value} {T : TypeId} (h : Blk W b #[u0, u1, u2, u3] T) :
    Blk ((((W.setCell ⟨b, 0, none⟩ v0).setCell ⟨b, 1, none⟩ v1).setCell ⟨b, 2, none⟩ v2).setCell ⟨b, 3, none⟩ v3) b #[v0, v1, v2, v3] T := (((h.set 0 _).set 1 _).set 2 _).set 3 _
theorem Blk.six {W : World} {b : Nat} {u0 u1 u2 u3 u4 u5 v0 v1 v2 v3 v4 v5 : Value} {T : TypeId} (h : Blk W b #[u0, u1, u2, u3, u4, u5] T) :
    Blk ((((((W.setCell ⟨b, 0, none⟩ v0).setCell ⟨b, 1, none⟩ v1).setCell ⟨b, 2, none⟩ v2).setCell ⟨b, 3, none⟩ v3).setCell ⟨b, 4, none⟩ v4).setCell ⟨b, 5, none⟩ v5) b #[v0, v1, v2, v3, v4, v5] T := (((((h.set 0 _).set 1 _).set 2 _).set 3 _).set 4 _).set 5 _
theorem RD.set {W : World} {g d b : Nat} {st : RS} (h : RD W g d st) (hb : g < b) (i : Nat) (v : Value) : RD (W.setCell ⟨b, i, none⟩ v) g d st := h.tch (Tch.set1 b W i v) (by omega) (.inr (by omega))
theorem RF.set {W : World} {g d b : Nat} {st : RS} (h : RF W g d st) (hb : g < b) (i : Nat) (v : Value) : RF (W.setCell ⟨b, i, none⟩ v) g d st := h.tch (Tch.set1 b W i v) (by omega) (.inr (by omega))
theorem RD.five {W : World} {g d b : Nat} {st : RS} {v0 v1 v2 v3 v4 : Value} (h : RD W g d st) (hb : g < b) :
    RD (((((W.setCell ⟨b, 0, none⟩ v0).setCell ⟨b, 1, none⟩ v1).setCell ⟨b, 2, none⟩ v2).setCell ⟨b, 3, none⟩ v3).setCell ⟨b, 4, none⟩ v4) g d st := ((((h.set hb 0 _).set hb 1 _).set hb 2 _).set hb 3 _).set hb 4 _
theorem Tch.five {w W : World} {g b : Nat} {v0 v1 v2 v3 v4 : Value} (h : Tch g w W) (hb : w.heap.size ≤ b) :
    Tch g w (((((W.setCell ⟨b, 0, none⟩ v0).setCell ⟨b, 1, none⟩ v1).setCell ⟨b, 2, none⟩ v2).setCell ⟨b, 3, none⟩ v3).setCell ⟨b, 4, none⟩ v4) := ((((h.setNew hb 0 _).setNew hb 1 _).setNew hb 2 _).setNew hb 3 _).setNew hb 4 _
theorem RF.six {W : World} {g d b : Nat} {st : RS} {v0 v1 v2 v3 v4 v5 : Value} (h : RF W g d st) (hb : g < b) :
    RF ((((((W.setCell ⟨b, 0, none⟩ v0).setCell ⟨b, 1, none⟩ v1).setCell ⟨b, 2, none⟩ v2).setCell ⟨b, 3, none⟩ v3).setCell ⟨b, 4, none⟩ v4).setCell ⟨b, 5, none⟩ v5) g d st := (((((h.set hb 0 _).set hb 1 _).set hb 2 _).set hb 3 _).set hb 4 _).set hb 5 _
theorem Tch.six {w W : World} {g b : Nat} {v0 v1 v2 v3 v4 v5 : Value} (h : Tch g w W) (hb : w.heap.size ≤ b) :
    Tch g w ((((((W.setCell ⟨b, 0, none⟩ v0).setCell ⟨b, 1, none⟩ v1).setCell ⟨b, 2, none⟩ v2).setCell ⟨b, 3, none⟩ v3).setCell ⟨b, 4, none⟩ v4).setCell ⟨b, 5, none⟩ v5) := (((((h.setNew hb 0 _).setNew hb 1 _).setNew hb 2 _).setNew hb 3 _).setNew hb 4 _).setNew hb 5 _

def K.agg (c : K) : Value := .agg #[.int .u8 c.k, .int .u8 c.v.ty, .int .i64 c.v.n, .complex .f64 c.v.x c.v.y, .string c.v.s]
def CTPost (g d : Nat) (w : World) (R : (K × Nat) × RS) (e : Ending) (w' : World) : Prop := ∃ (c : K) (m : Nat), e = .returned (.tuple #[c.agg, .int .i64 m]) ∧ (R.2.e = 0 → (c, m) = R.1) ∧ RD w' g d R.2 ∧ Tch g w w'
theorem CTPost.mk' {g d : Nat} {w w' : World} {R : (K × Nat) × RS} (c : K) (m : Nat) {S : RS} (h2 : R.2 = S) (h1 : R.2.e = 0 → (c, m) = R.1) (hr : RD w' g d S) (ht : Tch g w w') : CTPost g d w R (.returned (.tuple #[c.agg, .int .i64 m])) w' :=
  ⟨c, m, rfl, h1, by rw [h2]; exact hr, ht⟩

set_option maxRecDepth 20000 in
theorem res_first {W : World} {b : Nat} {k ty n : Int} {x y : Nat} {s : ByteArray} {m : Int} {tm : Array Value} (h : Blk W b #[.int .u8 k, .int .u8 ty, .int .i64 n, .complex .f64 x y, .string s] 78) (ht : tm.getD 4 undef = .pointer (some ⟨b, 0, none⟩)) (hm : tm.getD 5 undef = .int .i64 m) :
    (results Try.f124 tm).run Try.prog W = .ok (.tuple #[.agg #[.int .u8 k, .int .u8 ty, .int .i64 n, .complex .f64 x y, .string s], .int .i64 m]) W := by
  have c := h.cell
  have c0 := c 0
  have c1 := c 1
  have c2 := c 2
  have c3 := c 3
  have c4 := c 4
  clear c h
  simp at c0 c1 c2 c3 c4
  rw [Array.getD_eq_getD_getElem?] at ht hm
  simp [results, Try.results124, go_sem, ht, hm, c0, c1, c2, c3, c4]
set_option maxRecDepth 20000 in
theorem res_second {W : World} {b : Nat} {k ty n : Int} {x y : Nat} {s : ByteArray} {m : Int} {tm : Array Value} (h : Blk W b #[.int .u8 k, .int .u8 ty, .int .i64 n, .complex .f64 x y, .string s] 78) (ht : tm.getD 4 undef = .pointer (some ⟨b, 0, none⟩)) (hm : tm.getD 5 undef = .int .i64 m) :
    (results Try.f125 tm).run Try.prog W = .ok (.tuple #[.agg #[.int .u8 k, .int .u8 ty, .int .i64 n, .complex .f64 x y, .string s], .int .i64 m]) W := by
  have c := h.cell
  have c0 := c 0
  have c1 := c 1
  have c2 := c 2
  have c3 := c 3
  have c4 := c 4
  clear c h
  simp at c0 c1 c2 c3 c4
  rw [Array.getD_eq_getD_getElem?] at ht hm
  simp [results, Try.results125, go_sem, ht, hm, c0, c1, c2, c3, c4]
set_option maxRecDepth 20000 in
theorem res_ctake {W : World} {b : Nat} {k ty n : Int} {x y : Nat} {s : ByteArray} {m : Int} {tm : Array Value} (h : Blk W b #[.int .u8 k, .int .u8 ty, .int .i64 n, .complex .f64 x y, .string s] 78) (ht : tm.getD 6 undef = .pointer (some ⟨b, 0, none⟩)) (hm : tm.getD 7 undef = .int .i64 m) :
    (results Try.f88 tm).run Try.prog W = .ok (.tuple #[.agg #[.int .u8 k, .int .u8 ty, .int .i64 n, .complex .f64 x y, .string s], .int .i64 m]) W := by
  have c := h.cell
  have c0 := c 0
  have c1 := c 1
  have c2 := c 2
  have c3 := c 3
  have c4 := c 4
  clear c h
  simp at c0 c1 c2 c3 c4
  rw [Array.getD_eq_getD_getElem?] at ht hm
  simp [results, Try.results88, go_sem, ht, hm, c0, c1, c2, c3, c4]

end Go.Proofs.Ytdbepkfblfhlhaa
