/-
Relations in plain words: names, columns, the first of several errors, what is wrong with a relation; slices read at an index.
-/
import Derived.OrdersHeld
import Derived.StillTail
import Derived.Deep.AppendLies
import Derived.Test.YtibgippchdmdlaaGreatP4
namespace Go.Proofs.YtibgippchdmdlaaGreat
open Go.RowKit

/-- A slice's element, at an index. -/
theorem Sl.at_ {w : World} {a : Option Addr} {n cap k : Nat} {xss : List (List Value)} (h : Sl w (.slice a n cap) k xss) {i : Nat} (hi : i < xss.length) :
    ∃ b o, a = some ⟨b, o, none⟩ ∧ b < w.heap.size ∧ ∀ j, j < k → w.cell? ⟨b, o + i * k + j, none⟩ = (xss.getD i [])[j]? := by
  obtain ⟨a', cap', hv, hs⟩ := h
  simp only [Value.slice.injEq] at hv
  obtain ⟨rfl, -, -⟩ := hv
  rcases hs with rfl | ⟨b, o, rfl, hb, hc⟩
  · simp at hi
  · exact ⟨b, o, rfl, hb, hc i hi⟩
theorem getD_map {α β : Type} (f : α → List β) (l : List α) {i : Nat} (hi : i < l.length) : (l.map f).getD i [] = f l[i] := by simp [hi]

structure Col where
  nm : ByteArray
  ty : Int
  key : Bool
def Col.cells (c : Col) : List Value := [.string c.nm, .int .u8 c.ty, .bool c.key]
theorem Col.at_ {w wr : World} {b o : Nat} {l : List Col} {k : Nat} (hk : k < l.length) (hc : ∀ j, j < 3 → w.cell? ⟨b, o + k * 3 + j, none⟩ = ((l.map Col.cells).getD k [])[j]?) (hb : b < w.heap.size) (hE : Ext w wr) :
    wr.cell? ⟨b, o + k * 3, none⟩ = some (.string l[k].nm) ∧ wr.cell? ⟨b, o + k * 3 + 1, none⟩ = some (.int .u8 l[k].ty) ∧ wr.cell? ⟨b, o + k * 3 + 2, none⟩ = some (.bool l[k].key) := by
  rw [getD_map Col.cells l hk] at hc
  have c := hE.cells.1 b
  exact ⟨(c _ hb).trans (hc 0 (by omega)), (c _ hb).trans (hc 1 (by omega)), (c _ hb).trans (hc 2 (by omega))⟩

/-- A relation. -/
structure Rl where
  oid : Int
  ver : Int
  nm : ByteArray
  id : Int
  cols : List Col
def Rl.arr (r : Rl) (v : Value) : Array Value := #[.int .u32 r.oid, .int .u32 r.ver, .string r.nm, .int .u8 r.id, v]

/-- The first error of n. -/
def firstE (f : Nat → Int) : Nat → Int
  | 0 => 0
  | n + 1 => if firstE f n ≠ 0 then firstE f n else f n
theorem firstE_zero {f : Nat → Int} {n : Nat} (h : ∀ i, i < n → f i = 0) : firstE f n = 0 := by
  induction n with
  | zero => rfl
  | succ n ih =>
    have h1 := ih (fun i hi => h i (by omega))
    unfold firstE
    rw [h1, if_neg (by simp)]
    exact h n (by omega)
theorem firstE_all {f : Nat → Int} {n : Nat} (h : firstE f n = 0) : ∀ i, i < n → f i = 0 := by
  induction n with
  | zero => intro i hi; omega
  | succ n ih =>
    unfold firstE at h
    by_cases h1 : firstE f n = 0
    · rw [if_neg (by simpa using h1)] at h
      intro i hi
      by_cases e : i = n
      · subst e; exact h
      · exact ih h1 i (by omega)
    · rw [if_pos h1] at h; exact absurd h h1
theorem firstE_at {f : Nat → Int} {n k : Nat} (h : ∀ i, i < k → f i = 0) (hk : k < n) (h0 : f k ≠ 0) : firstE f n = f k := by
  induction n with
  | zero => omega
  | succ n ih =>
    unfold firstE
    by_cases e : k = n
    · subst e
      rw [if_neg (by rw [firstE_zero h]; simp)]
    · have := ih (by omega)
      rw [if_pos (by rw [this]; exact h0), this]
theorem firstE_congr {f g : Nat → Int} {n : Nat} (h : ∀ i, i < n → f i = g i) : firstE f n = firstE g n := by
  induction n with
  | zero => rfl
  | succ n ih =>
    unfold firstE
    rw [ih (fun i hi => h i (by omega)), h n (by omega)]
theorem firstE_get {f : Nat → Int} {n : Nat} (h : firstE f n ≠ 0) : ∃ k, k < n ∧ (∀ i, i < k → f i = 0) ∧ firstE f n = f k := by
  induction n with
  | zero => exact absurd rfl h
  | succ n ih =>
    unfold firstE at h ⊢
    by_cases h1 : firstE f n = 0
    · rw [if_neg (by simpa using h1)]
      exact ⟨n, by omega, firstE_all h1, rfl⟩
    · rw [if_pos h1]
      obtain ⟨k, hk, h2, h3⟩ := ih h1
      exact ⟨k, by omega, h2, h3⟩

/-- A byte of a text. -/
def chr (s : ByteArray) (i : Nat) : Int := if h : i < s.size then (s[i].toNat : Int) else 0
theorem chr_lt {s : ByteArray} {i : Nat} (h : i < s.size) : chr s i = (s[i].toNat : Int) := by unfold chr; rw [dif_pos h]
def nameAt (s : ByteArray) (i : Nat) : Bool := decide ((97 ≤ chr s i ∧ chr s i ≤ 122) ∨ (0 < i ∧ ((48 ≤ chr s i ∧ chr s i ≤ 57) ∨ chr s i = 95)))
/-- Is it a name? -/
def namedB (s : ByteArray) : Bool := decide (1 ≤ s.size ∧ s.size ≤ 31) && (List.range s.size).all (nameAt s)
theorem named_no {s : ByteArray} {k : Nat} (hk : k < s.size) (h : nameAt s k = false) : namedB s = false := by
  unfold namedB
  rw [Bool.and_eq_false_iff]
  right
  rw [List.all_eq_false]
  exact ⟨k, List.mem_range.2 hk, by simp [h]⟩
theorem named_yes {s : ByteArray} (h : ∀ j, j < s.size → nameAt s j = true) : namedB s = decide (1 ≤ s.size ∧ s.size ≤ 31) := by
  unfold namedB
  have : (List.range s.size).all (nameAt s) = true := List.all_eq_true.2 fun x hx => h x (List.mem_range.1 hx)
  rw [this, Bool.and_true]
theorem named_len {s : ByteArray} (h : ¬ (1 ≤ s.size ∧ s.size ≤ 31)) : namedB s = false := by
  unfold namedB; rw [decide_eq_false h]; rfl
theorem name_cases {s : ByteArray} {k : Nat} (h : k < s.size) :
    (nameAt s k = true ∧ ((97 ≤ (s[k].toNat : Int) ∧ (s[k].toNat : Int) ≤ 122) ∨ (0 < k ∧ 48 ≤ (s[k].toNat : Int) ∧ (s[k].toNat : Int) ≤ 57) ∨ (0 < k ∧ (s[k].toNat : Int) = 95))) ∨
    (nameAt s k = false ∧ ((k = 0 ∧ (s[k].toNat : Int) < 97) ∨ (k = 0 ∧ 122 < (s[k].toNat : Int)) ∨ (0 < k ∧ (s[k].toNat : Int) < 48) ∨ (0 < k ∧ 57 < (s[k].toNat : Int) ∧ (s[k].toNat : Int) < 95) ∨ (0 < k ∧ 95 < (s[k].toNat : Int) ∧ (s[k].toNat : Int) < 97) ∨ (0 < k ∧ 122 < (s[k].toNat : Int)))) := by
  unfold nameAt
  rw [decide_eq_true_iff, decide_eq_false_iff_not, chr_lt h]
  omega

/-- What is wrong with a column, behind some others. -/
def colE (c : Col) (ahead : List Col) : Int := if namedB c.nm = false then 3 else if ahead.any (fun o => decide (o.nm = c.nm)) = true then 9 else if c.ty < 1 ∨ 6 < c.ty then 11 else 0
def colAt (cols : List Col) (i : Nat) : Int := if h : i < cols.length then colE cols[i] (cols.take i) else 0
theorem colAt_lt {cols : List Col} {i : Nat} (h : i < cols.length) : colAt cols i = colE cols[i] (cols.take i) := by unfold colAt; rw [dif_pos h]
/-- What is wrong with a relation. -/
def Rl.right (r : Rl) : Int :=
  if r.oid = 0 ∨ r.ver = 0 then 4 else if namedB r.nm = false then 3 else if 2 < r.id then 7 else if r.cols.length < 1 ∨ 16 < r.cols.length then 17
  else if firstE (colAt r.cols) r.cols.length ≠ 0 then firstE (colAt r.cols) r.cols.length
  else if r.id = 1 ∧ r.cols.any Col.key = false then 13 else 0

structure Rl.wf (r : Rl) : Prop where
  nm : r.nm.size ≤ 9223372036854775807
  cols : ∀ c ∈ r.cols, c.nm.size ≤ 9223372036854775807

end Go.Proofs.YtibgippchdmdlaaGreat

/-
What a begin's, a commit's payload tells: the reference's answer.
-/
namespace Go.Proofs.YtibgippchdmdlaaGreat
open Go.RowKit

/-- A slice of bytes that lies in an argument. -/
def AB (w : World) (v : Value) (l : List Int) : Prop := SB w w.heap.size 0 v l
theorem AB.of_sl {w : World} {v : Value} {l : List Int} (h : Sl w v 1 (l.map bcell)) (hn : ∀ a len cap, v = .slice a len cap → len ≤ cap ∧ (a = none → cap = 0)) : AB w v l := by
  have h0 := h
  obtain ⟨a, cap, rfl, hs⟩ := h
  have h1 := hn _ _ _ rfl
  rw [List.length_map] at h1
  refine ⟨a, cap, by rw [List.length_map], h1.1, h1.2, ?_⟩
  rcases hs with hs | ⟨b, o, ha, hb, hc⟩
  · exact .inl (by simpa using hs)
  · refine .inr ⟨b, o, ha, hb, ⟨Nat.zero_le _, hb⟩, fun i hi => ?_⟩
    have h2 := hc i (by simpa using hi) 0 (by decide)
    rw [getD_map bcell l hi] at h2
    simp only [Nat.mul_one, Nat.add_zero] at h2
    rw [h2]
    simp [bcell, hi]
theorem AB.ext {w w' : World} {v : Value} {l : List Int} (h : AB w v l) (he : Ext w w') : AB w' v l := by
  obtain ⟨a, cap, rfl, h1, h2, hs⟩ := SB.ext h he
  refine ⟨a, cap, rfl, h1, h2, hs.imp id ?_⟩
  rintro ⟨b, o, ha, hb, hd, hc⟩
  exact ⟨b, o, ha, hb, ⟨hd.1, hb⟩, hc⟩
theorem AB.sl {w : World} {v : Value} {l : List Int} (h : AB w v l) : Sl w v 1 (l.map bcell) := SB.sl h
theorem RF.arg {w : World} {v : Value} {l : List Int} (h : AB w v l) (hb : isB l) (hl : l.length ≤ 1000000) : RF (w.alloc (.cells #[v, .int .i64 0, .int .i64 0] 139)) w.heap.size 0 ⟨l, 0⟩ :=
  ⟨v, l, 0, Blk.new _ _ _, SB.ext h ((Ext.refl w).alloc _), Nat.zero_le _, by simp, hb, hl⟩

set_option maxRecDepth 100000 in set_option maxHeartbeats 1600000 in
theorem fend_any (g d : Nat) (st : RS) (w : World) (h : RF w g d st) :
    Calls Tryz.prog 63 #[.pointer (some ⟨g, 0, none⟩)] w fun e w' => e = .returned (.int .i64 (endE st)) ∧ Ext w w' := by
  have HL := Hid.mk' (fleft_any g d st w h)
  have HK := Hid.mk' h.ok
  obtain ⟨v, L, a, hb, -⟩ := h
  have HC := Hid.mk' hb
  have hc := hb.cell
  have hz := hb.lt
  clear hb
  by_cases he : st.e = 0
  · rw [he] at hc HC
    by_cases hl : st.l = []
    · have HR := Hid.mk' (show endE st = 0 from by unfold endE; rw [if_neg (fun h => h.2 hl), he])
      rw [hl] at HL
      simp only [List.length_nil] at HL
      clear he hl HK
      go_enter Tryz.func63, Tryz.ntmps63
      go_wp2_with (go_at_call 105; refine HL.out.mono ?_; rintro e w1 ⟨rfl, m, rfl⟩)
      go_ret
      exact ⟨ret_int HR.out.symm, (Ext.refl w).drewN m⟩
    · have HR := Hid.mk' (show endE st = 2 from by unfold endE; rw [if_pos ⟨he, hl⟩])
      have hln : 0 < st.l.length := List.length_pos_iff.2 hl
      obtain ⟨n, hn⟩ : ∃ n, n = st.l.length := ⟨_, rfl⟩
      rw [← hn] at HL hln
      clear he hl HK hn
      go_enter Tryz.func63, Tryz.ntmps63
      go_wp2_with (go_at_call 105; refine HL.out.mono ?_; rintro e w1 ⟨rfl, m, rfl⟩)
      go_ret
      exact ⟨ret_int HR.out.symm, (Ext.refl w).drewN m⟩
  · have HR := Hid.mk' (show endE st = st.e from by unfold endE; rw [if_neg (fun h => he h.1)])
    obtain ⟨E, hE⟩ : ∃ E, E = st.e := ⟨_, rfl⟩
    rw [← hE] at hc HR he
    have he1 : (E == 0) = false := by simpa using he
    clear hE he HL HC
    go_enter Tryz.func63, Tryz.ntmps63
    go_wp2
    go_ret
    exact ⟨ret_int HR.out.symm, by (repeat (with_reducible (first | exact Ext.refl _ | assumption | exact held_left (by assumption) | apply Ext.drewN | apply Ext.drew | apply Ext.alloc | (refine Ext.setCell ?_ (by first | (simp; done) | (simp; omega) | omega) _) | (refine Ext.trans ?_ (by assumption)) | (refine Ext.trans ?_ (held_left (by assumption))))))⟩

set_option maxRecDepth 100000 in set_option maxHeartbeats 2000000 in
theorem rtbegin_any (v : Value) (l : List Int) (w : World) (hl : AB w v l) (hlen : l.length ≤ 1000) (hb : isB l) :
    Calls Tryz.prog 19 #[v] w fun e w' => e = .returned (.tuple #[.int .u32 (tkB l).1, .int .u64 (tkB l).2.1, .int .i64 (tkB l).2.2]) ∧ Ext w w' := by
  have hl0 := hl
  obtain ⟨a0, cp0, rfl, -⟩ := hl0
  have HT : Hid (tkB l = if endE (uintR 18446744073709551615 (uintR 4294967295 ⟨l, 0⟩).2).2 ≠ 0 then (0, 0, endE (uintR 18446744073709551615 (uintR 4294967295 ⟨l, 0⟩).2).2) else if (uintR 4294967295 ⟨l, 0⟩).1 = 0 then (0, 0, 4) else ((uintR 4294967295 ⟨l, 0⟩).1, (uintR 18446744073709551615 (uintR 4294967295 ⟨l, 0⟩).2).1, 0)) := Hid.mk' rfl
  have HR1 := Hid.mk' (RF.arg hl hb (by omega))
  have HN := Hid.mk' (fun g d W (h : RF W g d ⟨l, 0⟩) => fuint_any g d ⟨l, 0⟩ 4294967295 W h (by decide))
  have HU := Hid.mk' (fun g d W (h : RF W g d (uintR 4294967295 ⟨l, 0⟩).2) => fuint_any g d (uintR 4294967295 ⟨l, 0⟩).2 18446744073709551615 W h (by decide))
  have HE := Hid.mk' (fun g d W (h : RF W g d (uintR 18446744073709551615 (uintR 4294967295 ⟨l, 0⟩).2).2) => fend_any g d _ W h)
  have hle := uintR_le (st := ⟨l, 0⟩) 4294967295
  have hwr : IntKind.u32.wrap ((uintR 4294967295 ⟨l, 0⟩).1 : Int) = ((uintR 4294967295 ⟨l, 0⟩).1 : Int) := by
    simp [IntKind.wrap, IntKind.signed, IntKind.bits]; omega
  unfold FPost at HN HU
  obtain ⟨s1, hs1⟩ : ∃ s, s = (uintR 4294967295 ⟨l, 0⟩).2 := ⟨_, rfl⟩
  obtain ⟨x1, hx1⟩ : ∃ s, s = (uintR 4294967295 ⟨l, 0⟩).1 := ⟨_, rfl⟩
  rw [← hs1] at HT HN HU HE
  rw [← hx1] at HT HN hle hwr
  obtain ⟨s2, hs2⟩ : ∃ s, s = (uintR 18446744073709551615 s1).2 := ⟨_, rfl⟩
  obtain ⟨x2, hx2⟩ : ∃ s, s = (uintR 18446744073709551615 s1).1 := ⟨_, rfl⟩
  rw [← hs2] at HT HU HE
  rw [← hx2] at HT HU
  obtain ⟨E, hE⟩ : ∃ s, s = endE s2 := ⟨_, rfl⟩
  rw [← hE] at HT HE
  clear hs1 hx1 hs2 hx2 hE hl hb
  go_enter Tryz.func19, Tryz.ntmps19
  go_upto_region 2 with (fail)
  have HB1 : Hid (Ext w (w.alloc (.cells #[.slice a0 l.length cp0, .int .i64 0, .int .i64 0] 139))) := Hid.mk' (by (repeat (with_reducible (first | exact Ext.refl _ | assumption | exact held_left (by assumption) | apply Ext.drewN | apply Ext.drew | apply Ext.alloc | (refine Ext.setCell ?_ (by first | (simp; done) | (simp; omega) | omega) _) | (refine Ext.trans ?_ (by assumption)) | (refine Ext.trans ?_ (held_left (by assumption)))))))
  go_upto_region 3 with (go_at_call 62; refine (HN.out _ _ _ HR1.out).mono ?_; rintro e w2 ⟨rfl, hr, ht⟩; have HR2 := Hid.mk' hr; have HB2 := Hid.mk' (Tch.ext HB1.out (Nat.le_refl _) ht); clear hr ht)
  go_upto_region 4 with (go_at_call 62; refine (HU.out _ _ _ HR2.out).mono ?_; rintro e w3 ⟨rfl, hr, ht⟩; have HR3 := Hid.mk' hr; have HB3 := Hid.mk' (Tch.ext HB2.out (Nat.le_refl _) ht); clear hr ht)
  go_upto_region 5 with (go_at_call 63; refine (HE.out _ _ _ HR3.out).mono ?_; rintro e w4 ⟨rfl, hb4⟩; have HB4 := Hid.mk' (HB3.out.trans hb4); clear hb4)
  by_cases hE0 : E = 0
  · subst hE0
    by_cases hx0 : x1 = 0
    · have HR := Hid.mk' (show tkB l = (0, 0, 4) from by rw [HT.out, if_neg (by simp), if_pos hx0])
      subst hx0
      clear HT
      go_wp2
      go_ret3
      exact ⟨by rw [HR.out]; rfl, HB4.out⟩
    · have hx0' : ((x1 : Int) == 0) = false := by simpa using hx0
      have HR := Hid.mk' (show tkB l = (x1, x2, 0) from by rw [HT.out, if_neg (by simp), if_neg hx0])
      clear HT hx0
      go_wp2
      go_ret3
      exact ⟨by rw [HR.out]; rfl, HB4.out⟩
  · have hE2 : (E != 0) = true := by simpa using hE0
    have HR := Hid.mk' (show tkB l = (0, 0, E) from by rw [HT.out, if_pos hE0])
    clear HT hE0
    go_wp2
    go_ret3
    exact ⟨by rw [HR.out]; rfl, HB4.out⟩

set_option maxRecDepth 100000 in set_option maxHeartbeats 2000000 in
theorem rtcommit_any (v : Value) (l : List Int) (w : World) (hl : AB w v l) (hlen : l.length ≤ 1000) (hb : isB l) :
    Calls Tryz.prog 21 #[v] w fun e w' => e = .returned (.tuple #[.int .u32 (tkC l).1, .int .i64 (tkC l).2.1, .int .i64 (tkC l).2.2]) ∧ Ext w w' := by
  have hl0 := hl
  obtain ⟨a0, cp0, rfl, -⟩ := hl0
  have HT : Hid (tkC l = if endE (uintR 512 (uintR 4294967295 ⟨l, 0⟩).2).2 ≠ 0 then (0, 0, endE (uintR 512 (uintR 4294967295 ⟨l, 0⟩).2).2) else ((uintR 4294967295 ⟨l, 0⟩).1, (uintR 512 (uintR 4294967295 ⟨l, 0⟩).2).1, 0)) := Hid.mk' rfl
  have HR1 := Hid.mk' (RF.arg hl hb (by omega))
  have HN := Hid.mk' (fun g d W (h : RF W g d ⟨l, 0⟩) => fuint_any g d ⟨l, 0⟩ 4294967295 W h (by decide))
  have HU := Hid.mk' (fun g d W (h : RF W g d (uintR 4294967295 ⟨l, 0⟩).2) => fuint_any g d (uintR 4294967295 ⟨l, 0⟩).2 512 W h (by decide))
  have HE := Hid.mk' (fun g d W (h : RF W g d (uintR 512 (uintR 4294967295 ⟨l, 0⟩).2).2) => fend_any g d _ W h)
  have hle := uintR_le (st := ⟨l, 0⟩) 4294967295
  have hle2 := uintR_le (st := (uintR 4294967295 ⟨l, 0⟩).2) 512
  have hwr : IntKind.u32.wrap ((uintR 4294967295 ⟨l, 0⟩).1 : Int) = ((uintR 4294967295 ⟨l, 0⟩).1 : Int) := by
    simp [IntKind.wrap, IntKind.signed, IntKind.bits]; omega
  unfold FPost at HN HU
  obtain ⟨s1, hs1⟩ : ∃ s, s = (uintR 4294967295 ⟨l, 0⟩).2 := ⟨_, rfl⟩
  obtain ⟨x1, hx1⟩ : ∃ s, s = (uintR 4294967295 ⟨l, 0⟩).1 := ⟨_, rfl⟩
  rw [← hs1] at HT HN HU HE hle2
  rw [← hx1] at HT HN hle hwr
  obtain ⟨s2, hs2⟩ : ∃ s, s = (uintR 512 s1).2 := ⟨_, rfl⟩
  obtain ⟨x2, hx2⟩ : ∃ s, s = (uintR 512 s1).1 := ⟨_, rfl⟩
  rw [← hs2] at HT HU HE
  rw [← hx2] at HT HU hle2
  obtain ⟨E, hE⟩ : ∃ s, s = endE s2 := ⟨_, rfl⟩
  rw [← hE] at HT HE
  clear hs1 hx1 hs2 hx2 hE hl hb
  go_enter Tryz.func21, Tryz.ntmps21
  go_upto_region 2 with (fail)
  have HB1 : Hid (Ext w (w.alloc (.cells #[.slice a0 l.length cp0, .int .i64 0, .int .i64 0] 139))) := Hid.mk' (by (repeat (with_reducible (first | exact Ext.refl _ | assumption | exact held_left (by assumption) | apply Ext.drewN | apply Ext.drew | apply Ext.alloc | (refine Ext.setCell ?_ (by first | (simp; done) | (simp; omega) | omega) _) | (refine Ext.trans ?_ (by assumption)) | (refine Ext.trans ?_ (held_left (by assumption)))))))
  go_upto_region 3 with (go_at_call 62; refine (HN.out _ _ _ HR1.out).mono ?_; rintro e w2 ⟨rfl, hr, ht⟩; have HR2 := Hid.mk' hr; have HB2 := Hid.mk' (Tch.ext HB1.out (Nat.le_refl _) ht); clear hr ht)
  go_upto_region 4 with (go_at_call 62; refine (HU.out _ _ _ HR2.out).mono ?_; rintro e w3 ⟨rfl, hr, ht⟩; have HR3 := Hid.mk' hr; have HB3 := Hid.mk' (Tch.ext HB2.out (Nat.le_refl _) ht); clear hr ht)
  go_upto_region 5 with (go_at_call 63; refine (HE.out _ _ _ HR3.out).mono ?_; rintro e w4 ⟨rfl, hb4⟩; have HB4 := Hid.mk' (HB3.out.trans hb4); clear hb4)
  by_cases hE0 : E = 0
  · subst hE0
    have HR := Hid.mk' (show tkC l = (x1, x2, 0) from by rw [HT.out, if_neg (by simp)])
    clear HT
    go_wp2
    go_ret3
    exact ⟨by rw [HR.out]; rfl, HB4.out⟩
  · have hE2 : (E != 0) = true := by simpa using hE0
    have HR := Hid.mk' (show tkC l = (0, 0, E) from by rw [HT.out, if_pos hE0])
    clear HT hE0
    go_wp2
    go_ret3
    exact ⟨by rw [HR.out]; rfl, HB4.out⟩

end Go.Proofs.YtibgippchdmdlaaGreat

/-
Numbers by sevens, one behind the other: the payload of a begin, of a commit, a ref.
-/
namespace Go.Proofs.YtibgippchdmdlaaGreat
open Go.RowKit

def nums (xs : List Nat) : List Int := (xs.map sevens).flatten
theorem nums_snoc (xs : List Nat) (x : Nat) : nums (xs ++ [x]) = nums xs ++ sevens x := by unfold nums; simp
theorem nums_one (x : Nat) : nums [x] = sevens x := by unfold nums; simp
theorem nums_two (x y : Nat) : nums [x, y] = sevens x ++ sevens y := by unfold nums; simp
theorem nums_len {xs : List Nat} (h : ∀ x ∈ xs, x < 2 ^ 64) : (nums xs).length ≤ xs.length * 10 := by
  induction xs with
  | nil => simp [nums]
  | cons x xs ih =>
    have h1 := ih (fun y hy => h y (List.mem_cons_of_mem _ hy))
    have h2 := sevens_len10 (h x (by simp))
    have e : nums (x :: xs) = sevens x ++ nums xs := by unfold nums; simp
    rw [e, List.length_append, List.length_cons]; omega

set_option maxRecDepth 100000 in set_option maxHeartbeats 2000000 in
theorem numbers_any (v : Value) (l : List Int) (xs : List Nat) (b c : Nat) (w : World) (hl : Sl w v 1 (l.map bcell)) (hlen : l.length ≤ 900000) (hx : ∀ x ∈ xs, x < 2 ^ 64) (hn : xs.length ≤ 100) (h0 : xs ≠ []) (hb : b < w.heap.size) (hc : ∀ i (h : i < xs.length), w.cell? ⟨b, i, none⟩ = some (.int .u64 xs[i])) :
    Calls Tryz.prog 42 #[v, .slice (some ⟨b, 0, none⟩) xs.length c] w fun e w' => ∃ v', e = .returned v' ∧ OB w' w.heap.size v' (l ++ nums xs) ∧ Ext w w' := by
  have HC := Hid.mk' hc
  have HX := Hid.mk' hx
  have HL := Hid.mk' hl
  have H0 := Hid.mk' (List.length_pos_iff.2 h0)
  have HNL : Hid (∀ k, (nums (xs.take k)).length ≤ 1000) := Hid.mk' (fun k => by
    have h := nums_len (xs := xs.take k) (fun x hx' => hx x (List.mem_of_mem_take hx'))
    rw [List.length_take] at h
    omega)
  clear hc hx hl h0
  go_enter Tryz.func42, Tryz.ntmps42
  go_wp2
  go_loopg [0, 9] xs.length (fun z a i wr => ∃ k : Nat, z + k = xs.length ∧ i = .int .i64 k ∧ Hid (Sl wr a 1 ((l ++ nums (xs.take k)).map bcell)) ∧ Hid (0 < k → OB wr w.heap.size a (l ++ nums (xs.take k))) ∧ Hid (Ext w wr))
  case atStart => exact ⟨0, by omega, rfl, Hid.mk' (by simpa [nums] using HL.out), Hid.mk' (fun h => absurd h (Nat.lt_irrefl 0)), Hid.mk' (Ext.refl _)⟩
  case round =>
    obtain ⟨k, hzk, rfl, hsl, hob, hE⟩ := hrel
    by_cases hlt : k < xs.length
    · have f0 := (hE.out.cells.1 b k hb).trans (HC.out k hlt)
      have hbw : b < wr.heap.size := Nat.lt_of_lt_of_le hb hE.out.size
      have HP := Hid.mk' (fun a' (h : Sl wr a' 1 ((l ++ nums (xs.take k)).map bcell)) => putUint_any a' (l ++ nums (xs.take k)) xs[k] wr h (HX.out _ (List.getElem_mem hlt)) (by rw [List.length_append]; have := HNL.out k; omega))
      have HTK : Hid (l ++ nums (xs.take (k + 1)) = l ++ nums (xs.take k) ++ sevens xs[k]) := Hid.mk' (by rw [List.take_succ_eq_append_getElem hlt, nums_snoc, List.append_assoc])
      rw [← HTK.out] at HP
      obtain ⟨x, hxx⟩ : ∃ x, x = xs[k] := ⟨_, rfl⟩
      rw [← hxx] at f0 HP
      have HLT := Hid.mk' hlt
      clear hxx HTK
      go_wp2_with (go_at_call 89; refine (HP.out _ hsl.out).mono ?_; rintro e w1 ⟨v1, rfl, ho1, hb1⟩; have HO1 := Hid.mk' (ho1.base hE.out.size); have HB1 := Hid.mk' (hE.out.trans hb1); clear ho1 hb1)
      go_roundg (xs.length - (k + 1))
      case measure => have := HLT.out; omega
      case rel => exact ⟨k + 1, Nat.sub_add_cancel HLT.out, by go_num, Hid.mk' HO1.out.sl, Hid.mk' (fun _ => HO1.out), HB1⟩
    · obtain rfl : k = xs.length := by omega
      have HO := Hid.mk' (hob.out H0.out)
      rw [List.take_length] at HO
      obtain ⟨a', c', rfl⟩ := HO.out.shape
      clear hsl hob
      go_wp2
      go_ret
      exact ⟨_, rfl, HO.out, hE.out⟩

theorem two_cells (w : World) (x y : Nat) (i : Nat) (h : i < [x, y].length) : (w.alloc (.cells #[.int .u64 x, .int .u64 y] 32)).cell? ⟨w.heap.size, i, none⟩ = some (.int .u64 [x, y][i]) := by
  rw [(Blk.new w _ _).cell]
  match i, h with
  | 0, _ => rfl
  | 1, _ => rfl
theorem numbers2_any (v : Value) (l : List Int) (x y : Nat) (w : World) (hl : Sl w v 1 (l.map bcell)) (hlen : l.length ≤ 900000) (hx : x < 2 ^ 64) (hy : y < 2 ^ 64) :
    Calls Tryz.prog 42 #[v, .slice (some ⟨w.heap.size, 0, none⟩) 2 2] (w.alloc (.cells #[.int .u64 x, .int .u64 y] 32)) fun e w' => ∃ v', e = .returned v' ∧ OB w' w.heap.size v' (l ++ (sevens x ++ sevens y)) ∧ Ext w w' := by
  have hE : Ext w (w.alloc (.cells #[.int .u64 x, .int .u64 y] 32)) := (Ext.refl w).alloc _
  refine (numbers_any v l [x, y] w.heap.size 2 (w.alloc (.cells #[.int .u64 x, .int .u64 y] 32)) (hl.ext hE) hlen (fun z hz => ?_) (by simp) (by simp) (by simp) (two_cells w x y)).mono ?_
  · simp only [List.mem_cons, List.not_mem_nil, or_false] at hz
    rcases hz with rfl | rfl
    · exact hx
    · exact hy
  · rintro e w' ⟨v', he, ho, hb⟩
    rw [nums_two] at ho
    exact ⟨v', he, ho.base (by simp), hE.trans hb⟩

set_option maxRecDepth 100000 in set_option maxHeartbeats 1600000 in
theorem putBegin_any (x y : Nat) (w : World) (hx : x < 2 ^ 64) (hy : y < 2 ^ 64) :
    Calls Tryz.prog 22 #[.int .u32 x, .int .u64 y] w fun e w' => ∃ v', e = .returned v' ∧ OB w' w.heap.size v' (sevens x ++ sevens y) ∧ Ext w w' := by
  have HN := Hid.mk' (numbers2_any (.slice none 0 0) [] x y w ⟨none, 0, rfl, .inl rfl⟩ (by simp) hx hy)
  rw [List.nil_append] at HN
  have hx' : (x : Int) < 18446744073709551616 := by have : (2 : Nat) ^ 64 = 18446744073709551616 := by decide
                                                    omega
  go_enter Tryz.func22, Tryz.ntmps22
  go_wp2_with (go_at_call 42; refine HN.out.mono ?_; rintro e w1 ⟨v1, rfl, ho1, hb1⟩; have HO1 := Hid.mk' ho1; have HB1 := Hid.mk' hb1; clear ho1 hb1)
  obtain ⟨a', c', rfl⟩ := HO1.out.shape
  go_ret
  exact ⟨_, rfl, HO1.out, HB1.out⟩

end Go.Proofs.YtibgippchdmdlaaGreat

/-
The payload of a commit, a ref; the reference's begin and commit.
-/
namespace Go.Proofs.YtibgippchdmdlaaGreat
open Go.RowKit

set_option maxRecDepth 100000 in set_option maxHeartbeats 1600000 in
theorem putCommit_any (x : Nat) (n : Int) (w : World) (hx : x < 2 ^ 32) (hn : -9223372036854775808 ≤ n ∧ n < 9223372036854775808) :
    Calls Tryz.prog 24 #[.int .u32 x, .int .i64 n] w fun e w' => ∃ v', e = .returned v' ∧ OB w' w.heap.size v' (sevens x ++ sevens n.toNat) ∧ Ext w w' := by
  have hx1 : x < 2 ^ 64 := Nat.lt_of_lt_of_le hx (by decide)
  have hx' : (x : Int) < 18446744073709551616 := by have : (2 : Nat) ^ 32 = 4294967296 := by decide
                                                    omega
  have hm1 : n.toNat < 2 ^ 64 := by have : (2 : Nat) ^ 64 = 18446744073709551616 := by decide
                                    omega
  have HN := Hid.mk' (numbers2_any (.slice none 0 0) [] x n.toNat w ⟨none, 0, rfl, .inl rfl⟩ (by simp) hx1 hm1)
  rw [List.nil_append] at HN
  have HI : Hid ((if 0 < n then n else (0 : Int)) = ((n.toNat : Nat) : Int)) := Hid.mk' (by split <;> omega)
  clear hm1
  go_enter Tryz.func24, Tryz.ntmps24
  go_wp2_with (go_at_call 42; rw [HI.out]; refine HN.out.mono ?_; rintro e w1 ⟨v1, rfl, ho1, hb1⟩; have HO1 := Hid.mk' ho1; have HB1 := Hid.mk' hb1; clear ho1 hb1)
  obtain ⟨a', c', rfl⟩ := HO1.out.shape
  go_ret
  exact ⟨_, rfl, HO1.out, HB1.out⟩

set_option maxRecDepth 100000 in set_option maxHeartbeats 1600000 in
theorem putRef_any (v : Value) (l : List Int) (x y : Nat) (w : World) (hl : Sl w v 1 (l.map bcell)) (hlen : l.length ≤ 900000) (hx : x < 2 ^ 32) (hy : y < 2 ^ 32) :
    Calls Tryz.prog 43 #[v, .agg #[.int .u32 x, .int .u32 y]] w fun e w' => ∃ v', e = .returned v' ∧ OB w' w.heap.size v' (l ++ (sevens x ++ sevens y)) ∧ Ext w w' := by
  have hx1 : x < 2 ^ 64 := Nat.lt_of_lt_of_le hx (by decide)
  have hy1 : y < 2 ^ 64 := Nat.lt_of_lt_of_le hy (by decide)
  have hx' : (x : Int) < 18446744073709551616 := by have : (2 : Nat) ^ 32 = 4294967296 := by decide
                                                    omega
  have hy' : (y : Int) < 18446744073709551616 := by have : (2 : Nat) ^ 32 = 4294967296 := by decide
                                                    omega
  have hl0 := hl
  obtain ⟨a0, cp0, rfl, -⟩ := hl0
  rw [List.length_map] at hl ⊢
  have HN := Hid.mk' (numbers2_any (.slice a0 l.length cp0) l x y (w.alloc (.cells #[.int .u32 x, .int .u32 y] 45)) (hl.ext ((Ext.refl w).alloc _)) hlen hx1 hy1)
  rw [World.size_alloc] at HN
  go_enter Tryz.func43, Tryz.ntmps43
  go_wp2_with (go_at_call 42; refine HN.out.mono ?_; rintro e w1 ⟨v1, rfl, ho1, hb1⟩; have HO1 := Hid.mk' ho1; have HB1 := Hid.mk' hb1; clear ho1 hb1)
  obtain ⟨a', c', rfl⟩ := HO1.out.shape
  go_ret
  exact ⟨_, rfl, HO1.out.base (by omega), ((Ext.refl w).alloc _).trans HB1.out⟩

set_option maxRecDepth 100000 in set_option maxHeartbeats 1600000 in
theorem rputBegin_any (x y : Nat) (w : World) (hx : x < 2 ^ 64) (hy : y < 2 ^ 64) :
    Calls Tryz.prog 23 #[.int .u32 x, .int .u64 y] w fun e w' => ∃ v', e = .returned v' ∧ OB w' w.heap.size v' (sevens x ++ sevens y) ∧ Ext w w' := by
  have HX := Hid.mk' (fun W => ruint_any x W hx)
  have HY := Hid.mk' (fun W => ruint_any y W hy)
  have HL := Hid.mk' (And.intro (sevens_len10 hx) (sevens_len10 hy))
  have hx' : (x : Int) < 18446744073709551616 := by have : (2 : Nat) ^ 64 = 18446744073709551616 := by decide
                                                    omega
  go_enter Tryz.func23, Tryz.ntmps23
  go_wp2_with (first
    | (go_at_call_of 64 (Value.int .u64 x); refine (HX.out _).mono ?_; rintro e w1 ⟨v1, rfl, ho1, hb1⟩; have HO1 := Hid.mk' ho1; have HB1 := Hid.mk' hb1; clear ho1 hb1)
    | (go_at_call_of 64 (Value.int .u64 y); refine (HY.out _).mono ?_; rintro e w2 ⟨v2, rfl, ho2, hb2⟩; have HO2 := Hid.mk' ho2; have HB2 := Hid.mk' hb2; clear ho2 hb2)
    | (at_builtin; refine app_bytes rfl _ _ rfl w.heap.size v1 (sevens x) rfl (HO1.out.ext HB2.out) v2 (sevens y) rfl (NB.of_own HO2.out) ?c1 ?c2 ?_))
  case c1 => have := HL.out; omega
  case c2 => have := HB1.out.size; have := HB2.out.size; omega
  intro v3 w3 ho3 hg3
  have HO3 := Hid.mk' ho3
  have HE3 : Hid (Ext w w3) := Hid.mk' (OB.grown (HB1.out.trans HB2.out) (HO1.out.ext HB2.out) hg3)
  clear ho3 hg3
  obtain ⟨a', c', rfl⟩ := HO3.out.shape
  go_wp2
  go_ret
  exact ⟨_, rfl, HO3.out, HE3.out⟩

set_option maxRecDepth 100000 in set_option maxHeartbeats 1600000 in
theorem rputCommit_any (x : Nat) (n : Int) (w : World) (hx : x < 2 ^ 32) (hn : -9223372036854775808 ≤ n ∧ n < 9223372036854775808) :
    Calls Tryz.prog 25 #[.int .u32 x, .int .i64 n] w fun e w' => ∃ v', e = .returned v' ∧ OB w' w.heap.size v' (sevens x ++ sevens n.toNat) ∧ Ext w w' := by
  have hx1 : x < 2 ^ 64 := Nat.lt_of_lt_of_le hx (by decide)
  have hx' : (x : Int) < 18446744073709551616 := by have : (2 : Nat) ^ 32 = 4294967296 := by decide
                                                    omega
  obtain ⟨m, hm⟩ : ∃ m, m = n.toNat := ⟨_, rfl⟩
  have hm1 : m < 2 ^ 64 := by have : (2 : Nat) ^ 64 = 18446744073709551616 := by decide
                              omega
  have hm' : (m : Int) < 18446744073709551616 := by omega
  rw [← hm]
  have HX := Hid.mk' (fun W => ruint_any x W hx1)
  have HY := Hid.mk' (fun W => ruint_any m W hm1)
  have HL := Hid.mk' (And.intro (sevens_len10 hx1) (sevens_len10 hm1))
  by_cases h0 : n < 0
  · obtain rfl : m = 0 := by omega
    clear hm
    have hd2 : decide (n < 0) = true := decide_eq_true h0
    go_enter Tryz.func25, Tryz.ntmps25
    go_wp2_with (first
      | (go_at_call_of 64 (Value.int .u64 x); refine (HX.out _).mono ?_; rintro e w1 ⟨v1, rfl, ho1, hb1⟩; have HO1 := Hid.mk' ho1; have HB1 := Hid.mk' hb1; clear ho1 hb1)
      | (go_at_call 64; refine (HY.out _).mono ?_; rintro e w2 ⟨v2, rfl, ho2, hb2⟩; have HO2 := Hid.mk' ho2; have HB2 := Hid.mk' hb2; clear ho2 hb2)
      | (at_builtin; refine app_bytes rfl _ _ rfl w.heap.size v1 (sevens x) rfl (HO1.out.ext HB2.out) v2 _ rfl (NB.of_own HO2.out) ?c1 ?c2 ?_))
    case c1 => have := HL.out; omega
    case c2 => have := HB1.out.size; have := HB2.out.size; omega
    intro v3 w3 ho3 hg3
    have HO3 := Hid.mk' ho3
    have HE3 : Hid (Ext w w3) := Hid.mk' (OB.grown (HB1.out.trans HB2.out) (HO1.out.ext HB2.out) hg3)
    clear ho3 hg3
    obtain ⟨a', c', rfl⟩ := HO3.out.shape
    go_wp2
    go_ret
    exact ⟨_, rfl, HO3.out, HE3.out⟩
  · obtain rfl : n = (m : Int) := by omega
    clear hm
    have hd2 : decide ((m : Int) < 0) = false := decide_eq_false h0
    go_enter Tryz.func25, Tryz.ntmps25
    go_wp2_with (first
      | (go_at_call_of 64 (Value.int .u64 x); refine (HX.out _).mono ?_; rintro e w1 ⟨v1, rfl, ho1, hb1⟩; have HO1 := Hid.mk' ho1; have HB1 := Hid.mk' hb1; clear ho1 hb1)
      | (go_at_call 64; refine (HY.out _).mono ?_; rintro e w2 ⟨v2, rfl, ho2, hb2⟩; have HO2 := Hid.mk' ho2; have HB2 := Hid.mk' hb2; clear ho2 hb2)
      | (at_builtin; refine app_bytes rfl _ _ rfl w.heap.size v1 (sevens x) rfl (HO1.out.ext HB2.out) v2 _ rfl (NB.of_own HO2.out) ?c1 ?c2 ?_))
    case c1 => have := HL.out; omega
    case c2 => have := HB1.out.size; have := HB2.out.size; omega
    intro v3 w3 ho3 hg3
    have HO3 := Hid.mk' ho3
    have HE3 : Hid (Ext w w3) := Hid.mk' (OB.grown (HB1.out.trans HB2.out) (HO1.out.ext HB2.out) hg3)
    clear ho3 hg3
    obtain ⟨a', c', rfl⟩ := HO3.out.shape
    go_wp2
    go_ret
    exact ⟨_, rfl, HO3.out, HE3.out⟩

end Go.Proofs.YtibgippchdmdlaaGreat

/-
A region that draws its order and ends in operations that wait for all others: its head is walked in the order of the text, under a condition that holds till the tail begins; the tail is walked as a plain region.
-/
namespace Go.Proofs.YtibgippchdmdlaaGreat
open Go.RowKit

section
variable {P : Program} {ops : Array Oper} {Q : Exit → Act → World → Prop} {md : Region.Mode} {S : World → Prop}

def wpHd (P : Program) (md : Region.Mode) (ops : Array Oper) (Q : Exit → Act → World → Prop) (S : World → Prop) (n : Nat) : Nat → Array Bool → Act → World → Prop
  | 0, listed, a, w => Region.seqB md ops (ops.size - n) n listed = true ∧ wpList P ops Q (ops.toList.drop n) a w
  | f + 1, listed, a, w => Region.ready md ops listed ≠ [] ∧ ∀ i ∈ Region.ready md ops listed, i < n ∧ wpOp P ops Q i (fun a' w' => S w' ∧ wpHd P md ops Q S n f (listed.setIfInBounds i true) a' w') a w

theorem wpAny_of_hd {n : Nat} : ∀ (f : Nat) (listed : Array Bool) (a : Act) (w : World), wpHd P md ops Q S n f listed a w → wpAny P md ops Q (f + (ops.size - n)) listed a w
  | 0, listed, a, w, h => by
    rw [Nat.zero_add]
    obtain ⟨hB, h⟩ := h
    have hl : (ops.toList.drop n).length = ops.size - n := by simp
    have := wpAny_of_seq (P := P) (md := md) (ops := ops) (Q' := Q) (ops.toList.drop n) n listed a w (fun j => by rw [List.getElem?_drop, Array.getElem?_toList]) (by rw [hl]; exact hB) h
    rw [hl] at this
    exact this
  | f + 1, listed, a, w, h => by
    rw [show f + 1 + (ops.size - n) = (f + (ops.size - n)) + 1 by omega]
    exact ⟨fun h0 => absurd h0 h.1, fun i hi => wpOp_mono (fun a' w' h' => wpAny_of_hd f _ a' w' h'.2) (h.2 i hi).2⟩

theorem wpHd_first {n i : Nat} {oi : Oper} {v : Value} (hi : ops[i]? = some oi) (hsel : ∀ (j : Nat) (o : Oper) cs b, ops[j]? = some o → o.op ≠ .select cs b)
    (hs : Region.sinkB md ops n = true) (hc : Region.chainB md ops n = true) (hn : n < ops.size) (hin : i < n)
    (hQ : ∀ c a w, Q (.panic c) (a.put oi.dst v) w → Q (.panic c) a w) :
    ∀ (f : Nat) (listed : Array Bool) (a : Act) (w : World), HeadInv md ops n listed →
      (∀ j oj, ops[j]? = some oj → j ≠ i → listed.getD j true = false → (∀ e ∈ oj.after, Region.binds md e = true → e.on ≠ i) → oi.apart ops oj = true) →
      i ∈ Region.ready md ops listed → YieldsIf P ops S oi v a → S w →
      wpHd P md ops Q S n f (listed.setIfInBounds i true) (a.put oi.dst v) w → wpHd P md ops Q S n (f + 1) listed a w := by
  intro f
  induction f with
  | zero =>
    intro listed a w inv _ hr hy hS H
    have hun := (mem_ready.1 hr).1
    refine ⟨fun h => (by rw [h] at hr; cases hr), fun j hj => ?_⟩
    have hjn : j < n := by
      rcases Nat.lt_or_ge j n with h | h
      · exact h
      · exact absurd hj (tail_waits hs hc hn inv _ i rfl hin hun j h)
    refine ⟨hjn, ?_⟩
    by_cases hji : j = i
    · subst hji; exact hy.wpOp hi hS ⟨hS, H⟩
    · have := seqB_ready H.1 j (ready_mono hj hji)
      omega
  | succ f ih =>
    intro listed a w inv hfree hr hy hS H
    have hun := (mem_ready.1 hr).1
    refine ⟨fun h => (by rw [h] at hr; cases hr), fun j hj => ?_⟩
    have hjn : j < n := by
      rcases Nat.lt_or_ge j n with h | h
      · exact h
      · exact absurd hj (tail_waits hs hc hn inv _ i rfl hin hun j h)
    refine ⟨hjn, ?_⟩
    by_cases hji : j = i
    · subst hji; exact hy.wpOp hi hS ⟨hS, H⟩
    · have h1 := (H.2 j (ready_mono hj hji)).2
      obtain ⟨hjun, oj, hoj, hall⟩ := mem_ready.1 hj
      have hnot : ∀ e ∈ oj.after, Region.binds md e = true → e.on ≠ i := fun e he hb heq => by
        have h1 := hall e he hb
        rw [heq, getD_both hun] at h1
        cases h1
      have h2 := wpOp_putIf hoj (hfree j oj hoj hji hjun hnot) (fun cs b => hsel i oi cs b hi) (fun cs b => hsel j oj cs b hoj) hQ hy h1
      have hfree' : ∀ k ok, ops[k]? = some ok → k ≠ i → (listed.setIfInBounds j true).getD k true = false →
          (∀ e ∈ ok.after, Region.binds md e = true → e.on ≠ i) → oi.apart ops ok = true := fun k ok hk hki hun hno => by
        refine hfree k ok hk hki ?_ hno
        by_cases hjk : j = k
        · subst hjk; exact hjun
        · rw [getD_set_ne true hjk] at hun; exact hun
      refine wpOp_mono (fun a' w' h3 => ⟨h3.2.1, ih (listed.setIfInBounds j true) a' w' (inv.set hj hjn) hfree' (ready_mono hr (Ne.symm hji)) h3.1 h3.2.1 ?_⟩) h2
      rw [Array.setIfInBounds_comm _ _ hji]
      exact h3.2.2

def headB (md : Region.Mode) (ops : Array Oper) (n : Nat) (listed : Array Bool) : Bool :=
  decide (listed.size = ops.size) && decide (n < ops.size) && Region.noSelect ops && Region.sinkB md ops n && Region.chainB md ops n &&
  ((List.range ops.size).all fun j => !(listed.getD j false) || ((ops[j]?).map (·.after.all fun e => !Region.binds md e || listed.getD e.on false)).getD true) &&
  ((List.range ops.size).all fun t => decide (t < n) || !(listed.getD t true))

theorem headB_spec {n : Nat} {listed : Array Bool} (h : headB md ops n listed = true) :
    n < ops.size ∧ Region.noSelect ops = true ∧ Region.sinkB md ops n = true ∧ Region.chainB md ops n = true ∧ HeadInv md ops n listed := by
  unfold headB at h
  simp only [Bool.and_eq_true, decide_eq_true_eq] at h
  obtain ⟨⟨⟨⟨⟨⟨h1, h2⟩, h3⟩, h4⟩, h5⟩, h6⟩, h7⟩ := h
  refine ⟨h2, h3, h4, h5, h1, ?_, ?_⟩
  · intro j oj hj hl e he hb
    have hjl : j < ops.size := (Array.getElem?_eq_some_iff.1 hj).1
    have := List.all_eq_true.1 h6 j (List.mem_range.2 hjl)
    rw [hl, hj] at this
    simp only [Bool.not_true, Bool.false_or, Option.map_some, Option.getD_some] at this
    have h8 := Array.all_eq_true'.1 this e he
    rw [hb] at h8
    simpa using h8
  · intro t ht htl
    have := List.all_eq_true.1 h7 t (List.mem_range.2 htl)
    rw [decide_eq_false (by omega)] at this
    simpa using this

/-- Number 'i' is taken: it only reads, and in every world that meets S it yields 'v'. -/
theorem wpHd_take {n i : Nat} {oi : Oper} {v : Value} {f : Nat} {listed : Array Bool} {a : Act} {w : World} (hi : ops[i]? = some oi)
    (hB : headB md ops n listed = true) (hf : Region.free md ops listed i = true) (hr : ((Region.ready md ops listed).contains i && decide (i < n)) = true)
    (hQ : ∀ c a w, Q (.panic c) (a.put oi.dst v) w → Q (.panic c) a w) (hy : YieldsIf P ops S oi v a) (hS : S w)
    (h : wpHd P md ops Q S n f (listed.setIfInBounds i true) (a.put oi.dst v) w) : wpHd P md ops Q S n (f + 1) listed a w := by
  obtain ⟨hn, hsel, hs, hc, inv⟩ := headB_spec hB
  simp only [Bool.and_eq_true, decide_eq_true_eq] at hr
  exact wpHd_first hi (Region.noSelect_spec hsel) hs hc hn hr.2 hQ f listed a w inv (Region.free_spec hi hf) (by simpa using hr.1) hy hS h

/-- Number 'i' alone may come up: it is carried out, and S shown anew. -/
theorem wpHd_one {n i : Nat} {o : Oper} {f : Nat} {listed : Array Bool} {a : Act} {w : World} (hi : ops[i]? = some o) (hg : o.guard = none)
    (hr : (decide (Region.ready md ops listed = [i]) && decide (i < n)) = true)
    (h : ∀ K : Act → World → Prop, Hid (∀ a' w', S w' → (S w' → wpHd P md ops Q S n f (listed.setIfInBounds i true) a' w') → K a' w') → o.wp P a w K Q) : wpHd P md ops Q S n (f + 1) listed a w := by
  simp only [Bool.and_eq_true, decide_eq_true_eq] at hr
  refine ⟨by rw [hr.1]; simp, fun j hj => ?_⟩
  rw [hr.1] at hj
  have hji : j = i := by simpa using hj
  subst hji
  refine ⟨hr.2, ?_⟩
  unfold wpOp
  simp only [hi]
  rw [if_pos (by simp [Region.wanted, hg])]
  exact .inl (h _ (fun a' w' hs hk => ⟨hs, hk hs⟩))

/-- The head is done: the tail, as a plain region. -/
theorem wpHd_tail {n : Nat} {listed : Array Bool} {a : Act} {w : World} (hB : Region.seqB md ops (ops.size - n) n listed = true) (h : wpList P ops Q (ops.toList.drop n) a w) : wpHd P md ops Q S n 0 listed a w := ⟨hB, h⟩

/-- The beginning. -/
theorem wp_region_head (n : Nat) (S : World → Prop) {id : Nat} {a : Act} {w : World} (hm : P.follows .mixedOrders = true) (hn : n < ops.size)
    (h : wpHd P .any ops Q S n n (Array.replicate ops.size false) a w.drew) : (Code.region id ops true).wp P Q a w := by
  have h2 := wpAny_of_hd n _ _ _ h
  rw [show n + (ops.size - n) = ops.size by omega] at h2
  exact wp_region_any hm h2
end

end Go.Proofs.YtibgippchdmdlaaGreat

/-
A head whose condition grows behind a call; an operation with a guard that is on; two that may come up.
-/
namespace Go.Proofs.YtibgippchdmdlaaGreat
open Go.RowKit

section
variable {P : Program} {ops : Array Oper} {Q : Exit → Act → World → Prop} {md : Region.Mode} {S S' : World → Prop}

/-- What is shown under a condition that says more is shown under one that says less. -/
theorem wpHd_str {n : Nat} (hS : ∀ w, S' w → S w) : ∀ (f : Nat) (listed : Array Bool) (a : Act) (w : World), wpHd P md ops Q S' n f listed a w → wpHd P md ops Q S n f listed a w
  | 0, _, _, _, h => h
  | f + 1, _, _, _, ⟨h0, h⟩ => ⟨h0, fun i hi => ⟨(h i hi).1, wpOp_mono (fun _ _ h' => ⟨hS _ h'.1, wpHd_str hS f _ _ _ h'.2⟩) (h i hi).2⟩⟩

/-- Number 'i' alone may come up, its guard is on. -/
theorem wpHd_oneG {n i : Nat} {o : Oper} {f : Nat} {listed : Array Bool} {a : Act} {w : World} (hi : ops[i]? = some o) (hg : Region.wanted o (yielded ops a.tmps) = true)
    (hr : (decide (Region.ready md ops listed = [i]) && decide (i < n)) = true)
    (h : ∀ K : Act → World → Prop, Hid (∀ a' w', S w' → (S w' → wpHd P md ops Q S n f (listed.setIfInBounds i true) a' w') → K a' w') → o.wp P a w K Q) : wpHd P md ops Q S n (f + 1) listed a w := by
  simp only [Bool.and_eq_true, decide_eq_true_eq] at hr
  refine ⟨by rw [hr.1]; simp, fun j hj => ?_⟩
  rw [hr.1] at hj
  have hji : j = i := by simpa using hj
  subst hji
  refine ⟨hr.2, ?_⟩
  unfold wpOp
  simp only [hi]
  rw [if_pos hg]
  exact .inl (h _ (fun a' w' hs hk => ⟨hs, hk hs⟩))

/-- Numbers 'i' and 'j' may come up. -/
theorem wpHd_two {n i j : Nat} {o o2 : Oper} {f : Nat} {listed : Array Bool} {a : Act} {w : World} (hi : ops[i]? = some o) (hg : o.guard = none) (hj : ops[j]? = some o2) (hg2 : o2.guard = none)
    (hr : (decide (Region.ready md ops listed = [i, j]) && (decide (i < n) && decide (j < n))) = true)
    (h : ∀ K : Act → World → Prop, Hid (∀ a' w', S w' → (S w' → wpHd P md ops Q S n f (listed.setIfInBounds i true) a' w') → K a' w') → o.wp P a w K Q)
    (h2 : ∀ K : Act → World → Prop, Hid (∀ a' w', S w' → (S w' → wpHd P md ops Q S n f (listed.setIfInBounds j true) a' w') → K a' w') → o2.wp P a w K Q) : wpHd P md ops Q S n (f + 1) listed a w := by
  simp only [Bool.and_eq_true, decide_eq_true_eq] at hr
  refine ⟨by rw [hr.1]; simp, fun k hk => ?_⟩
  rw [hr.1] at hk
  simp only [List.mem_cons, List.not_mem_nil, or_false] at hk
  rcases hk with rfl | rfl
  · refine ⟨hr.2.1, ?_⟩
    unfold wpOp
    simp only [hi]
    rw [if_pos (by simp [Region.wanted, hg])]
    exact .inl (h _ (fun a' w' hs hk => ⟨hs, hk hs⟩))
  · refine ⟨hr.2.2, ?_⟩
    unfold wpOp
    simp only [hj]
    rw [if_pos (by simp [Region.wanted, hg2])]
    exact .inl (h2 _ (fun a' w' hs hk => ⟨hs, hk hs⟩))
end

theorem HG.wpHd_takeD {P : Program} {ops : Array Oper} {Q : Exit → Act → World → Prop} {md : Region.Mode} {S : World → Prop} {n i : Nat} {oi : Oper} {d : Option Tmp} {v : Value} {f : Nat} {listed : Array Bool} {a : Act} {w : World} (hi : ops[i]? = some oi) (hd : oi.dst = d)
    (hB : headB md ops n listed = true) (hf : Region.free md ops listed i = true) (hr : ((Region.ready md ops listed).contains i && decide (i < n)) = true)
    (hQ : ∀ c a w, Q (.panic c) (a.put d v) w → Q (.panic c) a w) (hy : YieldsIf P ops S oi v a) (hS : S w)
    (h : wpHd P md ops Q S n f (listed.setIfInBounds i true) (a.put d v) w) : wpHd P md ops Q S n (f + 1) listed a w := by
  subst hd
  exact wpHd_take hi hB hf hr hQ hy hS h

end Go.Proofs.YtibgippchdmdlaaGreat

/-
The walk of RecordEnds.
-/
namespace Go.Proofs.YtibgippchdmdlaaGreat
open Go.RowKit HG

set_option maxRecDepth 100000 in set_option maxHeartbeats 8000000 in
theorem recordends_law (haw : ∀ w : World, Calls Tryz.prog 16 #[] w fun e w' => e = .returned (.bool true) ∧ Ext w w') (x y : Nat) (v : Value) (l : List Int) (w : World) (hx : x < 2 ^ 32) (hy : y < 2 ^ 64) (hl : AB w v l) (hlen : l.length ≤ 9223372036854775807) (hb : isB l) :
    Calls Tryz.prog 5 #[.int .u32 x, .int .u64 y, v] w fun e w' => e = .returned (.bool true) ∧ Ext w w' := by
  have hx64 : x < 2 ^ 64 := Nat.lt_of_lt_of_le hx (by decide)
  have HA := Hid.mk' hl
  have HBB := Hid.mk' hb
  have HAW := Hid.mk' haw
  have HPB := Hid.mk' (fun W => putBegin_any x y W hx64 hy)
  have HRB := Hid.mk' (fun W => rputBegin_any x y W hx64 hy)
  have HPC := Hid.mk' (fun n hn W => putCommit_any x n W hx hn)
  have HRC := Hid.mk' (fun n hn W => rputCommit_any x n W hx hn)
  have hl0 := hl
  obtain ⟨a, cap, rfl, -⟩ := hl0
  clear hl hb haw hx hy hx64
  by_cases h100 : 100 < l.length
  · go_enter Tryz.func5, Tryz.ntmps5
    go_wp2
    go_ret
    exact ⟨rfl, by (repeat (with_reducible (first | exact Ext.refl _ | assumption | exact held_left (by assumption) | apply Ext.drewN | apply Ext.drew | apply Ext.alloc | (refine Ext.setCell ?_ (by first | (simp; done) | (simp; omega) | omega) _) | (refine Ext.trans ?_ (by assumption)) | (refine Ext.trans ?_ (held_left (by assumption))))))⟩
  have HP1 := Hid.mk' (fun W (h : Ext w W) => ptbegin_any _ l W (HA.out.ext h).sl (by omega) HBB.out)
  have HR1 := Hid.mk' (fun W (h : Ext w W) => rtbegin_any _ l W (HA.out.ext h) (by omega) HBB.out)
  have HP2 := Hid.mk' (fun W (h : Ext w W) => ptcommit_any _ l W (HA.out.ext h).sl (by omega) HBB.out)
  have HR2 := Hid.mk' (fun W (h : Ext w W) => rtcommit_any _ l W (HA.out.ext h) (by omega) HBB.out)
  generalize (tkB l).1 = b1 at HP1 HR1
  generalize (tkB l).2.1 = b2 at HP1 HR1
  generalize (tkB l).2.2 = b3 at HP1 HR1
  generalize (tkC l).1 = c1 at HP2 HR2
  generalize (tkC l).2.1 = c2 at HP2 HR2
  generalize (tkC l).2.2 = c3 at HP2 HR2
  clear HA HBB
  go_enter Tryz.func5, Tryz.ntmps5
  go_upto_region 7 with (first
    | (go_at_call 18; refine (HP1.out _ (Ext.refl _)).mono ?_; rintro e w4 ⟨rfl, hb4⟩; have HE4 := Hid.mk' hb4; clear hb4)
    | (go_at_call 19; refine (HR1.out _ HE4.out).mono ?_; rintro e w5 ⟨rfl, hb5⟩; have HE5 := Hid.mk' (HE4.out.trans hb5); clear hb5)
    | (go_at_call 20; refine (HP2.out _ HE5.out).mono ?_; rintro e w6 ⟨rfl, hb6⟩; have HE6 := Hid.mk' (HE5.out.trans hb6); clear hb6)
    | (go_at_call 21; refine (HR2.out _ HE6.out).mono ?_; rintro e w7 ⟨rfl, hb7⟩; have HE7 := Hid.mk' (HE6.out.trans hb7); clear hb7))
  obtain ⟨SB, hSB⟩ : ∃ S, S = strOfNums (sevens x ++ sevens y) := ⟨_, rfl⟩
  have HSB := Hid.mk' hSB
  have hw64 : IntKind.i64.wrap (y : Int) = wrap64 (y : Int) := by simp [IntKind.wrap, IntKind.signed, IntKind.bits, wrap64]; split <;> omega
  obtain ⟨NY, hNY⟩ : ∃ N, N = wrap64 (y : Int) := ⟨_, rfl⟩
  have HNB : Hid (-9223372036854775808 ≤ NY ∧ NY < 9223372036854775808) := Hid.mk' (by rw [hNY]; unfold wrap64; omega)
  have HNW : Hid (NY = wrap64 (y : Int)) := Hid.mk' hNY
  have HNV : Hid (NY = IntKind.i64.wrap (y : Int)) := Hid.mk' (hNY.trans hw64.symm)
  clear hNY hw64
  obtain ⟨SC, hSC⟩ : ∃ S, S = strOfNums (sevens x ++ sevens NY.toNat) := ⟨_, rfl⟩
  have HSC := Hid.mk' hSC
  clear hSB hSC HE4 HE5 HE6
  refine wp_region_head 22 (fun w' => Ext w7 w') (by kernel_rfl) (by decide) ?_
  have hA0 : Hid ((fun w' => Ext w7 w') w7.drew) := Hid.mk' ((Ext.refl w7).drew)
  (refine wpHd_takeD (i := 0) (d := some 47) (v := ?_) rfl rfl (by kernel_rfl) (by kernel_rfl) (by kernel_rfl) (fun _ _ _ h => h) (Or.inl ⟨by rfl, ?_⟩) hA0.out ?_; rotate_left 1; (· intro w' hS'; clear hS'; go_simp; try with_reducible rfl))
  try simp only [Act.put, List.setIfInBounds_toArray, List.set_cons_zero, List.set_cons_succ]
  (refine wpHd_takeD (i := 1) (d := some 48) (v := ?_) rfl rfl (by kernel_rfl) (by kernel_rfl) (by kernel_rfl) (fun _ _ _ h => h) (Or.inl ⟨by rfl, ?_⟩) hA0.out ?_; rotate_left 1; (· intro w' hS'; clear hS'; go_simp; try with_reducible rfl))
  try simp only [Act.put, List.setIfInBounds_toArray, List.set_cons_zero, List.set_cons_succ]
  (refine wpHd_takeD (i := 4) (d := some 51) (v := ?_) rfl rfl (by kernel_rfl) (by kernel_rfl) (by kernel_rfl) (fun _ _ _ h => h) (Or.inl ⟨by rfl, ?_⟩) hA0.out ?_; rotate_left 1; (· intro w' hS'; clear hS'; go_simp; try with_reducible rfl))
  try simp only [Act.put, List.setIfInBounds_toArray, List.set_cons_zero, List.set_cons_succ]
  (refine wpHd_takeD (i := 5) (d := some 52) (v := ?_) rfl rfl (by kernel_rfl) (by kernel_rfl) (by kernel_rfl) (fun _ _ _ h => h) (Or.inl ⟨by rfl, ?_⟩) hA0.out ?_; rotate_left 1; (· intro w' hS'; clear hS'; go_simp; try with_reducible rfl))
  try simp only [Act.put, List.setIfInBounds_toArray, List.set_cons_zero, List.set_cons_succ]
  refine wpHd_one (i := 2) rfl rfl (by kernel_rfl) (fun KK hK => ?_)
  go_simp
  refine (HPB.out _).mono ?_
  rintro e w8 ⟨v8, rfl, ho8, hb8⟩
  have HO8 := Hid.mk' ho8
  have HE8 : Hid (Ext w7 w8) := Hid.mk' ((Ext.refl w7).drew.trans hb8)
  refine hK.out _ _ HE8.out (fun hA => ?_)
  clear hK KK hA hA0 ho8 hb8
  have hA1 : Hid ((fun w' => Ext w7 w' ∧ (convert 40 9 v8).run Tryz.prog w' = .ok (.string SB) w') w8) := Hid.mk' ⟨HE8.out, by rw [HSB.out]; exact conv_Sl HO8.out.sl⟩
  refine wpHd_str (S' := (fun w' => Ext w7 w' ∧ (convert 40 9 v8).run Tryz.prog w' = .ok (.string SB) w')) (fun w' h => h.1) _ _ _ _ ?_
  (refine wpHd_takeD (i := 3) (d := some 50) (v := ?_) rfl rfl (by kernel_rfl) (by kernel_rfl) (by kernel_rfl) (fun _ _ _ h => h) (Or.inl ⟨by rfl, ?_⟩) hA1.out ?_; rotate_left 1; (· intro w' hS'; have hc' := hS'.2; go_simp; try with_reducible rfl))
  try simp only [Act.put, List.setIfInBounds_toArray, List.set_cons_zero, List.set_cons_succ]
  refine wpHd_one (i := 6) rfl rfl (by kernel_rfl) (fun KK hK => ?_)
  go_simp
  refine (HRB.out _).mono ?_
  rintro e w9 ⟨v9, rfl, ho9, hb9⟩
  have HO9 := Hid.mk' ho9
  have HE9 : Hid (Ext w8 w9) := Hid.mk' hb9
  have hB9 : Hid ((fun w' => Ext w7 w' ∧ (convert 40 9 v8).run Tryz.prog w' = .ok (.string SB) w') w9) := Hid.mk' ⟨HE8.out.trans HE9.out, by rw [HSB.out]; exact conv_Sl (HO8.out.sl.ext HE9.out)⟩
  refine hK.out _ _ hB9.out (fun hA => ?_)
  clear hK KK hA hA1 ho9 hb9
  have hA2 : Hid ((fun w' => (Ext w7 w' ∧ (convert 40 9 v8).run Tryz.prog w' = .ok (.string SB) w') ∧ (convert 40 9 v9).run Tryz.prog w' = .ok (.string SB) w') w9) := Hid.mk' ⟨hB9.out, by rw [HSB.out]; exact conv_Sl HO9.out.sl⟩
  clear hB9
  refine wpHd_str (S' := (fun w' => (Ext w7 w' ∧ (convert 40 9 v8).run Tryz.prog w' = .ok (.string SB) w') ∧ (convert 40 9 v9).run Tryz.prog w' = .ok (.string SB) w')) (fun w' h => h.1) _ _ _ _ ?_
  (refine wpHd_takeD (i := 7) (d := some 54) (v := ?_) rfl rfl (by kernel_rfl) (by kernel_rfl) (by kernel_rfl) (fun _ _ _ h => h) (Or.inl ⟨by rfl, ?_⟩) hA2.out ?_; rotate_left 1; (· intro w' hS'; have hc' := hS'.2; go_simp; try with_reducible rfl))
  try simp only [Act.put, List.setIfInBounds_toArray, List.set_cons_zero, List.set_cons_succ]
  (refine wpHd_takeD (i := 8) (d := some 55) (v := ?_) rfl rfl (by kernel_rfl) (by kernel_rfl) (by kernel_rfl) (fun _ _ _ h => h) (Or.inl ⟨by rfl, ?_⟩) hA2.out ?_; rotate_left 1; (· intro w' hS'; clear hS'; go_simp; try with_reducible rfl))
  try simp only [Act.put, List.setIfInBounds_toArray, List.set_cons_zero, List.set_cons_succ]
  (refine wpHd_takeD (i := 9) (d := some 56) (v := ?_) rfl rfl (by kernel_rfl) (by kernel_rfl) (by kernel_rfl) (fun _ _ _ h => h) (Or.inl ⟨by rfl, ?_⟩) hA2.out ?_; rotate_left 1; (· intro w' hS'; clear hS'; go_simp; try with_reducible rfl))
  try simp only [Act.put, List.setIfInBounds_toArray, List.set_cons_zero, List.set_cons_succ]
  (refine wpHd_takeD (i := 10) (d := some 57) (v := ?_) rfl rfl (by kernel_rfl) (by kernel_rfl) (by kernel_rfl) (fun _ _ _ h => h) (Or.inl ⟨by rfl, ?_⟩) hA2.out ?_; rotate_left 1; (· intro w' hS'; clear hS'; go_simp; try with_reducible rfl))
  try simp only [Act.put, List.setIfInBounds_toArray, List.set_cons_zero, List.set_cons_succ]
  (refine wpHd_takeD (i := 11) (d := some 58) (v := ?_) rfl rfl (by kernel_rfl) (by kernel_rfl) (by kernel_rfl) (fun _ _ _ h => h) (Or.inl ⟨by rfl, ?_⟩) hA2.out ?_; rotate_left 1; (· intro w' hS'; clear hS'; go_simp; try with_reducible rfl))
  try simp only [Act.put, List.setIfInBounds_toArray, List.set_cons_zero, List.set_cons_succ]
  (refine wpHd_takeD (i := 12) (d := some 59) (v := ?_) rfl rfl (by kernel_rfl) (by kernel_rfl) (by kernel_rfl) (fun _ _ _ h => h) (Or.inl ⟨by rfl, ?_⟩) hA2.out ?_; rotate_left 1; (· intro w' hS'; clear hS'; go_simp; try with_reducible rfl))
  try simp only [Act.put, List.setIfInBounds_toArray, List.set_cons_zero, List.set_cons_succ]
  (refine wpHd_takeD (i := 15) (d := some 62) (v := ?_) rfl rfl (by kernel_rfl) (by kernel_rfl) (by kernel_rfl) (fun _ _ _ h => h) (Or.inl ⟨by rfl, ?_⟩) hA2.out ?_; rotate_left 1; (· intro w' hS'; clear hS'; go_simp; try with_reducible rfl))
  try simp only [Act.put, List.setIfInBounds_toArray, List.set_cons_zero, List.set_cons_succ]
  (refine wpHd_takeD (i := 16) (d := some 63) (v := ?_) rfl rfl (by kernel_rfl) (by kernel_rfl) (by kernel_rfl) (fun _ _ _ h => h) (Or.inl ⟨by rfl, ?_⟩) hA2.out ?_; rotate_left 1; (· intro w' hS'; clear hS'; go_simp; try with_reducible rfl))
  try simp only [Act.put, List.setIfInBounds_toArray, List.set_cons_zero, List.set_cons_succ]
  (refine wpHd_takeD (i := 17) (d := some 64) (v := ?_) rfl rfl (by kernel_rfl) (by kernel_rfl) (by kernel_rfl) (fun _ _ _ h => h) (Or.inl ⟨by rfl, ?_⟩) hA2.out ?_; rotate_left 1; (· intro w' hS'; clear hS'; go_simp; try with_reducible rfl))
  try simp only [Act.put, List.setIfInBounds_toArray, List.set_cons_zero, List.set_cons_succ]
  refine wpHd_oneG (i := 13) rfl (by rfl) (by kernel_rfl) (fun KK hK => ?_)
  go_simp
  try rw [← HNW.out]
  try rw [← HNV.out]
  refine (HPC.out NY HNB.out _).mono ?_
  rintro e w10 ⟨v10, rfl, ho10, hb10⟩
  have HO10 := Hid.mk' ho10
  have HE10 : Hid (Ext w9 w10) := Hid.mk' hb10
  have hB10 : Hid ((fun w' => (Ext w7 w' ∧ (convert 40 9 v8).run Tryz.prog w' = .ok (.string SB) w') ∧ (convert 40 9 v9).run Tryz.prog w' = .ok (.string SB) w') w10) := Hid.mk' ⟨⟨HE8.out.trans (HE9.out.trans HE10.out), by rw [HSB.out]; exact conv_Sl (HO8.out.sl.ext (HE9.out.trans HE10.out))⟩, by rw [HSB.out]; exact conv_Sl (HO9.out.sl.ext HE10.out)⟩
  refine hK.out _ _ hB10.out (fun hA => ?_)
  clear hK KK hA hA2 ho10 hb10
  have hA3 : Hid ((fun w' => ((Ext w7 w' ∧ (convert 40 9 v8).run Tryz.prog w' = .ok (.string SB) w') ∧ (convert 40 9 v9).run Tryz.prog w' = .ok (.string SB) w') ∧ (convert 40 9 v10).run Tryz.prog w' = .ok (.string SC) w') w10) := Hid.mk' ⟨hB10.out, by rw [HSC.out]; exact conv_Sl HO10.out.sl⟩
  clear hB10
  refine wpHd_str (S' := (fun w' => ((Ext w7 w' ∧ (convert 40 9 v8).run Tryz.prog w' = .ok (.string SB) w') ∧ (convert 40 9 v9).run Tryz.prog w' = .ok (.string SB) w') ∧ (convert 40 9 v10).run Tryz.prog w' = .ok (.string SC) w')) (fun w' h => h.1) _ _ _ _ ?_
  (refine wpHd_takeD (i := 14) (d := some 61) (v := ?_) rfl rfl (by kernel_rfl) (by kernel_rfl) (by kernel_rfl) (fun _ _ _ h => h) (Or.inl ⟨by rfl, ?_⟩) hA3.out ?_; rotate_left 1; (· intro w' hS'; have hc' := hS'.2; go_simp; try with_reducible rfl))
  try simp only [Act.put, List.setIfInBounds_toArray, List.set_cons_zero, List.set_cons_succ]
  refine wpHd_oneG (i := 18) rfl (by rfl) (by kernel_rfl) (fun KK hK => ?_)
  go_simp
  try rw [← HNW.out]
  try rw [← HNV.out]
  refine (HRC.out NY HNB.out _).mono ?_
  rintro e w11 ⟨v11, rfl, ho11, hb11⟩
  have HO11 := Hid.mk' ho11
  have HE11 : Hid (Ext w10 w11) := Hid.mk' hb11
  have hB11 : Hid ((fun w' => ((Ext w7 w' ∧ (convert 40 9 v8).run Tryz.prog w' = .ok (.string SB) w') ∧ (convert 40 9 v9).run Tryz.prog w' = .ok (.string SB) w') ∧ (convert 40 9 v10).run Tryz.prog w' = .ok (.string SC) w') w11) := Hid.mk' ⟨⟨⟨HE8.out.trans (HE9.out.trans (HE10.out.trans HE11.out)), by rw [HSB.out]; exact conv_Sl (HO8.out.sl.ext (HE9.out.trans (HE10.out.trans HE11.out)))⟩, by rw [HSB.out]; exact conv_Sl (HO9.out.sl.ext (HE10.out.trans HE11.out))⟩, by rw [HSC.out]; exact conv_Sl (HO10.out.sl.ext HE11.out)⟩
  refine hK.out _ _ hB11.out (fun hA => ?_)
  clear hK KK hA hA3 ho11 hb11
  have hA4 : Hid ((fun w' => (((Ext w7 w' ∧ (convert 40 9 v8).run Tryz.prog w' = .ok (.string SB) w') ∧ (convert 40 9 v9).run Tryz.prog w' = .ok (.string SB) w') ∧ (convert 40 9 v10).run Tryz.prog w' = .ok (.string SC) w') ∧ (convert 40 9 v11).run Tryz.prog w' = .ok (.string SC) w') w11) := Hid.mk' ⟨hB11.out, by rw [HSC.out]; exact conv_Sl HO11.out.sl⟩
  clear hB11
  refine wpHd_str (S' := (fun w' => (((Ext w7 w' ∧ (convert 40 9 v8).run Tryz.prog w' = .ok (.string SB) w') ∧ (convert 40 9 v9).run Tryz.prog w' = .ok (.string SB) w') ∧ (convert 40 9 v10).run Tryz.prog w' = .ok (.string SC) w') ∧ (convert 40 9 v11).run Tryz.prog w' = .ok (.string SC) w')) (fun w' h => h.1) _ _ _ _ ?_
  (refine wpHd_takeD (i := 19) (d := some 66) (v := ?_) rfl rfl (by kernel_rfl) (by kernel_rfl) (by kernel_rfl) (fun _ _ _ h => h) (Or.inl ⟨by rfl, ?_⟩) hA4.out ?_; rotate_left 1; (· intro w' hS'; have hc' := hS'.2; go_simp; try with_reducible rfl))
  try simp only [Act.put, List.setIfInBounds_toArray, List.set_cons_zero, List.set_cons_succ]
  (refine wpHd_takeD (i := 20) (d := some 67) (v := ?_) rfl rfl (by kernel_rfl) (by kernel_rfl) (by kernel_rfl) (fun _ _ _ h => h) (Or.inl ⟨by rfl, ?_⟩) hA4.out ?_; rotate_left 1; (· intro w' hS'; clear hS'; go_simp; try with_reducible rfl))
  try simp only [Act.put, List.setIfInBounds_toArray, List.set_cons_zero, List.set_cons_succ]
  (refine wpHd_takeD (i := 21) (d := some 68) (v := ?_) rfl rfl (by kernel_rfl) (by kernel_rfl) (by kernel_rfl) (fun _ _ _ h => h) (Or.inl ⟨by rfl, ?_⟩) hA4.out ?_; rotate_left 1; (· intro w' hS'; clear hS'; go_simp; try with_reducible rfl))
  try simp only [Act.put, List.setIfInBounds_toArray, List.set_cons_zero, List.set_cons_succ]
  refine wpHd_tail (by kernel_rfl) ?_
  simp only [List.drop_succ_cons, List.drop_zero]
  have HEZ := Hid.mk' (HE7.out.trans (HE8.out.trans (HE9.out.trans (HE10.out.trans HE11.out))))
  clear hA4 HO8 HO9 HO10 HO11 HE8 HE9 HE10 HE11 HPB HRB HPC HRC
  go_wp2_with (go_at_call 16; refine (HAW.out _).mono ?_; rintro e wk ⟨rfl, hbk⟩)
  go_ret
  exact ⟨rfl, HEZ.out.trans hbk⟩

end Go.Proofs.YtibgippchdmdlaaGreat

/-
The laws' Own of a relation.
-/
namespace Go.Proofs.YtibgippchdmdlaaGreat
open Go.RowKit

theorem Blk.grown {w w1 : World} {row : Option Nat} {g : Nat} {cs : Array Value} {t : TypeId} (h : Blk w g cs t) (hg : w.grownBy w1 row) (hne : row ≠ some g) : Blk w1 g cs t :=
  (hg.block g h.lt (fun e => hne e.symm)).trans h
theorem owns_set {w : World} {base : Nat} {e : TypeId} {size n : Nat} {v : Value} {xs : List Value} (h : w.ownsRow base e size v n xs) {p : Addr} (hp : p.block < base) (u : Value) : (w.setCell p u).ownsRow base e size v n xs := by
  obtain ⟨h1, h2⟩ := h
  refine ⟨h1, ?_⟩
  rcases h2 with h2 | ⟨g, cap, cur, hv, hg, hh, hr⟩
  · exact .inl h2
  · exact .inr ⟨g, cap, cur, hv, hg, Blk.other (b := g) hh p u (by omega), hr⟩
theorem owns_ne {w : World} {base g : Nat} {e : TypeId} {size n : Nat} {v : Value} {xs : List Value} (h : w.ownsRow base e size v n xs) (hg : g < base) : v.ownBlock ≠ some g := fun he => by
  have := (h.lt _ he).1; omega

theorem Tryz.infoCol : (Tryz.prog.info? 130).map (fun i => (i.zero, i.size, i.bytes)) = some (some (.agg #[.string ByteArray.empty, .int .u8 0, .bool false]), 3, 24) := by kernel_rfl

theorem flat_snoc {α β : Type} {f : α → List β} {l : List α} {k : Nat} (h : k < l.length) : ((l.map f).take (k + 1)).flatten = ((l.map f).take k).flatten ++ f l[k] := by
  rw [List.take_succ_eq_append_getElem (by simpa using h), List.flatten_append]; simp
theorem owns_cap {w : World} {base : Nat} {e : TypeId} {size n m c : Nat} {a : Option Addr} {xs : List Value} (h : w.ownsRow base e size (.slice a m c) n xs) : m ≤ c := by
  rcases h.2 with ⟨h1, h0⟩ | ⟨g, cap, cur, hv, _, _, hn, _⟩
  · simp at h1; omega
  · simp at hv; omega
theorem owns_shape {w : World} {base : Nat} {e : TypeId} {size n : Nat} {v : Value} {xs : List Value} (h : w.ownsRow base e size v n xs) : ∃ a cap, v = .slice a n cap := by
  rcases h.2 with ⟨rfl, h0⟩ | ⟨g, cap, cur, hv, _⟩
  · exact ⟨none, 0, by rw [h0]⟩
  · exact ⟨_, cap, hv⟩

set_option maxRecDepth 100000 in set_option maxHeartbeats 1600000 in
theorem own8_any (oid ver : Int) (nm : ByteArray) (id : Int) (cols : List Col) (a : Option Addr) (cap : Nat) (w : World) (hl : Sl w (.slice a cols.length cap) 3 (cols.map Col.cells)) (hlen : cols.length ≤ 1000) :
    Calls Tryz.prog 88 #[.agg #[.int .u32 oid, .int .u32 ver, .string nm, .int .u8 id, .slice a cols.length cap]] w fun e w' => ∃ a' cap', e = .returned (.agg #[.int .u32 oid, .int .u32 ver, .string nm, .int .u8 id, .slice a' cols.length cap']) ∧ cols.length ≤ cap' ∧ Sl w' (.slice a' cols.length cap') 3 (cols.map Col.cells) ∧ Ext w w' := by
  have HL := Hid.mk' hl
  clear hl
  obtain ⟨i0, hi, hz0, hz1, hz2⟩ := info_parts Tryz.infoCol
  go_enter Tryz.func88, Tryz.ntmps88
  go_wp2
  go_loopw [4] (fun i wr => ∃ (k : Nat) (v : Value), k ≤ cols.length ∧ i = .int .i64 k ∧ Hid (wr.ownsRow (w.heap.size + 3) 130 3 v k ((cols.map Col.cells).take k).flatten) ∧ Blk wr w.heap.size #[.int .u32 oid, .int .u32 ver, .string nm, .int .u8 id, .slice a cols.length cap] 101 ∧ Blk wr (w.heap.size + 1) #[.int .u32 0, .int .u32 0, .string ⟨#[]⟩, .int .u8 0, .slice none 0 0] 112 ∧ Blk wr (w.heap.size + 1 + 1) #[.int .u32 oid, .int .u32 ver, .string nm, .int .u8 id, v] 112 ∧ Hid (Ext w wr)) (fun i _ => cols.length - (intOf i).toNat)
  case atStart => exact ⟨0, .slice none 0 0, Nat.zero_le _, rfl, World.ownsRow_nil _ _ _ _, ((Blk.new _ _ _).alloc _).alloc _, (Blk.new' _ _ (by simp)).alloc _, Blk.new' _ _ (by simp), Hid.mk' (by (repeat (with_reducible (first | exact Ext.refl _ | assumption | exact held_left (by assumption) | apply Ext.drewN | apply Ext.drew | apply Ext.alloc | (refine Ext.setCell ?_ (by first | (simp; done) | (simp; omega) | omega) _) | (refine Ext.trans ?_ (by assumption)) | (refine Ext.trans ?_ (held_left (by assumption)))))))⟩
  case round =>
    obtain ⟨k, v, hk, rfl, hown, hB0, hB1, hB2, hE⟩ := hrel
    by_cases hlt : k < cols.length
    · obtain ⟨b, o, rfl, hb, hc⟩ := HL.out.at_ (i := k) (by simpa using hlt)
      obtain ⟨f0, f1, f2⟩ := Col.at_ hlt hc hb hE.out
      have hT := Hid.mk' (flat_snoc (f := Col.cells) hlt)
      obtain ⟨c, hcc⟩ : ∃ c, c = cols[k] := ⟨_, rfl⟩
      rw [← hcc] at f0 f1 f2 hT
      have hbw : b < wr.heap.size := Nat.lt_of_lt_of_le hb hE.out.size
      have HC := Hid.mk' hcc
      clear hcc hc
      have g0 := hB0.cell
      have g2 := hB2.cell
      have z0 := hB0.lt
      have z1 := hB1.lt
      have z2 := hB2.lt
      have HB0 := Hid.mk' hB0
      have HB1 := Hid.mk' hB1
      have HB2 := Hid.mk' hB2
      clear hB0 hB1 hB2
      go_wp2
      refine wp_region_head 22 (fun w' => Ext (wr) w' ∧ (∀ b o, b < (wr).heap.size → w'.cell? ⟨b, o, none⟩ = (wr).cell? ⟨b, o, none⟩) ∧ (∀ b o, b < (wr).heap.size → w'.frozen? ⟨b, o, none⟩ = (wr).frozen? ⟨b, o, none⟩)) (by kernel_rfl) (by decide) ?_
      have hA0 : Hid ((fun w' => Ext (wr) w' ∧ (∀ b o, b < (wr).heap.size → w'.cell? ⟨b, o, none⟩ = (wr).cell? ⟨b, o, none⟩) ∧ (∀ b o, b < (wr).heap.size → w'.frozen? ⟨b, o, none⟩ = (wr).frozen? ⟨b, o, none⟩)) wr.drew) := held_of (by (repeat (with_reducible (first | exact Ext.refl _ | assumption | exact held_left (by assumption) | apply Ext.drewN | apply Ext.drew | apply Ext.alloc | (refine Ext.setCell ?_ (by first | (simp; done) | (simp; omega) | omega) _) | (refine Ext.trans ?_ (by assumption)) | (refine Ext.trans ?_ (held_left (by assumption)))))))
      (refine wpHd_take (i := 0) (v := ?_) rfl (by kernel_rfl) (by kernel_rfl) (by kernel_rfl) (fun _ _ _ h => h) (Or.inl ⟨by rfl, ?_⟩) hA0.out ?_; rotate_left 1; · (intro w' hS'; (obtain ⟨hEs', hcs', hfs'⟩ := hS'); go_simp; try with_reducible rfl))
      (refine wpHd_take (i := 1) (v := ?_) rfl (by kernel_rfl) (by kernel_rfl) (by kernel_rfl) (fun _ _ _ h => h) (Or.inl ⟨by rfl, ?_⟩) hA0.out ?_; rotate_left 1; · (intro w' hS'; (obtain ⟨hEs', hcs', hfs'⟩ := hS'); go_simp; try with_reducible rfl))
      (refine wpHd_take (i := 2) (v := ?_) rfl (by kernel_rfl) (by kernel_rfl) (by kernel_rfl) (fun _ _ _ h => h) (Or.inl ⟨by rfl, ?_⟩) hA0.out ?_; rotate_left 1; · (intro w' hS'; (obtain ⟨hEs', hcs', hfs'⟩ := hS'); go_simp; try with_reducible rfl))
      (refine wpHd_take (i := 3) (v := ?_) rfl (by kernel_rfl) (by kernel_rfl) (by kernel_rfl) (fun _ _ _ h => h) (Or.inl ⟨by rfl, ?_⟩) hA0.out ?_; rotate_left 1; · (intro w' hS'; (obtain ⟨hEs', hcs', hfs'⟩ := hS'); go_simp; try with_reducible rfl))
      (refine wpHd_take (i := 4) (v := ?_) rfl (by kernel_rfl) (by kernel_rfl) (by kernel_rfl) (fun _ _ _ h => h) (Or.inl ⟨by rfl, ?_⟩) hA0.out ?_; rotate_left 1; · (intro w' hS'; (obtain ⟨hEs', hcs', hfs'⟩ := hS'); go_simp; try with_reducible rfl))
      (refine wpHd_take (i := 5) (v := ?_) rfl (by kernel_rfl) (by kernel_rfl) (by kernel_rfl) (fun _ _ _ h => h) (Or.inl ⟨by rfl, ?_⟩) hA0.out ?_; rotate_left 1; · (intro w' hS'; (obtain ⟨hEs', hcs', hfs'⟩ := hS'); go_simp; try with_reducible rfl))
      (refine wpHd_take (i := 6) (v := ?_) rfl (by kernel_rfl) (by kernel_rfl) (by kernel_rfl) (fun _ _ _ h => h) (Or.inl ⟨by rfl, ?_⟩) hA0.out ?_; rotate_left 1; · (intro w' hS'; (obtain ⟨hEs', hcs', hfs'⟩ := hS'); go_simp; try with_reducible rfl))
      (refine wpHd_take (i := 7) (v := ?_) rfl (by kernel_rfl) (by kernel_rfl) (by kernel_rfl) (fun _ _ _ h => h) (Or.inl ⟨by rfl, ?_⟩) hA0.out ?_; rotate_left 1; · (intro w' hS'; (obtain ⟨hEs', hcs', hfs'⟩ := hS'); go_simp; try with_reducible rfl))
      (refine wpHd_take (i := 8) (v := ?_) rfl (by kernel_rfl) (by kernel_rfl) (by kernel_rfl) (fun _ _ _ h => h) (Or.inl ⟨by rfl, ?_⟩) hA0.out ?_; rotate_left 1; · (intro w' hS'; (obtain ⟨hEs', hcs', hfs'⟩ := hS'); go_simp; try with_reducible rfl))
      (refine wpHd_take (i := 9) (v := ?_) rfl (by kernel_rfl) (by kernel_rfl) (by kernel_rfl) (fun _ _ _ h => h) (Or.inl ⟨by rfl, ?_⟩) hA0.out ?_; rotate_left 1; · (intro w' hS'; (obtain ⟨hEs', hcs', hfs'⟩ := hS'); go_simp; try with_reducible rfl))
      (refine wpHd_take (i := 10) (v := ?_) rfl (by kernel_rfl) (by kernel_rfl) (by kernel_rfl) (fun _ _ _ h => h) (Or.inl ⟨by rfl, ?_⟩) hA0.out ?_; rotate_left 1; · (intro w' hS'; (obtain ⟨hEs', hcs', hfs'⟩ := hS'); go_simp; try with_reducible rfl))
      (refine wpHd_take (i := 11) (v := ?_) rfl (by kernel_rfl) (by kernel_rfl) (by kernel_rfl) (fun _ _ _ h => h) (Or.inl ⟨by rfl, ?_⟩) hA0.out ?_; rotate_left 1; · (intro w' hS'; (obtain ⟨hEs', hcs', hfs'⟩ := hS'); go_simp; try with_reducible rfl))
      (refine wpHd_take (i := 12) (v := ?_) rfl (by kernel_rfl) (by kernel_rfl) (by kernel_rfl) (fun _ _ _ h => h) (Or.inl ⟨by rfl, ?_⟩) hA0.out ?_; rotate_left 1; · (intro w' hS'; (obtain ⟨hEs', hcs', hfs'⟩ := hS'); go_simp; try with_reducible rfl))
      (refine wpHd_take (i := 13) (v := ?_) rfl (by kernel_rfl) (by kernel_rfl) (by kernel_rfl) (fun _ _ _ h => h) (Or.inl ⟨by rfl, ?_⟩) hA0.out ?_; rotate_left 1; · (intro w' hS'; (obtain ⟨hEs', hcs', hfs'⟩ := hS'); go_simp; try with_reducible rfl))
      (refine wpHd_take (i := 14) (v := ?_) rfl (by kernel_rfl) (by kernel_rfl) (by kernel_rfl) (fun _ _ _ h => h) (Or.inl ⟨by rfl, ?_⟩) hA0.out ?_; rotate_left 1; · (intro w' hS'; (obtain ⟨hEs', hcs', hfs'⟩ := hS'); go_simp; try with_reducible rfl))
      (refine wpHd_take (i := 15) (v := ?_) rfl (by kernel_rfl) (by kernel_rfl) (by kernel_rfl) (fun _ _ _ h => h) (Or.inl ⟨by rfl, ?_⟩) hA0.out ?_; rotate_left 1; · (intro w' hS'; (obtain ⟨hEs', hcs', hfs'⟩ := hS'); go_simp; try with_reducible rfl))
      (refine wpHd_take (i := 16) (v := ?_) rfl (by kernel_rfl) (by kernel_rfl) (by kernel_rfl) (fun _ _ _ h => h) (Or.inl ⟨by rfl, ?_⟩) hA0.out ?_; rotate_left 1; · (intro w' hS'; (obtain ⟨hEs', hcs', hfs'⟩ := hS'); go_simp; try with_reducible rfl))
      (refine wpHd_take (i := 17) (v := ?_) rfl (by kernel_rfl) (by kernel_rfl) (by kernel_rfl) (fun _ _ _ h => h) (Or.inl ⟨by rfl, ?_⟩) hA0.out ?_; rotate_left 1; · (intro w' hS'; (obtain ⟨hEs', hcs', hfs'⟩ := hS'); go_simp; try with_reducible rfl))
      (refine wpHd_take (i := 18) (v := ?_) rfl (by kernel_rfl) (by kernel_rfl) (by kernel_rfl) (fun _ _ _ h => h) (Or.inl ⟨by rfl, ?_⟩) hA0.out ?_; rotate_left 1; · (intro w' hS'; (obtain ⟨hEs', hcs', hfs'⟩ := hS'); go_simp; try with_reducible rfl))
      (refine wpHd_take (i := 19) (v := ?_) rfl (by kernel_rfl) (by kernel_rfl) (by kernel_rfl) (fun _ _ _ h => h) (Or.inl ⟨by rfl, ?_⟩) hA0.out ?_; rotate_left 1; · (intro w' hS'; (obtain ⟨hEs', hcs', hfs'⟩ := hS'); go_simp; try with_reducible rfl))
      (refine wpHd_take (i := 20) (v := ?_) rfl (by kernel_rfl) (by kernel_rfl) (by kernel_rfl) (fun _ _ _ h => h) (Or.inl ⟨by rfl, ?_⟩) hA0.out ?_; rotate_left 1; · (intro w' hS'; (obtain ⟨hEs', hcs', hfs'⟩ := hS'); go_simp; try with_reducible rfl))
      refine wpHd_one (i := 21) rfl rfl (by kernel_rfl) (fun K hK => ?_)
      go_simp
      refine hK.out _ _ (held_of (by (repeat (with_reducible (first | exact Ext.refl _ | assumption | exact held_left (by assumption) | apply Ext.drewN | apply Ext.drew | apply Ext.alloc | (refine Ext.setCell ?_ (by first | (simp; done) | (simp; omega) | omega) _) | (refine Ext.trans ?_ (by assumption)) | (refine Ext.trans ?_ (held_left (by assumption)))))))) (fun hA => ?_)
      clear hK K hA hA0
      refine wpHd_tail (by kernel_rfl) ?_
      simp only [List.drop_succ_cons, List.drop_zero]
      have hob := owns_ne hown.out (show w.heap.size + 1 + 1 < w.heap.size + 3 by omega)
      go_wp2_with (at_builtin; refine wpList_append_lies _ rfl _ _ 110 rfl (w.heap.size + 3) 130 i0 _ 3 24 Tryz.underlying110 hi hz0 hz1 hz2 rfl (by decide) _ _ _ rfl (owns_ext hown.out (by (repeat (with_reducible (first | exact Ext.refl _ | assumption | exact held_left (by assumption) | apply Ext.drewN | apply Ext.drew | apply Ext.alloc | (refine Ext.setCell ?_ (by first | (simp; done) | (simp; omega) | omega) _) | (refine Ext.trans ?_ (by assumption)) | (refine Ext.trans ?_ (held_left (by assumption)))))))) ⟨_, 0, none⟩ 1 1 c.cells rfl rfl ?c1 ?c2 (by decide) ?c3 ?c4 ?c5 _ rfl ?_)
      case c1 => exact cells_new _ #[.string c.nm, .int .u8 c.ty, .bool c.key] _
      case c2 => intro u hu; simp [Col.cells] at hu; rcases hu with rfl | rfl | rfl <;> rfl
      case c3 => unfold maxLen; omega
      case c4 => omega
      case c5 => simp; omega
      intro g' cap' w2 hown' hgrow _ _
      have hE1 : Ext wr (wr.drew.alloc (.cells #[.string c.nm, .int .u8 c.ty, .bool c.key] 130)) := by (repeat (with_reducible (first | exact Ext.refl _ | assumption | exact held_left (by assumption) | apply Ext.drewN | apply Ext.drew | apply Ext.alloc | (refine Ext.setCell ?_ (by first | (simp; done) | (simp; omega) | omega) _) | (refine Ext.trans ?_ (by assumption)) | (refine Ext.trans ?_ (held_left (by assumption))))))
      have HE2 : Hid (Ext w w2) := Hid.mk' (Below.grown (hE.out.trans hE1) hgrow (hE.out.trans hE1).size (fun g hg => by have := (hown.out.lt g hg).1; omega))
      have hsz2 := hgrow.size
      have HB0' := Hid.mk' ((HB0.out.ext hE1).grown hgrow (owns_ne hown.out (by omega)))
      have HB1' := Hid.mk' ((HB1.out.ext hE1).grown hgrow (owns_ne hown.out (by omega)))
      have hB2' := (HB2.out.ext hE1).grown hgrow hob
      have g2' := hB2'.cell
      have g2f := hB2'.frozen
      have z2' := hB2'.lt
      have HB2' := Hid.mk' hB2'
      have HO := Hid.mk' hown'
      clear hB2' hown' hgrow hE1 hob
      go_wp2
      go_roundw
      case rel => exact ⟨k + 1, _, by omega, by go_num, Hid.mk' (by rw [hT.out]; exact owns_set (p := ⟨w.heap.size + 1 + 1, 4, none⟩) HO.out (by show w.heap.size + 1 + 1 < _; omega) _), HB0'.out.other _ _ (by show w.heap.size ≠ w.heap.size + 1 + 1; omega), HB1'.out.other _ _ (by show w.heap.size + 1 ≠ w.heap.size + 1 + 1; omega), HB2'.out.set 4 _, Hid.mk' (HE2.out.setCell (by simp; omega) _)⟩
      case measure => simp [intOf]; omega
    · have hkk : k = cols.length := by omega
      subst hkk
      rw [show cols.length = (cols.map Col.cells).length by simp, List.take_length] at hown
      rw [List.length_map] at hown
      obtain ⟨a', c', rfl⟩ := owns_shape hown.out
      have g0 := hB0.cell
      have z0 := hB0.lt
      have g1 := hB1.cell
      have g1f := hB1.frozen
      have g2 := hB2.cell
      have z1 := hB1.lt
      have z2 := hB2.lt
      clear hB0 hB1 hB2
      go_wp2
      simp [bodyPost, results, Tryz.results88, go_sem, *]
      refine ⟨_, _, ⟨rfl, rfl⟩, owns_cap hown.out, Sl.of_owns (base := w.heap.size + 3) (e := 130) ?_ ?_, ?_⟩
      · have e : (cols.map Col.cells).length = cols.length := by simp
        rw [e]
        have hown := hown.out
        repeat (with_reducible (first | exact hown | refine owns_set ?_ (by show w.heap.size + 1 < _; omega) _))
      · intro xs hxs; simp at hxs; obtain ⟨a, _, rfl⟩ := hxs; rfl
      · have hE := hE.out
        (repeat (with_reducible (first | exact Ext.refl _ | assumption | exact held_left (by assumption) | apply Ext.drewN | apply Ext.drew | apply Ext.alloc | (refine Ext.setCell ?_ (by first | (simp; done) | (simp; omega) | omega) _) | (refine Ext.trans ?_ (by assumption)) | (refine Ext.trans ?_ (held_left (by assumption))))))

end Go.Proofs.YtibgippchdmdlaaGreat

/-
A cell, in plain words: what is wrong with one.
-/
namespace Go.Proofs.YtibgippchdmdlaaGreat
open Go.RowKit

/-- What is wrong with a cell in a column. -/
def rightC (k ty n x y : Int) (s : ByteArray) (kind : Int) : Int :=
  if kind < 1 ∨ 6 < kind then 11 else if 2 < k then 7
  else if k < 2 then (if ty = 0 ∧ n = 0 ∧ x = 0 ∧ y = 0 ∧ s.size = 0 then (if k = 1 ∧ kind ≠ 5 ∧ kind ≠ 6 then 11 else 0) else 3)
  else if rightV ty n x y s ≠ 0 then rightV ty n x y s else if ty ≠ kind then 11 else 0
def largeB (k ty : Int) (s : ByteArray) : Bool := decide (k = 2 ∧ (ty = 5 ∨ ty = 6) ∧ 64 < s.size)
/-- A cell. -/
structure K where
  k : Int
  v : V
def K.zero : K := ⟨0, V.zero⟩
def K.right (c : K) (kind : Int) : Int := rightC c.k c.v.ty c.v.n c.v.x c.v.y c.v.s kind
theorem right_same {k ty n x y : Int} {s : ByteArray} {kind : Int} (hk : k < 2) (h : rightC k ty n x y s kind = 0) : ty = 0 ∧ n = 0 ∧ x = 0 ∧ y = 0 ∧ s.size = 0 ∧ (k = 1 → kind = 5 ∨ kind = 6) := by
  unfold rightC at h
  (repeat' split at h) <;> first | omega | (exfalso; omega)
theorem right_full {ty n x y : Int} {s : ByteArray} {kind : Int} (h : rightC 2 ty n x y s kind = 0) : rightV ty n x y s = 0 ∧ ty = kind := by
  unfold rightC at h
  (repeat' split at h) <;> first | omega | (exfalso; omega)
theorem right_mk {ty n x y : Int} {s : ByteArray} {kind : Int} (h : rightV ty n x y s = 0) (hk : ty = kind) : rightC 2 ty n x y s kind = 0 := by
  have := right_zero h
  unfold rightC
  (repeat' split) <;> first | rfl | omega | (exfalso; omega)

end Go.Proofs.YtibgippchdmdlaaGreat

/-
The program's cell: texty, typed, Alike, Right.
-/
namespace Go.Proofs.YtibgippchdmdlaaGreat
open Go.RowKit

set_option maxRecDepth 20000 in set_option maxHeartbeats 400000 in
theorem texty_yes (kind : Int) (w : World) (h : kind = 5 ∨ kind = 6) : Calls Tryz.prog 170 #[.int .u8 kind] w fun e w' => e = .returned (.bool true) ∧ w = w' := by
  rcases h with rfl | rfl
  all_goals
    go_enter Tryz.func170, Tryz.ntmps170
    go_wp2
    go_ret
    exact ⟨rfl, rfl⟩
set_option maxRecDepth 20000 in set_option maxHeartbeats 400000 in
theorem texty_no (kind : Int) (w : World) (h : kind ≠ 5 ∧ kind ≠ 6) : Calls Tryz.prog 170 #[.int .u8 kind] w fun e w' => e = .returned (.bool false) ∧ w = w' := by
  have h5 : (kind == 5) = false := by simpa using h.1
  have h6 : (kind == 6) = false := by simpa using h.2
  clear h
  go_enter Tryz.func170, Tryz.ntmps170
  go_wp2
  go_ret
  exact ⟨rfl, rfl⟩
set_option maxRecDepth 20000 in set_option maxHeartbeats 400000 in
theorem typed_yes (kind : Int) (w : World) (h1 : 1 ≤ kind) (h2 : kind ≤ 6) : Calls Tryz.prog 184 #[.int .u8 kind] w fun e w' => e = .returned (.bool true) ∧ w = w' := by
  go_enter Tryz.func184, Tryz.ntmps184
  go_wp2
  go_ret
  exact ⟨ret_bool (by first | (simp; done) | (simp; omega)), rfl⟩
set_option maxRecDepth 20000 in set_option maxHeartbeats 400000 in
theorem typed_no (kind : Int) (w : World) (h : kind < 1 ∨ 6 < kind) : Calls Tryz.prog 184 #[.int .u8 kind] w fun e w' => e = .returned (.bool false) ∧ w = w' := by
  go_enter Tryz.func184, Tryz.ntmps184
  go_wp2
  all_goals
    go_ret
    exact ⟨ret_bool (by first | (simp; done) | (simp; omega)), rfl⟩

/-- Are two cells alike? -/
def alikeB (k ty n : Int) (x y : Nat) (s : ByteArray) (k' ty' n' : Int) (x' y' : Nat) (s' : ByteArray) : Bool := decide (k = k' ∧ ty = ty' ∧ n = n' ∧ x = x' ∧ y = y' ∧ s = s')
theorem alike_same {k ty n : Int} {x y : Nat} {s : ByteArray} {ty' n' : Int} {x' y' : Nat} {s' : ByteArray} : alikeB k ty n x y s k ty' n' x' y' s' = sameB ty n x y s ty' n' x' y' s' := by
  unfold alikeB sameB; exact decide_eq_decide.2 ⟨fun h => h.2, fun h => ⟨rfl, h⟩⟩

set_option maxRecDepth 100000 in set_option maxHeartbeats 1600000 in
theorem calike_any (k ty n : Int) (x y : Nat) (s : ByteArray) (k' ty' n' : Int) (x' y' : Nat) (s' : ByteArray) (w : World) :
    Calls Tryz.prog 116 #[.agg #[.int .u8 k, .int .u8 ty, .int .i64 n, .complex .f64 x y, .string s], .agg #[.int .u8 k', .int .u8 ty', .int .i64 n', .complex .f64 x' y', .string s']] w fun e w' =>
      e = .returned (.bool (alikeB k ty n x y s k' ty' n' x' y' s')) ∧ Ext w w' := by
  by_cases hk : k = k'
  · subst hk
    have HS := Hid.mk' (fun w => vsame_any ty n x y s ty' n' x' y' s' w)
    go_enter Tryz.func116, Tryz.ntmps116
    go_wp2_with (go_at_call 156; refine (HS.out _).mono ?_; rintro e w1 ⟨rfl, hb1⟩)
    go_ret
    exact ⟨ret_bool (by rw [alike_same]), by (repeat (with_reducible (first | exact Ext.refl _ | assumption | exact held_left (by assumption) | apply Ext.drewN | apply Ext.drew | apply Ext.alloc | (refine Ext.setCell ?_ (by first | (simp; done) | (simp; omega) | omega) _) | (refine Ext.trans ?_ (by assumption)) | (refine Ext.trans ?_ (held_left (by assumption))))))⟩
  · have hL : Hid (alikeB k ty n x y s k' ty' n' x' y' s' = false) := Hid.mk' (by unfold alikeB; rw [decide_eq_false_iff_not]; exact fun h => hk h.1)
    have hk2 : (k == k') = false := by simpa using hk
    clear hk
    go_enter Tryz.func116, Tryz.ntmps116
    go_wp2
    go_ret
    exact ⟨ret_bool hL.out.symm, by (repeat (with_reducible (first | exact Ext.refl _ | assumption | exact held_left (by assumption) | apply Ext.drewN | apply Ext.drew | apply Ext.alloc | (refine Ext.setCell ?_ (by first | (simp; done) | (simp; omega) | omega) _) | (refine Ext.trans ?_ (by assumption)) | (refine Ext.trans ?_ (held_left (by assumption))))))⟩

theorem same_zero {ty n : Int} {x y : Nat} {s : ByteArray} : sameB ty n x y s 0 0 0 0 ByteArray.empty = decide (ty = 0 ∧ n = 0 ∧ (x : Int) = 0 ∧ (y : Int) = 0 ∧ s.size = 0) := by
  unfold sameB; exact decide_eq_decide.2 ⟨fun h => ⟨h.1, h.2.1, by omega, by omega, (size_zero s).1 h.2.2.2.2⟩, fun h => ⟨h.1, h.2.1, by omega, by omega, (size_zero s).2 h.2.2.2.2⟩⟩

set_option maxRecDepth 100000 in set_option maxHeartbeats 1600000 in
theorem cright_any (k ty n : Int) (x y : Nat) (s : ByteArray) (kind : Int) (w : World) (hk0 : 0 ≤ k) (hs : s.size ≤ 9223372036854775807) :
    Calls Tryz.prog 171 #[.agg #[.int .u8 k, .int .u8 ty, .int .i64 n, .complex .f64 x y, .string s], .int .u8 kind] w fun e w' => e = .returned (.int .i64 (rightC k ty n x y s kind)) ∧ Ext w w' := by
  have HV := Hid.mk' (fun w => vright_any ty n x y s w hs)
  have HSa := Hid.mk' (fun w => vsame_any ty n x y s 0 0 0 0 ByteArray.empty w)
  rw [same_zero] at HSa
  by_cases hkd : kind < 1 ∨ 6 < kind
  · have HR : Hid (rightC k ty n x y s kind = 11) := Hid.mk' (by unfold rightC; rw [if_pos hkd])
    have HT := Hid.mk' (fun w => typed_no kind w hkd)
    clear hkd
    go_enter Tryz.func171, Tryz.ntmps171
    go_wp2_with (go_at_call 184; refine (HT.out _).mono ?_; rintro e w1 ⟨rfl, rfl⟩)
    go_ret
    exact ⟨ret_int HR.out.symm, by (repeat (with_reducible (first | exact Ext.refl _ | assumption | exact held_left (by assumption) | apply Ext.drewN | apply Ext.drew | apply Ext.alloc | (refine Ext.setCell ?_ (by first | (simp; done) | (simp; omega) | omega) _) | (refine Ext.trans ?_ (by assumption)) | (refine Ext.trans ?_ (held_left (by assumption))))))⟩
  have HT := Hid.mk' (fun w => typed_yes kind w (by omega) (by omega))
  by_cases hk2 : 2 < k
  · have HR : Hid (rightC k ty n x y s kind = 7) := Hid.mk' (by unfold rightC; rw [if_neg hkd, if_pos hk2])
    clear hkd
    go_enter Tryz.func171, Tryz.ntmps171
    go_wp2_with (go_at_call 184; refine (HT.out _).mono ?_; rintro e w1 ⟨rfl, rfl⟩)
    go_ret
    exact ⟨ret_int HR.out.symm, by (repeat (with_reducible (first | exact Ext.refl _ | assumption | exact held_left (by assumption) | apply Ext.drewN | apply Ext.drew | apply Ext.alloc | (refine Ext.setCell ?_ (by first | (simp; done) | (simp; omega) | omega) _) | (refine Ext.trans ?_ (by assumption)) | (refine Ext.trans ?_ (held_left (by assumption))))))⟩
  by_cases hk3 : k < 2
  · by_cases hz : ty = 0 ∧ n = 0 ∧ (x : Int) = 0 ∧ (y : Int) = 0 ∧ s.size = 0
    · rw [decide_eq_true hz] at HSa
      by_cases h1 : k = 1
      · subst h1
        by_cases ht : kind = 5 ∨ kind = 6
        · have HR : Hid (rightC 1 ty n x y s kind = 0) := Hid.mk' (by unfold rightC; rw [if_neg hkd, if_neg hk2, if_pos hk3, if_pos hz, if_neg (by omega)])
          have HX := Hid.mk' (fun w => texty_yes kind w ht)
          clear hkd hz ht
          go_enter Tryz.func171, Tryz.ntmps171
          go_wp2_with (first
            | (go_at_call 184; refine (HT.out _).mono ?_; rintro e w1 ⟨rfl, rfl⟩)
            | (go_at_call 156; refine (HSa.out _).mono ?_; rintro e w1 ⟨rfl, hb1⟩; have h1 := (Blk.new w #[.int .u8 1, .int .u8 ty, .int .i64 n, .complex .f64 x y, .string s] 195).ext hb1; have k1 := h1.cell; have z1 := h1.lt)
            | (go_at_call 170; refine (HX.out _).mono ?_; rintro e w1 ⟨rfl, rfl⟩))
          go_ret
          exact ⟨ret_int HR.out.symm, by (repeat (with_reducible (first | exact Ext.refl _ | assumption | exact held_left (by assumption) | apply Ext.drewN | apply Ext.drew | apply Ext.alloc | (refine Ext.setCell ?_ (by first | (simp; done) | (simp; omega) | omega) _) | (refine Ext.trans ?_ (by assumption)) | (refine Ext.trans ?_ (held_left (by assumption))))))⟩
        · have HR : Hid (rightC 1 ty n x y s kind = 11) := Hid.mk' (by unfold rightC; rw [if_neg hkd, if_neg hk2, if_pos hk3, if_pos hz, if_pos (by omega)])
          have HX := Hid.mk' (fun w => texty_no kind w (by omega))
          clear hkd hz ht
          go_enter Tryz.func171, Tryz.ntmps171
          go_wp2_with (first
            | (go_at_call 184; refine (HT.out _).mono ?_; rintro e w1 ⟨rfl, rfl⟩)
            | (go_at_call 156; refine (HSa.out _).mono ?_; rintro e w1 ⟨rfl, hb1⟩; have h1 := (Blk.new w #[.int .u8 1, .int .u8 ty, .int .i64 n, .complex .f64 x y, .string s] 195).ext hb1; have k1 := h1.cell; have z1 := h1.lt)
            | (go_at_call 170; refine (HX.out _).mono ?_; rintro e w1 ⟨rfl, rfl⟩))
          go_ret
          exact ⟨ret_int HR.out.symm, by (repeat (with_reducible (first | exact Ext.refl _ | assumption | exact held_left (by assumption) | apply Ext.drewN | apply Ext.drew | apply Ext.alloc | (refine Ext.setCell ?_ (by first | (simp; done) | (simp; omega) | omega) _) | (refine Ext.trans ?_ (by assumption)) | (refine Ext.trans ?_ (held_left (by assumption))))))⟩
      · obtain rfl : k = 0 := by omega
        have HR : Hid (rightC 0 ty n x y s kind = 0) := Hid.mk' (by unfold rightC; rw [if_neg hkd, if_neg hk2, if_pos hk3, if_pos hz, if_neg (by omega)])
        clear hkd hz h1
        go_enter Tryz.func171, Tryz.ntmps171
        go_wp2_with (first
          | (go_at_call 184; refine (HT.out _).mono ?_; rintro e w1 ⟨rfl, rfl⟩)
          | (go_at_call 156; refine (HSa.out _).mono ?_; rintro e w1 ⟨rfl, hb1⟩; have h1 := (Blk.new w #[.int .u8 0, .int .u8 ty, .int .i64 n, .complex .f64 x y, .string s] 195).ext hb1; have k1 := h1.cell; have z1 := h1.lt))
        go_ret
        exact ⟨ret_int HR.out.symm, by (repeat (with_reducible (first | exact Ext.refl _ | assumption | exact held_left (by assumption) | apply Ext.drewN | apply Ext.drew | apply Ext.alloc | (refine Ext.setCell ?_ (by first | (simp; done) | (simp; omega) | omega) _) | (refine Ext.trans ?_ (by assumption)) | (refine Ext.trans ?_ (held_left (by assumption))))))⟩
    · rw [decide_eq_false hz] at HSa
      have HR : Hid (rightC k ty n x y s kind = 3) := Hid.mk' (by unfold rightC; rw [if_neg hkd, if_neg hk2, if_pos hk3, if_neg hz])
      have hkn : (k == 2) = false := by simp; omega
      have hkm : (k != 2) = true := by simp; omega
      clear hkd hz
      go_enter Tryz.func171, Tryz.ntmps171
      go_wp2_with (first
        | (go_at_call 184; refine (HT.out _).mono ?_; rintro e w1 ⟨rfl, rfl⟩)
        | (go_at_call 156; refine (HSa.out _).mono ?_; rintro e w1 ⟨rfl, hb1⟩; have h1 := (Blk.new w #[.int .u8 k, .int .u8 ty, .int .i64 n, .complex .f64 x y, .string s] 195).ext hb1; have k1 := h1.cell; have z1 := h1.lt))
      go_ret
      exact ⟨ret_int HR.out.symm, by (repeat (with_reducible (first | exact Ext.refl _ | assumption | exact held_left (by assumption) | apply Ext.drewN | apply Ext.drew | apply Ext.alloc | (refine Ext.setCell ?_ (by first | (simp; done) | (simp; omega) | omega) _) | (refine Ext.trans ?_ (by assumption)) | (refine Ext.trans ?_ (held_left (by assumption))))))⟩
  · obtain rfl : k = 2 := by omega
    obtain ⟨R, hR⟩ : ∃ R, R = rightV ty n x y s := ⟨_, rfl⟩
    rw [← hR] at HV
    by_cases h0 : R = 0
    · subst h0
      by_cases ht : ty = kind
      · have HR : Hid (rightC 2 ty n x y s kind = 0) := Hid.mk' (right_mk hR.symm ht)
        subst ht
        clear hkd hR
        go_enter Tryz.func171, Tryz.ntmps171
        go_wp2_with (first
          | (go_at_call 184; refine (HT.out _).mono ?_; rintro e w1 ⟨rfl, rfl⟩)
          | (go_at_call 200; refine (HV.out _).mono ?_; rintro e w1 ⟨rfl, hb1⟩; have h1 := (Blk.new w #[.int .u8 2, .int .u8 ty, .int .i64 n, .complex .f64 x y, .string s] 195).ext hb1; have k1 := h1.cell; have z1 := h1.lt))
        go_ret
        exact ⟨ret_int HR.out.symm, by (repeat (with_reducible (first | exact Ext.refl _ | assumption | exact held_left (by assumption) | apply Ext.drewN | apply Ext.drew | apply Ext.alloc | (refine Ext.setCell ?_ (by first | (simp; done) | (simp; omega) | omega) _) | (refine Ext.trans ?_ (by assumption)) | (refine Ext.trans ?_ (held_left (by assumption))))))⟩
      · have HR : Hid (rightC 2 ty n x y s kind = 11) := Hid.mk' (by unfold rightC; rw [if_neg hkd, if_neg hk2, if_neg hk3, if_neg (by rw [← hR]; decide), if_pos ht])
        have ht2 : (ty != kind) = true := by simpa using ht
        clear hkd hR ht
        go_enter Tryz.func171, Tryz.ntmps171
        go_wp2_with (first
          | (go_at_call 184; refine (HT.out _).mono ?_; rintro e w1 ⟨rfl, rfl⟩)
          | (go_at_call 200; refine (HV.out _).mono ?_; rintro e w1 ⟨rfl, hb1⟩; have h1 := (Blk.new w #[.int .u8 2, .int .u8 ty, .int .i64 n, .complex .f64 x y, .string s] 195).ext hb1; have k1 := h1.cell; have z1 := h1.lt))
        go_ret
        exact ⟨ret_int HR.out.symm, by (repeat (with_reducible (first | exact Ext.refl _ | assumption | exact held_left (by assumption) | apply Ext.drewN | apply Ext.drew | apply Ext.alloc | (refine Ext.setCell ?_ (by first | (simp; done) | (simp; omega) | omega) _) | (refine Ext.trans ?_ (by assumption)) | (refine Ext.trans ?_ (held_left (by assumption))))))⟩
    · have HR : Hid (rightC 2 ty n x y s kind = R) := Hid.mk' (by unfold rightC; rw [if_neg hkd, if_neg hk2, if_neg hk3, if_pos (by rw [← hR]; exact h0), hR])
      have h02 : (R != 0) = true := by simpa using h0
      clear hkd hR h0
      go_enter Tryz.func171, Tryz.ntmps171
      go_wp2_with (first
        | (go_at_call 184; refine (HT.out _).mono ?_; rintro e w1 ⟨rfl, rfl⟩)
        | (go_at_call 200; refine (HV.out _).mono ?_; rintro e w1 ⟨rfl, hb1⟩; have h1 := (Blk.new w #[.int .u8 2, .int .u8 ty, .int .i64 n, .complex .f64 x y, .string s] 195).ext hb1; have k1 := h1.cell; have z1 := h1.lt))
      go_ret
      exact ⟨ret_int HR.out.symm, by (repeat (with_reducible (first | exact Ext.refl _ | assumption | exact held_left (by assumption) | apply Ext.drewN | apply Ext.drew | apply Ext.alloc | (refine Ext.setCell ?_ (by first | (simp; done) | (simp; omega) | omega) _) | (refine Ext.trans ?_ (by assumption)) | (refine Ext.trans ?_ (held_left (by assumption))))))⟩

end Go.Proofs.YtibgippchdmdlaaGreat
