import Derived.Test.YtdbepkfblfhlhaaRefRight
/-
Rows that a call makes itself, and slices as lists of elements.
-/
namespace Go.Proofs.Ytdbepkfblfhlhaa
open Go.RowKit

theorem cells_new (w : World) (cs : Array Value) (t : TypeId) : ∀ j u, cs.toList[j]? = some u → (w.alloc (.cells cs t)).cell? ((⟨w.heap.size, 0, none⟩ : Addr).add j) = some u := by
  intro j u h
  have e : (⟨w.heap.size, 0, none⟩ : Addr).add j = ⟨w.heap.size, j, none⟩ := by
    unfold Addr.add; split
    · rename_i h0; subst h0; rfl
    · simp
  rw [e, (Blk.new w cs t).cell j]
  simpa using h

theorem Ext.grown {w w1 w2 : World} (h : Ext w w1) {e : TypeId} {size n : Nat} {v : Value} {xs : List Value} (ho : w1.ownsRow w.heap.size e size v n xs) (hg : w1.grownBy w2 v.ownBlock) : Ext w w2 :=
  Below.grown h hg h.size fun k hk => (ho.lt k hk).1

theorem owns_ext {w w1 : World} {base : Nat} {e : TypeId} {size n : Nat} {v : Value} {xs : List Value} (h : w.ownsRow base e size v n xs) (he : Ext w w1) : w1.ownsRow base e size v n xs := by
  obtain ⟨h1, h2⟩ := h
  refine ⟨h1, ?_⟩
  rcases h2 with h2 | ⟨g, cap, cur, hv, hg, hh, hr⟩
  · exact .inl h2
  · exact .inr ⟨g, cap, cur, hv, hg, Blk.ext (b := g) hh he, hr⟩

theorem flat_get {α : Type} (k : Nat) : ∀ (xss : List (List α)), (∀ xs ∈ xss, xs.length = k) → ∀ i, i < xss.length → ∀ j, j < k → xss.flatten[i * k + j]? = (xss.getD i [])[j]? := by
  intro xss
  induction xss with
  | nil => intro _ i hi; simp at hi
  | cons x xss ih =>
    intro h i hi j hj
    have hx : x.length = k := h x (by simp)
    rw [List.flatten_cons]
    cases i with
    | zero => rw [List.getElem?_append_left (by omega)]; simp
    | succ i =>
      have e : (i + 1) * k + j = x.length + (i * k + j) := by rw [hx, Nat.succ_mul]; omega
      rw [e, List.getElem?_append_right (by omega), Nat.add_sub_cancel_left]
      have := ih (fun xs hxs => h xs (by simp [hxs])) i (by simpa using hi) j hj
      rw [this]; simp

theorem flat_length {α : Type} (k : Nat) (xss : List (List α)) (h : ∀ xs ∈ xss, xs.length = k) : xss.flatten.length = xss.length * k := by
  induction xss with
  | nil => simp
  | cons x xss ih =>
    have := ih (fun xs hxs => h xs (by simp [hxs]))
    have hx : x.length = k := h x (by simp)
    simp only [List.flatten_cons, List.length_append, List.length_cons, this, hx, Nat.succ_mul]; omega

/-- What a call owns reads as a slice. -/
theorem Sl.of_owns {w : World} {base : Nat} {e : TypeId} {k : Nat} {v : Value} {xss : List (List Value)} (ho : w.ownsRow base e k v xss.length xss.flatten) (hk : ∀ xs ∈ xss, xs.length = k) : Sl w v k xss := by
  obtain ⟨h1, h2⟩ := ho
  rcases h2 with ⟨rfl, h0⟩ | ⟨g, cap, cur, rfl, hg, hh, hn, hcap, hsz, htake⟩
  · exact ⟨none, 0, by rw [h0], .inl (List.length_eq_zero_iff.1 h0)⟩
  · refine ⟨_, cap, rfl, .inr ⟨g, 0, rfl, Blk.lt (b := g) hh, ?_⟩⟩
    intro i hi j hj
    have hb : Blk w g cur e := hh
    rw [hb.cell, ← flat_get k xss hk i hi j hj, ← htake, List.getElem?_take]
    have hlt : i * k + j < xss.length * k := by
      have : (i + 1) * k ≤ xss.length * k := Nat.mul_le_mul_right k (by omega)
      rw [Nat.succ_mul] at this; omega
    rw [if_pos hlt]
    simp

/-- A literal's block reads as a slice. -/
theorem Sl.new (w : World) (cs : Array Value) (t : TypeId) (k n c : Nat) (xss : List (List Value)) (h1 : cs.toList = xss.flatten) (h2 : ∀ xs ∈ xss, xs.length = k) (h3 : n = xss.length) :
    Sl (w.alloc (.cells cs t)) (.slice (some ⟨w.heap.size, 0, none⟩) n c) k xss := by
  subst h3
  refine ⟨_, c, rfl, .inr ⟨w.heap.size, 0, rfl, (Blk.new w cs t).lt, ?_⟩⟩
  intro i hi j hj
  rw [(Blk.new w cs t).cell, ← flat_get k xss h2 i hi j hj, ← h1]
  simp

theorem Sl.shape {w : World} {v : Value} {k n : Nat} {xss : List (List Value)} (h : Sl w v k xss) (hn : xss.length = n) :
    ∃ a cap, v = .slice a n cap ∧ (n = 0 ∨ ∃ b o, a = some ⟨b, o, none⟩ ∧ b < w.heap.size ∧ ∀ i, i < n → ∀ j, j < k → w.cell? ⟨b, o + i * k + j, none⟩ = (xss.getD i [])[j]?) := by
  subst hn
  obtain ⟨a, cap, hv, h⟩ := h
  exact ⟨a, cap, hv, h.imp (fun e => by rw [e]; rfl) id⟩

/-- A slice of one element. -/
theorem Sl.one {w : World} {v : Value} {k : Nat} {xs : List Value} (h : Sl w v k [xs]) : ∃ b q cap, v = .slice (some ⟨b, q, none⟩) 1 cap ∧ b < w.heap.size ∧ ∀ j, j < k → w.cell? ⟨b, q + j, none⟩ = xs[j]? := by
  obtain ⟨a, cap, rfl, h⟩ := h
  rcases h with h | ⟨b, q, rfl, hb, hc⟩
  · cases h
  · refine ⟨b, q, cap, rfl, hb, fun j hj => ?_⟩
    have := hc 0 (by simp) j hj
    simpa using this

end Go.Proofs.Ytdbepkfblfhlhaa

/-
Relations in plain words: names, columns, the first of several errors, what is wrong with a relation; slices read at an index.
-/
namespace Go.Proofs.Ytdbepkfblfhlhaa
open Go.RowKit

/-- A slice's element, at an index. -/
theorem Sl.at_ {w : World} {a : Option Addr} {n cap k : Nat} {xss : List (List Value)} (h : Sl w (.slice a n cap) k xss) {i : Nat} (hi : i < xss.length) :
    ∃ b o, a = some ⟨b, o, none⟩ ∧ b < w.heap.size ∧ ∀ j, j < k → w.cell? ⟨b, o + i * k + j, none⟩ = (xss.getD i [])[j]? := by
  obtain ⟨a', cap', hv, hs⟩ := h
  simp only [Value.slice.injEq] at hv
  obtain ⟨rfl, -, -⟩ := hv
  rcases hs with rfl | ⟨b, o, rfl, hb, hc⟩
  · simp at hi
  · exact ⟨b, o, rfl, hb, hc i hi⟩
theorem getD_map {α β : Type} (f : α → List β) (l : List α) {i : Nat} (hi : i < l.length) : (l.map f).getD i [] = f l[i] := by simp [hi]

structure Col where
  nm : ByteArray
  ty : Int
  key : Bool
def Col.cells (c : Col) : List Value := [.string c.nm, .int .u8 c.ty, .bool c.key]
theorem Col.at_ {w wr : World} {b o : Nat} {l : List Col} {k : Nat} (hk : k < l.length) (hc : ∀ j, j < 3 → w.cell? ⟨b, o + k * 3 + j, none⟩ = ((l.map Col.cells).getD k [])[j]?) (hb : b < w.heap.size) (hE : Ext w wr) :
    wr.cell? ⟨b, o + k * 3, none⟩ = some (.string l[k].nm) ∧ wr.cell? ⟨b, o + k * 3 + 1, none⟩ = some (.int .u8 l[k].ty) ∧ wr.cell? ⟨b, o + k * 3 + 2, none⟩ = some (.bool l[k].key) := by
  rw [getD_map Col.cells l hk] at hc
  have c := hE.cells.1 b
  exact ⟨(c _ hb).trans (hc 0 (by omega)), (c _ hb).trans (hc 1 (by omega)), (c _ hb).trans (hc 2 (by omega))⟩

/-- A relation. -/
structure Rl where
  oid : Int
  ver : Int
  nm : ByteArray
  id : Int
  cols : List Col
def Rl.arr (r : Rl) (v : Value) : Array Value := #[.int .u32 r.oid, .int .u32 r.ver, .string r.nm, .int .u8 r.id, v]

/-- The first error of n. -/
def firstE (f : Nat → Int) : Nat → Int
  | 0 => 0
  | n + 1 => if firstE f n ≠ 0 then firstE f n else f n
theorem firstE_zero {f : Nat → Int} {n : Nat} (h : ∀ i, i < n → f i = 0) : firstE f n = 0 := by
  induction n with
  | zero => rfl
  | succ n ih =>
    have h1 := ih (fun i hi => h i (by omega))
    unfold firstE
    rw [h1, if_neg (by simp)]
    exact h n (by omega)
theorem firstE_all {f : Nat → Int} {n : Nat} (h : firstE f n = 0) : ∀ i, i < n → f i = 0 := by
  induction n with
  | zero => intro i hi; omega
  | succ n ih =>
    unfold firstE at h
    by_cases h1 : firstE f n = 0
    · rw [if_neg (by simpa using h1)] at h
      intro i hi
      by_cases e : i = n
      · subst e; exact h
      · exact ih h1 i (by omega)
    · rw [if_pos h1] at h; exact absurd h h1
theorem firstE_at {f : Nat → Int} {n k : Nat} (h : ∀ i, i < k → f i = 0) (hk : k < n) (h0 : f k ≠ 0) : firstE f n = f k := by
  induction n with
  | zero => omega
  | succ n ih =>
    unfold firstE
    by_cases e : k = n
    · subst e
      rw [if_neg (by rw [firstE_zero h]; simp)]
    · have := ih (by omega)
      rw [if_pos (by rw [this]; exact h0), this]
theorem firstE_congr {f g : Nat → Int} {n : Nat} (h : ∀ i, i < n → f i = g i) : firstE f n = firstE g n := by
  induction n with
  | zero => rfl
  | succ n ih =>
    unfold firstE
    rw [ih (fun i hi => h i (by omega)), h n (by omega)]
theorem firstE_get {f : Nat → Int} {n : Nat} (h : firstE f n ≠ 0) : ∃ k, k < n ∧ (∀ i, i < k → f i = 0) ∧ firstE f n = f k := by
  induction n with
  | zero => exact absurd rfl h
  | succ n ih =>
    unfold firstE at h ⊢
    by_cases h1 : firstE f n = 0
    · rw [if_neg (by simpa using h1)]
      exact ⟨n, by omega, firstE_all h1, rfl⟩
    · rw [if_pos h1]
      obtain ⟨k, hk, h2, h3⟩ := ih h1
      exact ⟨k, by omega, h2, h3⟩

/-- A byte of a text. -/
def chr (s : ByteArray) (i : Nat) : Int := if h : i < s.size then (s[i].toNat : Int) else 0
theorem chr_lt {s : ByteArray} {i : Nat} (h : i < s.size) : chr s i = (s[i].toNat : Int) := by unfold chr; rw [dif_pos h]
def nameAt (s : ByteArray) (i : Nat) : Bool := decide ((97 ≤ chr s i ∧ chr s i ≤ 122) ∨ (0 < i ∧ ((48 ≤ chr s i ∧ chr s i ≤ 57) ∨ chr s i = 95)))
/-- Is it a name? -/
def namedB (s : ByteArray) : Bool := decide (1 ≤ s.size ∧ s.size ≤ 31) && (List.range s.size).all (nameAt s)
theorem named_no {s : ByteArray} {k : Nat} (hk : k < s.size) (h : nameAt s k = false) : namedB s = false := by
  unfold namedB
  rw [Bool.and_eq_false_iff]
  right
  rw [List.all_eq_false]
  exact ⟨k, List.mem_range.2 hk, by simp [h]⟩
theorem named_yes {s : ByteArray} (h : ∀ j, j < s.size → nameAt s j = true) : namedB s = decide (1 ≤ s.size ∧ s.size ≤ 31) := by
  unfold namedB
  have : (List.range s.size).all (nameAt s) = true := List.all_eq_true.2 fun x hx => h x (List.mem_range.1 hx)
  rw [this, Bool.and_true]
theorem named_len {s : ByteArray} (h : ¬ (1 ≤ s.size ∧ s.size ≤ 31)) : namedB s = false := by
  unfold namedB; rw [decide_eq_false h]; rfl
theorem name_cases {s : ByteArray} {k : Nat} (h : k < s.size) :
    (nameAt s k = true ∧ ((97 ≤ (s[k].toNat : Int) ∧ (s[k].toNat : Int) ≤ 122) ∨ (0 < k ∧ 48 ≤ (s[k].toNat : Int) ∧ (s[k].toNat : Int) ≤ 57) ∨ (0 < k ∧ (s[k].toNat : Int) = 95))) ∨
    (nameAt s k = false ∧ ((k = 0 ∧ (s[k].toNat : Int) < 97) ∨ (k = 0 ∧ 122 < (s[k].toNat : Int)) ∨ (0 < k ∧ (s[k].toNat : Int) < 48) ∨ (0 < k ∧ 57 < (s[k].toNat : Int) ∧ (s[k].toNat : Int) < 95) ∨ (0 < k ∧ 95 < (s[k].toNat : Int) ∧ (s[k].toNat : Int) < 97) ∨ (0 < k ∧ 122 < (s[k].toNat : Int)))) := by
  unfold nameAt
  rw [decide_eq_true_iff, decide_eq_false_iff_not, chr_lt h]
  omega

/-- What is wrong with a column, behind some others. -/
def colE (c : Col) (ahead : List Col) : Int := if namedB c.nm = false then 3 else if ahead.any (fun o => decide (o.nm = c.nm)) = true then 9 else if c.ty < 1 ∨ 6 < c.ty then 11 else 0
def colAt (cols : List Col) (i : Nat) : Int := if h : i < cols.length then colE cols[i] (cols.take i) else 0
theorem colAt_lt {cols : List Col} {i : Nat} (h : i < cols.length) : colAt cols i = colE cols[i] (cols.take i) := by unfold colAt; rw [dif_pos h]
/-- What is wrong with a relation. -/
def Rl.right (r : Rl) : Int :=
  if r.oid = 0 ∨ r.ver = 0 then 4 else if namedB r.nm = false then 3 else if 2 < r.id then 7 else if r.cols.length < 1 ∨ 16 < r.cols.length then 17
  else if firstE (colAt r.cols) r.cols.length ≠ 0 then firstE (colAt r.cols) r.cols.length
  else if r.id = 1 ∧ r.cols.any Col.key = false then 13 else 0

structure Rl.wf (r : Rl) : Prop where
  nm : r.nm.size ≤ 9223372036854775807
  cols : ∀ c ∈ r.cols, c.nm.size ≤ 9223372036854775807

end Go.Proofs.Ytdbepkfblfhlhaa
