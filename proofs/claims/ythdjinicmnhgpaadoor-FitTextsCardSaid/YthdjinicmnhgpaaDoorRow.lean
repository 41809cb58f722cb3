/-
Rows that a call makes itself, and slices as lists of elements.
-/
import Derived.Test.YthdjinicmnhgpaaDoorBase
namespace Go.Proofs.YthdjinicmnhgpaaDoor
open Go.RowKit

theorem cells_new (w : World) (cs : Array Value) (t : TypeId) : ∀ j u, cs.toList[j]? = some u → (w.alloc (.cells cs t)).cell? ((⟨w.heap.size, 0, none⟩ : Addr).add j) = some u := by
  intro j u h
  have e : (⟨w.heap.size, 0, none⟩ : Addr).add j = ⟨w.heap.size, j, none⟩ := by
    unfold Addr.add; split
    · rename_i h0; subst h0; rfl
    · simp
  rw [e, (Blk.new w cs t).cell j]
  simpa using h

theorem Ext.grown {w w1 w2 : World} (h : Ext w w1) {e : TypeId} {size n : Nat} {v : Value} {xs : List Value} (ho : w1.ownsRow w.heap.size e size v n xs) (hg : w1.grownBy w2 v.ownBlock) : Ext w w2 :=
  Below.grown h hg h.size fun k hk => (ho.lt k hk).1

theorem owns_ext {w w1 : World} {base : Nat} {e : TypeId} {size n : Nat} {v : Value} {xs : List Value} (h : w.ownsRow base e size v n xs) (he : Ext w w1) : w1.ownsRow base e size v n xs := by
  obtain ⟨h1, h2⟩ := h
  refine ⟨h1, ?_⟩
  rcases h2 with h2 | ⟨g, cap, cur, hv, hg, hh, hr⟩
  · exact .inl h2
  · exact .inr ⟨g, cap, cur, hv, hg, Blk.ext (b := g) hh he, hr⟩

theorem flat_get {α : Type} (k : Nat) : ∀ (xss : List (List α)), (∀ xs ∈ xss, xs.length = k) → ∀ i, i < xss.length → ∀ j, j < k → xss.flatten[i * k + j]? = (xss.getD i [])[j]? := by
  intro xss
  induction xss with
  | nil => intro _ i hi; simp at hi
  | cons x xss ih =>
    intro h i hi j hj
    have hx : x.length = k := h x (by simp)
    rw [List.flatten_cons]
    cases i with
    | zero => rw [List.getElem?_append_left (by omega)]; simp
    | succ i =>
      have e : (i + 1) * k + j = x.length + (i * k + j) := by rw [hx, Nat.succ_mul]; omega
      rw [e, List.getElem?_append_right (by omega), Nat.add_sub_cancel_left]
      have := ih (fun xs hxs => h xs (by simp [hxs])) i (by simpa using hi) j hj
      rw [this]; simp

theorem flat_length {α : Type} (k : Nat) (xss : List (List α)) (h : ∀ xs ∈ xss, xs.length = k) : xss.flatten.length = xss.length * k := by
  induction xss with
  | nil => simp
  | cons x xss ih =>
    have := ih (fun xs hxs => h xs (by simp [hxs]))
    have hx : x.length = k := h x (by simp)
    simp only [List.flatten_cons, List.length_append, List.length_cons, this, hx, Nat.succ_mul]; omega

/-- What a call owns reads as a slice. -/
theorem Sl.of_owns {w : World} {base : Nat} {e : TypeId} {k : Nat} {v : Value} {xss : List (List Value)} (ho : w.ownsRow base e k v xss.length xss.flatten) (hk : ∀ xs ∈ xss, xs.length = k) : Sl w v k xss := by
  obtain ⟨h1, h2⟩ := ho
  rcases h2 with ⟨rfl, h0⟩ | ⟨g, cap, cur, rfl, hg, hh, hn, hcap, hsz, htake⟩
  · exact ⟨none, 0, by rw [h0], .inl (List.length_eq_zero_iff.1 h0)⟩
  · refine ⟨_, cap, rfl, .inr ⟨g, 0, rfl, Blk.lt (b := g) hh, ?_⟩⟩
    intro i hi j hj
    have hb : Blk w g cur e := hh
    rw [hb.cell, ← flat_get k xss hk i hi j hj, ← htake, List.getElem?_take]
    have hlt : i * k + j < xss.length * k := by
      have : (i + 1) * k ≤ xss.length * k := Nat.mul_le_mul_right k (by omega)
      rw [Nat.succ_mul] at this; omega
    rw [if_pos hlt]
    simp

/-- A literal's block reads as a slice. -/
theorem Sl.new (w : World) (cs : Array Value) (t : TypeId) (k n c : Nat) (xss : List (List Value)) (h1 : cs.toList = xss.flatten) (h2 : ∀ xs ∈ xss, xs.length = k) (h3 : n = xss.length) :
    Sl (w.alloc (.cells cs t)) (.slice (some ⟨w.heap.size, 0, none⟩) n c) k xss := by
  subst h3
  refine ⟨_, c, rfl, .inr ⟨w.heap.size, 0, rfl, (Blk.new w cs t).lt, ?_⟩⟩
  intro i hi j hj
  rw [(Blk.new w cs t).cell, ← flat_get k xss h2 i hi j hj, ← h1]
  simp

theorem Sl.shape {w : World} {v : Value} {k n : Nat} {xss : List (List Value)} (h : Sl w v k xss) (hn : xss.length = n) :
    ∃ a cap, v = .slice a n cap ∧ (n = 0 ∨ ∃ b o, a = some ⟨b, o, none⟩ ∧ b < w.heap.size ∧ ∀ i, i < n → ∀ j, j < k → w.cell? ⟨b, o + i * k + j, none⟩ = (xss.getD i [])[j]?) := by
  subst hn
  obtain ⟨a, cap, hv, h⟩ := h
  exact ⟨a, cap, hv, h.imp (fun e => by rw [e]; rfl) id⟩

/-- A slice of one element. -/
theorem Sl.one {w : World} {v : Value} {k : Nat} {xs : List Value} (h : Sl w v k [xs]) : ∃ b q cap, v = .slice (some ⟨b, q, none⟩) 1 cap ∧ b < w.heap.size ∧ ∀ j, j < k → w.cell? ⟨b, q + j, none⟩ = xs[j]? := by
  obtain ⟨a, cap, rfl, h⟩ := h
  rcases h with h | ⟨b, q, rfl, hb, hc⟩
  · cases h
  · refine ⟨b, q, cap, rfl, hb, fun j hj => ?_⟩
    have := hc 0 (by simp) j hj
    simpa using this

end Go.Proofs.YthdjinicmnhgpaaDoor
