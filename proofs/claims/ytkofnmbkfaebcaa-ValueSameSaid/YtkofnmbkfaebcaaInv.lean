/-
A region that draws its order, by an invariant over what has come up: one proof for each operation, not for each order.
-/
import Derived.Test.YtkofnmbkfaebcaaBase
import Derived.Orders
namespace Go.Proofs.Ytkofnmbkfaebcaa
open Go.RowKit

theorem left_set : ∀ (l : List Bool) (i : Nat), l[i]? = some false → ((l.set i true).filter (· == false)).length + 1 = (l.filter (· == false)).length := by
  intro l
  induction l with
  | nil => intro i h; simp at h
  | cons b l ih =>
    intro i h
    cases i with
    | zero => simp at h; subst h; simp
    | succ i =>
      have := ih i (by simpa using h)
      cases b <;> simp at * <;> omega

section
variable {P : Program} {ops : Array Oper} {Q : Exit → Act → World → Prop} {md : Region.Mode}

theorem wpAny_inv (Inv : Array Bool → Act → World → Prop)
    (fin : ∀ L a w, L.size = ops.size → Inv L a w → Region.ready md ops L = [] → Q .normal a w)
    (step : ∀ L a w i, L.size = ops.size → Inv L a w → i ∈ Region.ready md ops L → wpOp P ops Q i (fun a' w' => Inv (L.setIfInBounds i true) a' w') a w) :
    ∀ (fuel : Nat) (L : Array Bool) (a : Act) (w : World), Inv L a w → L.size = ops.size → (L.toList.filter (· == false)).length ≤ fuel → wpAny P md ops Q fuel L a w := by
  intro fuel
  induction fuel with
  | zero =>
    intro L a w h hs hl
    have hr : Region.ready md ops L = [] := by
      unfold Region.ready
      rw [List.filter_eq_nil_iff]
      intro i hi
      have hi' : i < L.size := by rw [hs]; exact List.mem_range.1 hi
      have h0 : (L.toList.filter (· == false)) = [] := List.length_eq_zero_iff.1 (by omega)
      rw [List.filter_eq_nil_iff] at h0
      have h1 := h0 L[i] (by simp)
      have : L.getD i true = true := by
        simp only [Array.getD_eq_getD_getElem?, Array.getElem?_eq_getElem hi', Option.getD_some]
        cases h2 : L[i] with
        | true => rfl
        | false => rw [h2] at h1; simp at h1
      simp [this]
    exact ⟨hr, fin L a w hs h hr⟩
  | succ fuel ih =>
    intro L a w h hs hl
    refine ⟨fun hr => fin L a w hs h hr, fun i hi => wpOp_mono (fun a' w' h' => ih _ _ _ h' (by simpa using hs) ?_) (step L a w i hs h hi)⟩
    have h1 := (mem_ready.1 hi).1
    have hlt : i < L.size := by
      rcases Nat.lt_or_ge i L.size with h2 | h2
      · exact h2
      · simp [Array.getD_eq_getD_getElem?, Array.getElem?_eq_none h2] at h1
    have h2 : L.toList[i]? = some false := by
      simp only [Array.getD_eq_getD_getElem?, Array.getElem?_eq_getElem hlt, Option.getD_some] at h1
      rw [Array.getElem?_toList, Array.getElem?_eq_getElem hlt, h1]
    have := left_set L.toList i h2
    rw [Array.toList_setIfInBounds]
    omega

theorem wp_region_inv {id : Nat} {a : Act} {w : World} (hm : P.follows .mixedOrders = true) (Inv : Array Bool → Act → World → Prop)
    (h0 : Inv (Array.replicate ops.size false) a { w with drawn := w.drawn + 1 })
    (fin : ∀ L a w, L.size = ops.size → Inv L a w → Region.ready .any ops L = [] → Q .normal a w)
    (step : ∀ L a w i, L.size = ops.size → Inv L a w → i ∈ Region.ready .any ops L → wpOp P ops Q i (fun a' w' => Inv (L.setIfInBounds i true) a' w') a w) : (Code.region id ops true).wp P Q a w := by
  refine wp_region_any hm (wpAny_inv Inv fin step _ _ _ _ h0 (by simp) ?_)
  refine Nat.le_trans (List.length_filter_le _ _) (by simp)

theorem wpOp_ok {i : Nat} {o : Oper} {a : Act} {w : World} {K : Act → World → Prop} (hi : ops[i]? = some o) (hg : o.guard = none) (h : o.wp P a w K Q) : wpOp P ops Q i K a w := by
  unfold wpOp
  simp only [hi]
  rw [if_pos (by simp [Region.wanted, hg])]
  exact .inl h

/-- Has number j come up? -/
def up (L : Array Bool) (j : Nat) : Prop := L.getD j false = true
theorem up_set {L : Array Bool} {i j : Nat} (hi : i < L.size) : up (L.setIfInBounds i true) j ↔ j = i ∨ up L j := by
  unfold up
  simp only [Array.getD_eq_getD_getElem?, Array.getElem?_setIfInBounds]
  by_cases h : i = j
  · subst h; simp [hi]
  · simp [h, Ne.symm h]
theorem up_none {n j : Nat} : ¬ up (Array.replicate n false) j := by
  unfold up
  simp only [Array.getD_eq_getD_getElem?, Array.getElem?_replicate]
  split <;> simp
theorem ready_dep {L : Array Bool} {i : Nat} {o : Oper} (h : i ∈ Region.ready md ops L) (ho : ops[i]? = some o) {e : Edge} (he : e ∈ o.after) (hb : Region.binds md e = true) : up L e.on := by
  obtain ⟨_, o', ho', h2⟩ := mem_ready.1 h
  rw [ho] at ho'
  cases ho'
  exact h2 e he hb
theorem ready_lt {L : Array Bool} {i : Nat} (h : i ∈ Region.ready md ops L) : i < ops.size := by
  unfold Region.ready at h
  exact List.mem_range.1 (List.mem_filter.1 h).1
/-- What may come up has come up, at the end. -/
theorem up_of_done {L : Array Bool} {i : Nat} {o : Oper} (hr : Region.ready md ops L = []) (hs : L.size = ops.size) (ho : ops[i]? = some o) (hd : ∀ e ∈ o.after, Region.binds md e = true → up L e.on) : up L i := by
  refine Classical.byContradiction fun h => ?_
  have hi : i < L.size := by
    rw [hs]
    rcases Nat.lt_or_ge i ops.size with h2 | h2
    · exact h2
    · rw [Array.getElem?_eq_none h2] at ho; cases ho
  have h1 : L.getD i true = false := by
    unfold up at h
    simp only [Array.getD_eq_getD_getElem?, Array.getElem?_eq_getElem hi, Option.getD_some] at *
    simpa using h
  have : i ∈ Region.ready md ops L := mem_ready.2 ⟨h1, o, ho, hd⟩
  rw [hr] at this
  cases this
end

end Go.Proofs.Ytkofnmbkfaebcaa
