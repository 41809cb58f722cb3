/-
What fits a catalog fits the catalog of what it uses alone.
-/
import Derived.Test.YthdjinicmnhgpaaGreatDoorP18
namespace Go.Proofs.YthdjinicmnhgpaaGreatDoor
open Go.RowKit

theorem find_filter {α : Type} {p q : α → Bool} (h : ∀ x, p x = true → q x = true) : ∀ l : List α, (l.filter q).find? p = l.find? p
  | [] => rfl
  | x :: l => by
    have ih := find_filter h l
    cases hp : p x with
    | true => rw [List.filter_cons, if_pos (h x hp), List.find?_cons, List.find?_cons, hp]
    | false =>
      rw [List.find?_cons, hp]
      cases hq : q x with
      | true => rw [List.filter_cons, if_pos hq, List.find?_cons, hp]; exact ih
      | false => rw [List.filter_cons, if_neg (by rw [hq]; simp)]; exact ih
theorem any_filter {α : Type} {p q : α → Bool} (h : ∀ x, p x = true → q x = true) (l : List α) : (l.filter q).any p = l.any p := by
  rw [Bool.eq_iff_iff, List.any_eq_true, List.any_eq_true]
  constructor
  · rintro ⟨x, hx, hp⟩
    exact ⟨x, (List.mem_filter.1 hx).1, hp⟩
  · rintro ⟨x, hx, hp⟩
    exact ⟨x, List.mem_filter.2 ⟨hx, h x hp⟩, hp⟩
theorem isR_of {rs : List Rf} {o v : Int} (h : (⟨o, v⟩ : Rf) ∈ rs) : ∀ x, isR o v x = true → ofRefs rs x = true := fun x hx => by
  unfold ofRefs
  exact List.any_eq_true.2 ⟨_, h, hx⟩
theorem getR_only {rs : List Rf} {o v : Int} (h : (⟨o, v⟩ : Rf) ∈ rs) (l : List Rl) : getR o v (l.filter (ofRefs rs)) = getR o v l := find_filter (isR_of h) l
theorem hasR_only {rs : List Rf} {o v : Int} (h : (⟨o, v⟩ : Rf) ∈ rs) (l : List Rl) : hasR o v (l.filter (ofRefs rs)) = hasR o v l := any_filter (isR_of h) l
theorem hasAll_only {rs xs : List Rf} (h : ∀ x ∈ xs, x ∈ rs) (l : List Rl) : hasAll xs (l.filter (ofRefs rs)) = hasAll xs l := by
  unfold hasAll
  rw [Bool.eq_iff_iff, List.all_eq_true, List.all_eq_true]
  constructor
  · intro h1 x hx
    rw [← hasR_only (h x hx)]; exact h1 x hx
  · intro h1 x hx
    rw [hasR_only (h x hx)]; exact h1 x hx
theorem ev_only {e : Ev} {rs : List Rf} (h : ∀ x ∈ usesE e, x ∈ rs) (l : List Rl) : evE e (l.filter (ofRefs rs)) = evE e l := by
  unfold evE
  split
  · rfl
  rename_i hk
  split
  · rfl
  split
  · rename_i h7
    have hr : ∀ x ∈ e.rs, x ∈ rs := by
      unfold usesE at h
      rw [if_neg (by rw [h7]; decide), if_pos h7] at h
      exact h
    unfold truncE
    rw [hasAll_only hr]
  · rename_i h7
    have hm : (⟨e.ao, e.av⟩ : Rf) ∈ rs := by
      unfold usesE at h
      rw [if_pos (by unfold rowedB; simp; omega)] at h
      exact h _ (by simp)
    rw [getR_only hm]
theorem firstE_congr2 {f g : Nat → Int} (h : ∀ i, f i = g i) : f = g := funext h
theorem evAt_only {es : List Ev} {rs : List Rf} (h : ∀ x ∈ usesEs es, x ∈ rs) (l : List Rl) : evAt es (l.filter (ofRefs rs)) = evAt es l := funext (fun i => by
  unfold evAt
  split
  · rename_i hi
    exact ev_only (fun x hx => h x (by unfold usesEs; exact List.mem_flatten.2 ⟨_, List.mem_map_of_mem (List.getElem_mem hi), hx⟩)) l
  · rfl)
theorem rt_only {t : Tx} {rs : List Rf} (h : ∀ x ∈ usesEs t.es, x ∈ rs) (l : List Rl) : rtE t (l.filter (ofRefs rs)) = rtE t l := by
  unfold rtE
  rw [evAt_only h]
theorem chE_only {xs : List Tx} {rs : List Rf} (h : ∀ x ∈ usesTs xs, x ∈ rs) (l : List Rl) (k : Nat) : chE xs (l.filter (ofRefs rs)) k = chE xs l k := by
  unfold chE
  split
  · rename_i hk
    rw [rt_only (fun x hx => h x (by unfold usesTs; exact List.mem_flatten.2 ⟨_, List.mem_map_of_mem (List.getElem_mem hk), hx⟩))]
  · rfl
theorem ck_only {xs : List Tx} {rs : List Rf} (h : ∀ x ∈ usesTs xs, x ∈ rs) (l : List Rl) : ckE xs (l.filter (ofRefs rs)) = ckE xs l := by
  unfold ckE
  rw [show chE xs (l.filter (ofRefs rs)) = chE xs l from funext (chE_only h l)]
theorem ch_take {xs : List Tx} {l : List Rl} {m k : Nat} (hk : k < (xs.take m).length) : chE (xs.take m) l k = chE xs l k := by
  have h1 : k < m ∧ k < xs.length := by rw [List.length_take] at hk; omega
  unfold chE
  rw [dif_pos hk, dif_pos h1.2, List.getElem_take]
  have e : ((xs.take m).map Tx.xid).getD (k - 1) 0 = (xs.map Tx.xid).getD (k - 1) 0 := by
    rw [List.map_take, List.getD_eq_getElem?_getD, List.getD_eq_getElem?_getD, List.getElem?_take, if_pos (by omega)]
  rw [e]
theorem ck_take {xs : List Tx} {l : List Rl} (m : Nat) (h : ckE xs l = 0) : ckE (xs.take m) l = 0 := by
  unfold ckE at h ⊢
  exact firstE_zero (fun i hi => by
    rw [ch_take hi]
    exact firstE_all h i (by rw [List.length_take] at hi; omega))
theorem uses_take {xs : List Tx} (m : Nat) : ∀ x ∈ usesTs (xs.take m), x ∈ usesTs xs := fun x hx => by
  have h : usesTs xs = usesTs (xs.take m) ++ usesTs (xs.drop m) := by rw [← usesTs_app, List.take_append_drop]
  rw [h]; exact List.mem_append.2 (.inl hx)
theorem uses_used {xs : List Tx} : ∀ x ∈ usesTs xs, x ∈ usedL xs := fun x hx => usedL_mem.2 hx
theorem only_only (l : List Rl) (rs : List Rf) : (l.filter (ofRefs rs)).filter (ofRefs rs) = l.filter (ofRefs rs) := by
  rw [List.filter_filter]
  refine List.filter_congr (fun x _ => ?_)
  simp

end Go.Proofs.YthdjinicmnhgpaaGreatDoor
