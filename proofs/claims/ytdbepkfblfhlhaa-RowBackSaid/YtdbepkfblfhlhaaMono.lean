/-
Readers of more bytes: what is told of bytes is told of them with more behind, but that bytes lack; so what was whole is too short where it is cut.
-/
import Derived.Test.YtdbepkfblfhlhaaP16
namespace Go.Proofs.Ytdbepkfblfhlhaa
open Go.RowKit

/-- What is left of bytes, and of them with more behind. -/
def Gr (r : List Int) (S T : RS) : Prop := (S.e = 0 → T = ⟨S.l ++ r, 0⟩) ∧ (S.e ≠ 0 → S.e ≠ 1 → T.e = S.e)
structure Mn {α : Type} (f : RS → α × RS) : Prop where
  keep : ∀ S : RS, S.e ≠ 0 → (f S).2.e = S.e
  mono : ∀ q r : List Int, Gr r (f ⟨q, 0⟩).2 (f ⟨q ++ r, 0⟩).2 ∧ ((f ⟨q, 0⟩).2.e = 0 → (f ⟨q ++ r, 0⟩).1 = (f ⟨q, 0⟩).1)
theorem Mn.at_ {α : Type} {f : RS → α × RS} (h : Mn f) {r : List Int} {S T : RS} (hg : Gr r S T) : Gr r (f S).2 (f T).2 ∧ ((f S).2.e = 0 → (f T).1 = (f S).1) := by
  by_cases h0 : S.e = 0
  · obtain rfl := hg.1 h0
    rw [RS.eta S h0]
    exact h.mono _ _
  · have hk := h.keep S h0
    refine ⟨⟨fun h1 => absurd (hk ▸ h1) h0, fun _ h1 => ?_⟩, fun h1 => absurd (hk ▸ h1) h0⟩
    rw [hk] at h1 ⊢
    have ht := hg.2 h0 h1
    rw [h.keep T (by rw [ht]; exact h0), ht]
theorem Mn.bind {α β : Type} {f : RS → α × RS} {g : α → RS → β × RS} (hf : Mn f) (hg : ∀ a, Mn (g a)) : Mn (fun st => g (f st).1 (f st).2) := by
  refine ⟨fun S h => ?_, fun q r => ?_⟩
  · have h1 := hf.keep S h
    rw [(hg _).keep _ (by rw [h1]; exact h), h1]
  · obtain ⟨h1, h2⟩ := hf.mono q r
    by_cases h0 : (f ⟨q, 0⟩).2.e = 0
    · have e := h2 h0
      simp only [e]
      exact (hg _).at_ h1
    · have k1 := (hg (f ⟨q, 0⟩).1).keep _ h0
      refine ⟨⟨fun h3 => absurd (k1 ▸ h3) h0, fun _ h3 => ?_⟩, fun h3 => absurd (k1 ▸ h3) h0⟩
      simp only [k1] at h3 ⊢
      have ht := h1.2 h0 h3
      rw [(hg _).keep _ (by rw [ht]; exact h0), ht]
theorem Mn.pure {α : Type} (a : α) : Mn (fun st => (a, st)) := ⟨fun _ _ => rfl, fun _ _ => ⟨⟨fun _ => rfl, fun h => absurd rfl h⟩, fun _ => rfl⟩⟩
theorem Mn.give {α : Type} (a : α) {e : Int} (he : e ≠ 0) : Mn (fun st => (a, giveS st e)) := by
  refine ⟨fun S h => ?_, fun q r => ?_⟩
  · simp only [giveS_gave e h]
  · exact ⟨⟨fun h => absurd h he, fun _ _ => rfl⟩, fun _ => rfl⟩
theorem Mn.fail {α : Type} (a : α) (e : Int) : Mn (fun st => (a, failS st e)) := by
  unfold failS
  by_cases he : e = 0
  · simp only [he, ne_eq, not_true_eq_false, if_false]; exact Mn.pure a
  · simp only [ne_eq, he, not_false_eq_true, if_true]; exact Mn.give a he
theorem Mn.ite {α : Type} {c : Prop} [Decidable c] {f g : RS → α × RS} (hf : Mn f) (hg : Mn g) : Mn (fun st => if c then f st else g st) := by
  by_cases h : c
  · simp only [h, if_true]; exact hf
  · simp only [h, if_false]; exact hg
theorem Mn.guard {α : Type} (a : α) {f : RS → α × RS} (hf : Mn f) : Mn (fun st => if st.e ≠ 0 then (a, st) else f st) := by
  refine ⟨fun S h => ?_, fun q r => ?_⟩
  · simp only [ne_eq, h, not_false_eq_true, if_true]
  · simp only [ne_eq, not_true_eq_false, if_false]
    exact hf.mono q r
theorem Mn.of {α : Type} {f g : RS → α × RS} (h : ∀ st, f st = g st) (hg : Mn g) : Mn f := by obtain rfl : f = g := funext h; exact hg
/-- What was whole is too short where it is cut. -/
theorem Mn.cut {α : Type} {f : RS → α × RS} (h : Mn f) {q r : List Int} (hf : (f ⟨q ++ r, 0⟩).2 = ⟨[], 0⟩) (hr : r ≠ []) : (f ⟨q, 0⟩).2.e = 1 := by
  obtain ⟨⟨h1, h2⟩, -⟩ := h.mono q r
  refine Classical.byContradiction fun h3 => ?_
  by_cases h0 : (f ⟨q, 0⟩).2.e = 0
  · have := h1 h0
    rw [hf] at this
    have := congrArg RS.l this
    simp only at this
    exact hr (List.append_eq_nil_iff.1 this.symm).2
  · have := h2 h0 h3
    rw [hf] at this
    exact h0 this.symm

theorem digs_more : ∀ (l : List Int) (n v : Nat) (r : List Int), (digs l n v).2.2 ≠ 1 → digs (l ++ r) n v = digs l n v ∧ ((digs l n v).2.2 = 0 → (digs l n v).2.1 ≤ n + l.length) := by
  intro l
  induction l with
  | nil => intro n v r h; exact absurd rfl h
  | cons x l ih =>
    intro n v r h
    rw [List.cons_append]
    unfold digs at h ⊢
    by_cases h1 : n = 9 ∧ 1 < x
    · rw [if_pos h1, if_pos h1]; exact ⟨rfl, fun h => by cases h⟩
    · rw [if_neg h1, if_neg h1]
      rw [if_neg h1] at h
      by_cases h2 : 128 ≤ x
      · rw [if_pos h2, if_pos h2]
        rw [if_pos h2] at h
        obtain ⟨e1, e2⟩ := ih (n + 1) _ r h
        exact ⟨e1, fun h => by have := e2 h; rw [List.length_cons]; omega⟩
      · rw [if_neg h2, if_neg h2]
        split
        · exact ⟨rfl, fun h => by cases h⟩
        · exact ⟨rfl, fun _ => by rw [List.length_cons]; simp only; omega⟩
theorem giveS_zero (l : List Int) (e : Int) : giveS ⟨l, 0⟩ e = ⟨[], e⟩ := rfl
theorem Mn.uint (m : Nat) : Mn (uintR m) := by
  refine ⟨fun S h => ?_, fun q r => ?_⟩
  · unfold uintR
    simp only
    (repeat' split)
    · rw [giveS_gave _ h]
    · rw [giveS_gave _ h]
    · rfl
  · unfold uintR
    simp only [giveS_zero]
    by_cases h1 : (digs q 0 0).2.2 = 1
    · rw [if_pos (show (digs q 0 0).2.2 ≠ 0 by rw [h1]; decide)]
      exact ⟨⟨fun h => absurd (h1 ▸ h : (1 : Int) = 0) (by decide), fun _ h => absurd h1 h⟩, fun h => absurd (h1 ▸ h : (1 : Int) = 0) (by decide)⟩
    · obtain ⟨e1, e2⟩ := digs_more q 0 0 r h1
      rw [e1]
      by_cases h2 : (digs q 0 0).2.2 = 0
      · have h3 := e2 h2
        have h2' : ¬ ((digs q 0 0).2.2 ≠ 0) := by simpa using h2
        rw [if_neg h2', if_neg h2']
        by_cases h4 : m < (digs q 0 0).1
        · rw [if_pos h4, if_pos h4]; exact ⟨⟨fun h => absurd h (by decide), fun _ _ => rfl⟩, fun _ => rfl⟩
        · rw [if_neg h4, if_neg h4]
          refine ⟨⟨fun _ => ?_, fun h => absurd rfl h⟩, fun _ => rfl⟩
          simp only
          rw [List.drop_append_of_le_length (by omega)]
      · rw [if_pos h2, if_pos h2]
        exact ⟨⟨fun h => absurd h h2, fun _ _ => rfl⟩, fun _ => rfl⟩
theorem Mn.bytes (n : Nat) : Mn (bytesR n) := by
  refine ⟨fun S h => ?_, fun q r => ?_⟩
  · unfold bytesR
    split
    · rw [giveS_gave _ h]
    · rfl
  · unfold bytesR
    simp only [giveS_zero]
    by_cases h : q.length < n
    · rw [if_pos h]
      exact ⟨⟨fun h => absurd h (show ¬ ((1 : Int) = 0) by decide), fun _ h => absurd rfl h⟩, fun h => absurd h (show ¬ ((1 : Int) = 0) by decide)⟩
    · rw [if_neg h, if_neg (by rw [List.length_append]; omega)]
      refine ⟨⟨fun _ => ?_, fun h => absurd rfl h⟩, fun _ => ?_⟩
      · simp only
        rw [List.drop_append_of_le_length (by omega)]
      · simp only
        rw [List.take_append_of_le_length (by omega)]
theorem Mn.map {α β : Type} {f : RS → α × RS} (hf : Mn f) (k : α → β) : Mn (fun st => (k (f st).1, (f st).2)) := hf.bind (fun a => Mn.pure (k a))
theorem Mn.byte : Mn byteR := (Mn.bytes 1).map fun l => l.headD 0
theorem Mn.word : Mn wordR := (Mn.bytes 8).map ofBytes
theorem Mn.int : Mn intR := (Mn.uint _).map zag
theorem Mn.text (m : Nat) : Mn (textR m) := (Mn.uint m).bind fun n => Mn.bytes n
theorem Mn.float (ver : Int) : Mn (floatR ver) := Mn.ite Mn.word ((Mn.uint _).map rev)
theorem Mn.part (t : Bool) : Mn (partR t) := by
  unfold partR
  refine Mn.ite (f := fun st => ((floatR 2 st).1, if (floatR 2 st).1 = 0 then giveS (floatR 2 st).2 3 else (floatR 2 st).2)) ?_ (Mn.pure 0)
  refine (Mn.float 2).bind (g := fun x st => (x, if x = 0 then giveS st 3 else st)) fun x => ?_
  refine Mn.of (g := fun st => if x = 0 then (x, giveS st 3) else (x, st)) (fun st => by split <;> rfl) (Mn.ite (Mn.give x (by decide)) (Mn.pure x))
theorem Mn.complex (ver : Int) : Mn (complexR ver) := by
  unfold complexR
  refine Mn.ite (f := fun st => (((wordR st).1, (wordR (wordR st).2).1), (wordR (wordR st).2).2)) ?_ ?_
  · exact Mn.word.bind (g := fun a st => ((a, (wordR st).1), (wordR st).2)) fun a => Mn.word.map fun b => (a, b)
  · refine Mn.byte.bind (g := fun m st => let a := partR (decide (m % 2 = 1)) (if 3 < m then giveS st 4 else st); let b := partR (decide (m / 2 % 2 = 1)) a.2; ((a.1, b.1), b.2)) fun m => ?_
    refine Mn.bind (f := fun st => ((), if 3 < m then giveS st 4 else st)) (g := fun _ st => let a := partR (decide (m % 2 = 1)) st; let b := partR (decide (m / 2 % 2 = 1)) a.2; ((a.1, b.1), b.2)) ?_ fun _ => ?_
    · exact Mn.of (g := fun st => if 3 < m then ((), giveS st 4) else ((), st)) (fun st => by split <;> rfl) (Mn.ite (Mn.give _ (by decide)) (Mn.pure _))
    · exact (Mn.part _).bind (g := fun a st => ((a, (partR (decide (m / 2 % 2 = 1)) st).1), (partR (decide (m / 2 % 2 = 1)) st).2)) fun a => (Mn.part _).map fun b => (a, b)
theorem Mn.body (kind ver : Int) : Mn (bodyR kind ver) := by
  unfold bodyR
  refine Mn.ite (Mn.byte.map fun x => (⟨kind, x, 0, 0, ByteArray.empty⟩ : V)) (Mn.ite (Mn.ite (Mn.word.map fun x => (⟨kind, toI64 x, 0, 0, ByteArray.empty⟩ : V)) (Mn.int.map fun x => (⟨kind, x, 0, 0, ByteArray.empty⟩ : V))) (Mn.ite ((Mn.float ver).map fun x => (⟨kind, 0, x, 0, ByteArray.empty⟩ : V)) (Mn.ite ((Mn.complex ver).map fun x => (⟨kind, 0, x.1, x.2, ByteArray.empty⟩ : V)) (Mn.ite ((Mn.text 2048).map fun x => (⟨kind, 0, 0, 0, strOfNums x⟩ : V)) (Mn.pure _)))))
theorem Mn.value (kind ver : Int) : Mn (takeV kind ver) := by
  unfold takeV
  refine Mn.ite (f := fun st => if (failS (bodyR kind ver st).2 (bodyR kind ver st).1.right).e ≠ 0 then (V.zero, failS (bodyR kind ver st).2 (bodyR kind ver st).1.right) else ((bodyR kind ver st).1, failS (bodyR kind ver st).2 (bodyR kind ver st).1.right)) ?_ (Mn.give _ (by decide))
  refine (Mn.body kind ver).bind (g := fun v st => if (failS st v.right).e ≠ 0 then (V.zero, failS st v.right) else (v, failS st v.right)) fun v => ?_
  exact (Mn.fail () v.right).bind (g := fun _ st => if st.e ≠ 0 then (V.zero, st) else (v, st)) fun _ => Mn.guard _ (Mn.pure v)
theorem Mn.large : Mn largeR := by
  refine (Mn.uint 2048).bind (g := fun x st => (x, if x ≤ 64 then giveS st 4 else st)) fun x => ?_
  exact Mn.of (g := fun st => if x ≤ 64 then (x, giveS st 4) else (x, st)) (fun st => by split <;> rfl) (Mn.ite (Mn.give _ (by decide)) (Mn.pure _))
theorem Mn.textK {f : RS → List Int × RS} (hf : Mn f) (kind : Int) : Mn (fun st => textK kind (f st)) :=
  hf.bind (g := fun (l : List Int) (st : RS) => (((⟨2, ⟨kind, 0, 0, 0, strOfNums l⟩⟩ : K), 0), failS st (rightV kind 0 (0 : Nat) (0 : Nat) (strOfNums l)))) fun _ => Mn.fail _ _
theorem Mn.first (kind : Int) : Mn (firstC kind) := by
  unfold firstC
  refine Mn.byte.bind (g := fun t st => if st.e ≠ 0 then ((K.zero, 0), st) else if 2 < t ∨ (t ≠ 1 ∧ kind ≠ 5 ∧ kind ≠ 6) then ((K.zero, 0), giveS st 7) else if t = 0 then ((⟨1, V.zero⟩, 0), st) else if t = 2 then ((fullT kind, (largeR st).1), (largeR st).2) else if kind = 5 ∨ kind = 6 then Go.Proofs.Ytdbepkfblfhlhaa.textK kind (textR 64 st) else ((⟨2, (takeV kind 1 st).1⟩, 0), (takeV kind 1 st).2)) fun t => ?_
  exact Mn.guard _ (Mn.ite (Mn.give _ (by decide)) (Mn.ite (Mn.pure _) (Mn.ite (Mn.large.map fun x => (fullT kind, x)) (Mn.ite ((Mn.text 64).textK kind) ((Mn.value kind 1).map fun v => ((⟨2, v⟩ : K), 0))))))
theorem Mn.second (kind : Int) : Mn (secondC kind) := by
  unfold secondC
  refine (Mn.uint 66).bind (g := fun t st => if st.e ≠ 0 then ((K.zero, 0), st) else if t = 0 then ((⟨1, V.zero⟩, 0), st) else if t = 1 then ((fullT kind, (largeR st).1), (largeR st).2) else Go.Proofs.Ytdbepkfblfhlhaa.textK kind (bytesR (t - 2) st)) fun t => ?_
  exact Mn.guard _ (Mn.ite (Mn.pure _) (Mn.ite (Mn.large.map fun x => (fullT kind, x)) ((Mn.bytes _).textK kind)))
theorem Mn.pre (kind ver : Int) : Mn (preC kind ver) := by
  unfold preC
  exact Mn.ite (Mn.give _ (by decide)) (Mn.ite (Mn.give _ (by decide)) (Mn.ite (Mn.first kind) (Mn.ite (Mn.second kind) ((Mn.value kind 2).map fun v => ((⟨2, v⟩ : K), 0)))))
theorem Mn.cell (kind ver : Int) : Mn (takeC kind ver) := by
  unfold takeC finC
  exact (Mn.pre kind ver).bind (g := fun a st => if st.e ≠ 0 then ((K.zero, 0), st) else (a, st)) fun a => Mn.guard _ (Mn.pure a)

theorem Mn.up (nulls : List Bool) (cols : List Col) (ver : Int) : ∀ k, Mn (fun st => tkUp nulls cols ver st k)
  | 0 => Mn.pure _
  | k + 1 => by
    have ih := Mn.up nulls cols ver k
    by_cases h : k < nulls.length ∧ k < cols.length
    · cases hb : nulls[k]'h.1 with
      | true =>
        refine Mn.of (g := fun st => (((tkUp nulls cols ver st k).1.1 ++ [K.zero], (tkUp nulls cols ver st k).1.2), (tkUp nulls cols ver st k).2)) (fun st => tkUp_null h.1 h.2 hb) ?_
        exact ih.map fun a => (a.1 ++ [K.zero], a.2)
      | false =>
        refine Mn.of (g := fun st => (((tkUp nulls cols ver st k).1.1 ++ [(takeC (cols[k]'h.2).ty ver (tkUp nulls cols ver st k).2).1.1], if 0 < (takeC (cols[k]'h.2).ty ver (tkUp nulls cols ver st k).2).1.2 then (tkUp nulls cols ver st k).1.2 ++ [⟨k, ((takeC (cols[k]'h.2).ty ver (tkUp nulls cols ver st k).2).1.2 : Nat)⟩] else (tkUp nulls cols ver st k).1.2), (takeC (cols[k]'h.2).ty ver (tkUp nulls cols ver st k).2).2)) (fun st => tkUp_cell h.1 h.2 hb rfl) ?_
        exact ih.bind (g := fun a st => ((a.1 ++ [(takeC (cols[k]'h.2).ty ver st).1.1], if 0 < (takeC (cols[k]'h.2).ty ver st).1.2 then a.2 ++ [⟨k, ((takeC (cols[k]'h.2).ty ver st).1.2 : Nat)⟩] else a.2), (takeC (cols[k]'h.2).ty ver st).2)) fun a =>
          (Mn.cell _ ver).map fun c => (a.1 ++ [c.1], if 0 < c.2 then a.2 ++ [⟨k, (c.2 : Nat)⟩] else a.2)
    · refine Mn.of (g := fun st => tkUp nulls cols ver st k) (fun st => ?_) ih
      conv => lhs; unfold tkUp
      rw [dif_neg h]
theorem Mn.row (r : Rl) (ver : Int) : Mn (takeT r ver) := by
  refine Mn.of (g := fun st => (fun (_ : Unit) (S : RS) => if S.e ≠ 0 then ((([], []) : List K × List Ho), S) else (fun (b : List Int) (S : RS) => if S.e ≠ 0 then ((([], []) : List K × List Ho), S) else finT (tkUp (unmapL b r.cols.length).1 r.cols ver (failS S (unmapL b r.cols.length).2) (unmapL b r.cols.length).1.length)) (bytesR (mapSize r.cols.length) S).1 (bytesR (mapSize r.cols.length) S).2) ((), begR r ver st).1 ((), begR r ver st).2) (fun st => by unfold takeT; rfl) ?_
  refine Mn.bind (f := fun st => ((), begR r ver st)) (g := fun (_ : Unit) (S : RS) => if S.e ≠ 0 then ((([], []) : List K × List Ho), S) else (fun (b : List Int) (S : RS) => if S.e ≠ 0 then ((([], []) : List K × List Ho), S) else finT (tkUp (unmapL b r.cols.length).1 r.cols ver (failS S (unmapL b r.cols.length).2) (unmapL b r.cols.length).1.length)) (bytesR (mapSize r.cols.length) S).1 (bytesR (mapSize r.cols.length) S).2) ?_ fun _ => ?_
  · unfold begR
    refine Mn.of (g := fun st => if ver = 1 ∨ ver = 2 then ((), failS st r.right) else ((), giveS (failS st r.right) 18)) (fun st => by split <;> rfl) (Mn.ite (Mn.fail _ _) ?_)
    exact (Mn.fail () r.right).bind (g := fun _ st => ((), giveS st 18)) fun _ => Mn.give _ (by decide)
  · refine Mn.guard _ ((Mn.bytes (mapSize r.cols.length)).bind (g := fun (b : List Int) (S : RS) => if S.e ≠ 0 then ((([], []) : List K × List Ho), S) else finT (tkUp (unmapL b r.cols.length).1 r.cols ver (failS S (unmapL b r.cols.length).2) (unmapL b r.cols.length).1.length)) fun b => Mn.guard _ ?_)
    refine (Mn.fail () (unmapL b r.cols.length).2).bind (g := fun _ S => finT (tkUp (unmapL b r.cols.length).1 r.cols ver S (unmapL b r.cols.length).1.length)) fun _ => ?_
    unfold finT
    refine (Mn.up _ _ ver _).bind (g := fun a S => if S.e ≠ 0 then ((([], []) : List K × List Ho), S) else (a, S)) fun a => Mn.guard _ (Mn.pure a)

theorem takeT_bad {r : Rl} {ver : Int} {st : RS} (h : (takeT r ver st).2.e ≠ 0) : (takeT r ver st).1 = ([], []) := by
  unfold takeT at h ⊢
  split
  · rfl
  · rename_i h1
    rw [if_neg h1] at h
    split
    · rfl
    · rename_i h2
      rw [if_neg h2] at h
      unfold finT at h ⊢
      split
      · rfl
      · rename_i h3
        rw [if_neg h3] at h
        exact absurd h h3

end Go.Proofs.Ytdbepkfblfhlhaa
