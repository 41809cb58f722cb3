/-
A scope in which the run jumps to more than one label.
-/
import Derived.Test.YtmpnopjkpamhaaaBase
import Derived.Scope
import Derived.WalkMore
namespace Go.Proofs.Ytmpnopjkpamhaaa
open Go.RowKit

/-- By a goto to label l: J l; else as Q. -/
def jumps (J : Nat → Act → World → Prop) (Q : Exit → Act → World → Prop) : Exit → Act → World → Prop
  | .goto l, a, w => J l a w
  | e, a, w => Q e a w

theorem wp_scope_labels {P : Program} {a : Act} {w : World} {Q : Exit → Act → World → Prop} {c : Code} (rest : Nat → Code) (J : Nat → Act → World → Prop) (μ : Nat → Act → World → Nat) (hf : ∀ l a w, J l a w → findLabel c l = some (rest l))
    (first : c.wp P (jumps J Q) a w)
    (pass : ∀ l a w, J l a w → (rest l).wp P (jumps (fun l' a' w' => J l' a' w' ∧ μ l' a' w' < μ l a w) Q) a w) : (Code.scope c).wp P Q a w := by
  intro b k cs
  have hg : ∀ l a w, J l a w → gotoIn l (.inScope c :: k) = some (.code (rest l) :: .inScope c :: k) := fun l a w h => by simp [gotoIn, hf l a w h]
  have key : ∀ n l a w, μ l a w = n → J l a w → ∃ e a' w', Q e a' w' ∧ Arrives P (lone (b.at a (.code (rest l) :: .inScope c :: k)) cs w) b k cs e a' w' := by
    intro n
    induction n using Nat.strongRecOn with
    | _ n ih =>
      intro l a w hn hJ
      obtain ⟨e, a₁, w₁, hq, harr⟩ := pass l a w hJ b (.inScope c :: k) cs
      cases e with
      | normal => exact ⟨.normal, a₁, w₁, hq, Steps.trans harr (.one step_inScope)⟩
      | exit id => exact ⟨.exit id, a₁, w₁, hq, fun k' hk => harr k' (by simp [exitTo, hk])⟩
      | goto l' =>
        obtain ⟨hJ', hlt⟩ := hq
        obtain ⟨e₂, a₂, w₂, hq₂, harr₂⟩ := ih _ (by omega) l' a₁ w₁ rfl hJ'
        exact ⟨e₂, a₂, w₂, hq₂, .of_steps (harr _ (hg _ _ _ hJ')) harr₂⟩
      | ret => exact ⟨_, a₁, w₁, hq, harr⟩
      | panic ch => exact ⟨_, a₁, w₁, hq, harr⟩
      | outgrown => exact ⟨_, a₁, w₁, hq, harr⟩
  obtain ⟨e, a₁, w₁, hq, harr⟩ := first b (.inScope c :: k) cs
  cases e with
  | normal => exact ⟨.normal, a₁, w₁, hq, .head step_scope (Steps.trans harr (.one step_inScope))⟩
  | exit id => exact ⟨.exit id, a₁, w₁, hq, fun k' hk => .head step_scope (harr k' (by simp [exitTo, hk]))⟩
  | goto l' =>
    obtain ⟨e₂, a₂, w₂, hq₂, harr₂⟩ := key _ l' a₁ w₁ rfl hq
    exact ⟨e₂, a₂, w₂, hq₂, .of_steps (.head step_scope (harr _ (hg _ _ _ hq))) harr₂⟩
  | ret => exact ⟨_, a₁, w₁, hq, .of_steps (.one step_scope) harr⟩
  | panic ch => exact ⟨_, a₁, w₁, hq, .of_steps (.one step_scope) harr⟩
  | outgrown => exact ⟨_, a₁, w₁, hq, .of_steps (.one step_scope) harr⟩

/-- By a goto to label 0: J0; to label 1: J1; else as Q. -/
def jumps2 (J0 J1 : Act → World → Prop) (Q : Exit → Act → World → Prop) : Exit → Act → World → Prop := jumps (fun l a w => (l = 0 ∧ J0 a w) ∨ (l = 1 ∧ J1 a w)) Q
theorem jumps2_zero {J0 J1 : Act → World → Prop} {Q : Exit → Act → World → Prop} {a : Act} {w : World} (h : J0 a w) : jumps2 J0 J1 Q (.goto 0) a w := .inl ⟨rfl, h⟩
theorem jumps2_one {J0 J1 : Act → World → Prop} {Q : Exit → Act → World → Prop} {a : Act} {w : World} (h : J1 a w) : jumps2 J0 J1 Q (.goto 1) a w := .inr ⟨rfl, h⟩
theorem jumps2_ret {J0 J1 : Act → World → Prop} {Q : Exit → Act → World → Prop} {a : Act} {w : World} (h : Q .ret a w) : jumps2 J0 J1 Q .ret a w := h
theorem jumps2_mono {J0 J1 J0' J1' : Act → World → Prop} {Q : Exit → Act → World → Prop} (h0 : ∀ a w, J0 a w → J0' a w) (h1 : ∀ a w, J1 a w → J1' a w) : ∀ e a w, jumps2 J0 J1 Q e a w → jumps2 J0' J1' Q e a w := by
  intro e a w h
  cases e with
  | goto l => exact h.imp (fun ⟨x, y⟩ => ⟨x, h0 _ _ y⟩) (fun ⟨x, y⟩ => ⟨x, h1 _ _ y⟩)
  | normal => exact h
  | exit id => exact h
  | ret => exact h
  | panic c => exact h
  | outgrown => exact h

theorem skip_seq {P : Program} {a : Act} {w : World} {Q : Exit → Act → World → Prop} {c : Code} (h : c.wp P Q a w) : (Code.skip.seq c).wp P Q a w := wp_seq (wp_skip h)
theorem wp_scope_two {P : Program} {a : Act} {w : World} {Q : Exit → Act → World → Prop} {c X0 X1 : Code} (J0 J1 : Act → World → Prop) (μ : Act → World → Nat) (h0 : findLabel c 0 = some (Code.skip.seq X0)) (h1 : findLabel c 1 = some (Code.skip.seq X1))
    (first : (∀ a w, J0 a w → X0.wp P (jumps2 J0 J1 Q) a w) → c.wp P (jumps2 J0 J1 Q) a w)
    (pass0 : ∀ a w, J0 a w → X0.wp P (jumps2 (fun a' w' => J0 a' w' ∧ μ a' w' < μ a w) J1 Q) a w)
    (pass1 : ∀ a w, J1 a w → X1.wp P (jumps2 (fun _ _ => False) (fun _ _ => False) Q) a w) : (Code.scope c).wp P Q a w := by
  refine wp_scope_labels (fun l => if l = 0 then Code.skip.seq X0 else Code.skip.seq X1) (fun l a w => (l = 0 ∧ J0 a w) ∨ (l = 1 ∧ J1 a w)) (fun l a w => if l = 0 then μ a w + 1 else 0) ?_ (first fun a w h => wp_mono (pass0 a w h) (jumps2_mono (fun _ _ h => h.1) (fun _ _ h => h))) ?_
  · rintro l a w (⟨rfl, _⟩ | ⟨rfl, _⟩)
    · exact h0
    · exact h1
  · rintro l a w (⟨rfl, h⟩ | ⟨rfl, h⟩)
    · refine skip_seq (wp_mono (pass0 a w h) ?_)
      intro e a' w' he
      cases e with
      | goto l' =>
        rcases he with ⟨rfl, hj, hlt⟩ | ⟨rfl, hj⟩
        · exact ⟨.inl ⟨rfl, hj⟩, by simpa using hlt⟩
        · exact ⟨.inr ⟨rfl, hj⟩, by simp⟩
      | normal => exact he
      | exit id => exact he
      | ret => exact he
      | panic c => exact he
      | outgrown => exact he
    · refine skip_seq (wp_mono (pass1 a w h) ?_)
      intro e a' w' he
      cases e with
      | goto l' => rcases he with ⟨_, hj⟩ | ⟨_, hj⟩ <;> exact hj.elim
      | normal => exact he
      | exit id => exact he
      | ret => exact he
      | panic c => exact he
      | outgrown => exact he

end Go.Proofs.Ytmpnopjkpamhaaa
