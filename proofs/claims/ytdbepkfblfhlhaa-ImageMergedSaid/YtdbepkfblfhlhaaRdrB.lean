import Derived.Test.YtdbepkfblfhlhaaRefRight
import Derived.Scope
import Derived.WalkMore
import Derived.Test.YtdbepkfblfhlhaaRdr
import Derived.Test.YtdbepkfblfhlhaaTakeV
/-
A scope in which the run jumps to more than one label.
-/
namespace Go.Proofs.Ytdbepkfblfhlhaa
open Go.RowKit

/-- By a goto to label l: J l; else as Q. -/
def jumps (J : Nat → Act → World → Prop) (Q : Exit → Act → World → Prop) : Exit → Act → World → Prop
  | .goto l, a, w => J l a w
  | e, a, w => Q e a w

theorem wp_scope_labels {P : Program} {a : Act} {w : World} {Q : Exit → Act → World → Prop} {c : Code} (rest : Nat → Code) (J : Nat → Act → World → Prop) (μ : Nat → Act → World → Nat) (hf : ∀ l a w, J l a w → findLabel c l = some (rest l))
    (first : c.wp P (jumps J Q) a w)
    (pass : ∀ l a w, J l a w → (rest l).wp P (jumps (fun l' a' w' => J l' a' w' ∧ μ l' a' w' < μ l a w) Q) a w) : (Code.scope c).wp P Q a w := by
  intro b k cs
  have hg : ∀ l a w, J l a w → gotoIn l (.inScope c :: k) = some (.code (rest l) :: .inScope c :: k) := fun l a w h => by simp [gotoIn, hf l a w h]
  have key : ∀ n l a w, μ l a w = n → J l a w → ∃ e a' w', Q e a' w' ∧ Arrives P (lone (b.at a (.code (rest l) :: .inScope c :: k)) cs w) b k cs e a' w' := by
    intro n
    induction n using Nat.strongRecOn with
    | _ n ih =>
      intro l a w hn hJ
      obtain ⟨e, a₁, w₁, hq, harr⟩ := pass l a w hJ b (.inScope c :: k) cs
      cases e with
      | normal => exact ⟨.normal, a₁, w₁, hq, Steps.trans harr (.one step_inScope)⟩
      | exit id => exact ⟨.exit id, a₁, w₁, hq, fun k' hk => harr k' (by simp [exitTo, hk])⟩
      | goto l' =>
        obtain ⟨hJ', hlt⟩ := hq
        obtain ⟨e₂, a₂, w₂, hq₂, harr₂⟩ := ih _ (by omega) l' a₁ w₁ rfl hJ'
        exact ⟨e₂, a₂, w₂, hq₂, .of_steps (harr _ (hg _ _ _ hJ')) harr₂⟩
      | ret => exact ⟨_, a₁, w₁, hq, harr⟩
      | panic ch => exact ⟨_, a₁, w₁, hq, harr⟩
      | outgrown => exact ⟨_, a₁, w₁, hq, harr⟩
  obtain ⟨e, a₁, w₁, hq, harr⟩ := first b (.inScope c :: k) cs
  cases e with
  | normal => exact ⟨.normal, a₁, w₁, hq, .head step_scope (Steps.trans harr (.one step_inScope))⟩
  | exit id => exact ⟨.exit id, a₁, w₁, hq, fun k' hk => .head step_scope (harr k' (by simp [exitTo, hk]))⟩
  | goto l' =>
    obtain ⟨e₂, a₂, w₂, hq₂, harr₂⟩ := key _ l' a₁ w₁ rfl hq
    exact ⟨e₂, a₂, w₂, hq₂, .of_steps (.head step_scope (harr _ (hg _ _ _ hq))) harr₂⟩
  | ret => exact ⟨_, a₁, w₁, hq, .of_steps (.one step_scope) harr⟩
  | panic ch => exact ⟨_, a₁, w₁, hq, .of_steps (.one step_scope) harr⟩
  | outgrown => exact ⟨_, a₁, w₁, hq, .of_steps (.one step_scope) harr⟩

/-- By a goto to label 0: J0; to label 1: J1; else as Q. -/
def jumps2 (J0 J1 : Act → World → Prop) (Q : Exit → Act → World → Prop) : Exit → Act → World → Prop := jumps (fun l a w => (l = 0 ∧ J0 a w) ∨ (l = 1 ∧ J1 a w)) Q
theorem jumps2_zero {J0 J1 : Act → World → Prop} {Q : Exit → Act → World → Prop} {a : Act} {w : World} (h : J0 a w) : jumps2 J0 J1 Q (.goto 0) a w := .inl ⟨rfl, h⟩
theorem jumps2_one {J0 J1 : Act → World → Prop} {Q : Exit → Act → World → Prop} {a : Act} {w : World} (h : J1 a w) : jumps2 J0 J1 Q (.goto 1) a w := .inr ⟨rfl, h⟩
theorem jumps2_ret {J0 J1 : Act → World → Prop} {Q : Exit → Act → World → Prop} {a : Act} {w : World} (h : Q .ret a w) : jumps2 J0 J1 Q .ret a w := h
theorem jumps2_mono {J0 J1 J0' J1' : Act → World → Prop} {Q : Exit → Act → World → Prop} (h0 : ∀ a w, J0 a w → J0' a w) (h1 : ∀ a w, J1 a w → J1' a w) : ∀ e a w, jumps2 J0 J1 Q e a w → jumps2 J0' J1' Q e a w := by
  intro e a w h
  cases e with
  | goto l => exact h.imp (fun ⟨x, y⟩ => ⟨x, h0 _ _ y⟩) (fun ⟨x, y⟩ => ⟨x, h1 _ _ y⟩)
  | normal => exact h
  | exit id => exact h
  | ret => exact h
  | panic c => exact h
  | outgrown => exact h

theorem skip_seq {P : Program} {a : Act} {w : World} {Q : Exit → Act → World → Prop} {c : Code} (h : c.wp P Q a w) : (Code.skip.seq c).wp P Q a w := wp_seq (wp_skip h)
theorem wp_scope_two {P : Program} {a : Act} {w : World} {Q : Exit → Act → World → Prop} {c X0 X1 : Code} (J0 J1 : Act → World → Prop) (μ : Act → World → Nat) (h0 : findLabel c 0 = some (Code.skip.seq X0)) (h1 : findLabel c 1 = some (Code.skip.seq X1))
    (first : (∀ a w, J0 a w → X0.wp P (jumps2 J0 J1 Q) a w) → c.wp P (jumps2 J0 J1 Q) a w)
    (pass0 : ∀ a w, J0 a w → X0.wp P (jumps2 (fun a' w' => J0 a' w' ∧ μ a' w' < μ a w) J1 Q) a w)
    (pass1 : ∀ a w, J1 a w → X1.wp P (jumps2 (fun _ _ => False) (fun _ _ => False) Q) a w) : (Code.scope c).wp P Q a w := by
  refine wp_scope_labels (fun l => if l = 0 then Code.skip.seq X0 else Code.skip.seq X1) (fun l a w => (l = 0 ∧ J0 a w) ∨ (l = 1 ∧ J1 a w)) (fun l a w => if l = 0 then μ a w + 1 else 0) ?_ (first fun a w h => wp_mono (pass0 a w h) (jumps2_mono (fun _ _ h => h.1) (fun _ _ h => h))) ?_
  · rintro l a w (⟨rfl, _⟩ | ⟨rfl, _⟩)
    · exact h0
    · exact h1
  · rintro l a w (⟨rfl, h⟩ | ⟨rfl, h⟩)
    · refine skip_seq (wp_mono (pass0 a w h) ?_)
      intro e a' w' he
      cases e with
      | goto l' =>
        rcases he with ⟨rfl, hj, hlt⟩ | ⟨rfl, hj⟩
        · exact ⟨.inl ⟨rfl, hj⟩, by simpa using hlt⟩
        · exact ⟨.inr ⟨rfl, hj⟩, by simp⟩
      | normal => exact he
      | exit id => exact he
      | ret => exact he
      | panic c => exact he
      | outgrown => exact he
    · refine skip_seq (wp_mono (pass1 a w h) ?_)
      intro e a' w' he
      cases e with
      | goto l' => rcases he with ⟨_, hj⟩ | ⟨_, hj⟩ <;> exact hj.elim
      | normal => exact he
      | exit id => exact he
      | ret => exact he
      | panic c => exact he
      | outgrown => exact he

end Go.Proofs.Ytdbepkfblfhlhaa

/-
The program's reader: what it tells; its digits.
-/
namespace Go.Proofs.Ytdbepkfblfhlhaa
open Go.RowKit

set_option maxRecDepth 100000 in set_option maxHeartbeats 1600000 in
theorem fail_any (g d : Nat) (st : RS) (x : Int) (w : World) (h : RD w g d st) :
    Calls Try.prog 86 #[.pointer (some ⟨g, 0, none⟩), .int .i64 x] w (RPost g d w (.tuple #[]) (failS st x)) := by
  have H := Hid.mk' h
  clear h
  by_cases hx : x = 0
  · subst hx
    go_enter Try.func86, Try.ntmps86
    go_wp2
    go_end0
    exact ⟨rfl, by unfold failS; rw [if_neg (by decide)]; exact H.out, Tch.refl g w⟩
  · have hx2 : (x != 0) = true := by simpa using hx
    have HX := Hid.mk' hx
    clear hx
    go_enter Try.func86, Try.ntmps86
    go_wp2_with (go_at_call 121; refine (giveUp_any g d st x _ H.out HX.out).mono ?_; rintro e w1 ⟨rfl, hr, ht⟩; have HR := Hid.mk' hr; have HT := Hid.mk' ht; clear hr ht)
    go_end0
    exact ⟨rfl, by unfold failS; rw [if_pos HX.out]; exact HR.out, HT.out⟩

set_option maxRecDepth 100000 in set_option maxHeartbeats 1600000 in
theorem rerr_any (g d : Nat) (st : RS) (w : World) (h : RD w g d st) :
    Calls Try.prog 52 #[.pointer (some ⟨g, 0, none⟩)] w fun e w' => e = .returned (.int .i64 st.e) ∧ w = w' := by
  obtain ⟨v, hb, hsb, hok, hlen⟩ := h
  have hc := hb.cell
  clear hb
  go_enter Try.func52, Try.ntmps52
  go_wp2
  go_ret
  exact ⟨rfl, rfl⟩

set_option maxRecDepth 100000 in set_option maxHeartbeats 1600000 in
theorem rleft_any (g d : Nat) (st : RS) (w : World) (h : RD w g d st) :
    Calls Try.prog 53 #[.pointer (some ⟨g, 0, none⟩)] w fun e w' => e = .returned (.int .i64 st.l.length) ∧ w = w' := by
  obtain ⟨v, hb, ⟨a, cap, rfl, hlc, hnc, hs⟩, hok, hlen⟩ := h
  have hc := hb.cell
  clear hb hlc hnc
  go_enter Try.func53, Try.ntmps53
  go_wp2
  go_ret
  exact ⟨rfl, rfl⟩

set_option maxRecDepth 100000 in set_option maxHeartbeats 1600000 in
theorem rend_any (g d : Nat) (st : RS) (w : World) (h : RD w g d st) :
    Calls Try.prog 55 #[.pointer (some ⟨g, 0, none⟩)] w fun e w' => e = .returned (.int .i64 (endE st)) ∧ w = w' := by
  obtain ⟨v, hb, ⟨a, cap, rfl, hlc, hnc, hs⟩, hok, hlen⟩ := h
  have hc := hb.cell
  clear hb hlc hnc
  obtain ⟨L, E⟩ := st
  simp only at *
  go_enter Try.func55, Try.ntmps55
  by_cases hE : E = 0
  · subst hE
    cases L with
    | nil =>
      go_wp2
      go_ret
      exact ⟨rfl, rfl⟩
    | cons x L =>
      have hpos : (0 : Int) < ((L.length + 1 : Nat) : Int) := by omega
      simp only [List.length_cons] at *
      go_wp2
      go_ret
      exact ⟨rfl, rfl⟩
  · have HE : Hid (endE ⟨L, E⟩ = E) := Hid.mk' (by unfold endE; rw [if_neg (fun h => hE h.1)])
    have hE1 : (E == 0) = false := by simpa using hE
    go_wp2
    go_ret
    exact ⟨ret_int HE.out.symm, rfl⟩

set_option maxRecDepth 100000 in set_option maxHeartbeats 1600000 in
theorem read_any (v : Value) (l : List Int) (w : World) (hl : Sl w v 1 (l.map bcell)) (hlen : l.length ≤ 1000000) (hb : isB l) :
    Calls Try.prog 49 #[v] w fun e w' => ∃ g, e = .returned (.pointer (some ⟨g, 0, none⟩)) ∧ w.heap.size ≤ g ∧ RD w' g w.heap.size ⟨l, 0⟩ ∧ Ext w w' := by
  have HL := Hid.mk' hl
  have HB := Hid.mk' hb
  clear hl hb
  go_enter Try.func49, Try.ntmps49
  go_wp2_with (go_at_call 85; refine (clone_any v l _ HL.out hlen).mono ?_; rintro e w1 ⟨v1, rfl, ho1, hb1⟩; obtain ⟨a1, cap1, rfl⟩ := ho1.shape; have HO1 := Hid.mk' ho1; have HE1 := Hid.mk' hb1; clear ho1 hb1)
  go_ret
  exact ⟨_, rfl, HE1.out.size, ⟨_, Blk.new _ _ _, (SB.of_own HO1.out (Nat.le_refl _)).ext ((Ext.refl w1).alloc _), ⟨fun h => absurd rfl h, HB.out⟩, hlen⟩, HE1.out.alloc _⟩

end Go.Proofs.Ytdbepkfblfhlhaa
