/-
TotalTurned holds: for every input the call returns true, and each argument reads behind it as it did.
-/
import Derived.Test.YtkofnmbkfaebcaaTurned
import Derived.Test.YtkofnmbkfaebcaaOpenR
namespace Go.Proofs.Ytkofnmbkfaebcaa
open Go.RowKit Go.ChangeShapes Go.WideShapes Go.ChangeAt

theorem Try.flatPr : flat Try.prog 4 24 = some [23, 23] := by kernel_rfl
theorem Try.cellsPr : Try.prog.cellsOf 24 = 2 := by kernel_rfl
theorem okWide_arr {P : Program} {w : World} {r : Reach} {base : Nat} {t e : TypeId} {v : Value} {n : Nat} (ht : P.underlying t = some (.array n e)) (h : Value.okWide P w r base t v) : ∃ cs, v = .agg cs ∧ cs.size = P.cellsOf t := by
  simp only [Value.okWide, ht] at h
  obtain ⟨cs, h1, h2, _⟩ := h
  exact ⟨cs, h1, h2⟩

section
variable {H : Type} {enc : TypeId × Value → H} {w : World} {base : Nat} {spare : Nat → Bool} {held : Bool}
/-- A pair of the arguments, opened. -/
theorem open_Pr {n : Nat} {cs : List Value} {x : DataW H × List MemPlace} (h : DataW.trod enc Try.prog w base spare held n 24 cs = some x) : ∃ p : Pr, cs = prCells p ∧ True := by
  have hl := flat_open 4 _ _ n cs x Try.flatPr h
  match cs, hl with
  | [c0, c1], ⟨l0, l1, _⟩ =>
    obtain ⟨a, rfl, h0⟩ := l0.int Try.underlying23
    obtain ⟨b, rfl, h1⟩ := l1.int Try.underlying23
    exact ⟨(a, b), rfl, trivial⟩
end

set_option maxRecDepth 100000 in
theorem totalTurned_lifted (os : Os) (started : os.Started) (H : Type) (enc : TypeId × Value → H) :
    ReturnsInHanded {} Try.checked os 3 .any (Rows.totalTurnedSpec.pre6 enc Try.prog Try.f3 Rows.totalTurnedRow.domain false) (Rows.totalTurnedSpec.post enc Try.prog Try.f3 false true false false) := by
  refine returnsInHanded_of_change (C := Try.checked) Try.own started (by kernel_rfl) Try.func3
    (ChangeSpec.witness6 (enc := enc) (C := Try.checked) false ⟨#[], #[.slice none 0 0, .agg #[.int .i16 0, .int .i16 0]], []⟩ 8 (by kernel_rfl) (by kernel_rfl) (by kernel_rfl) (by kernel_rfl)) ?_
  intro W base args ds gs before hval0 hW hcnd _
  have hval : ∀ (j : Nat) t v, Try.f3.params[j]? = some t → args[j]? = some v → Value.okWide Try.prog W .any base t v := hval0
  have hW' := hW
  obtain ⟨p, q, hA0, hV, rfl, hfz, hnd⟩ := hW
  have hA : DataW.TrodAll enc Try.prog W 0 (fun _ => true) true Try.f3.params.toList args.toList ds p := hA0
  rw [Try.params3] at hA hval
  obtain ⟨v0, v1, d0, d1, p0, p1, rfl, rfl, rfl, h0, h1⟩ := trodAll_two hA
  obtain ⟨rfl, rfl⟩ := trodVars_none hV
  obtain ⟨a, len, cap, rfl⟩ := okWide_slice Try.underlying22 (hval 0 22 v0 rfl rfl)
  obtain ⟨n0, hn0⟩ := h0
  obtain ⟨v', xss, hcs, hsl, hlen, hx⟩ := trod_sl Try.underlying22 Try.cellsPr (by decide) hn0
  have ev : v' = .slice a len cap := by simpa [Value.cells] using hcs.symm
  obtain ⟨l, rfl, hl⟩ := exists_map (f := prCells) (p := fun _ => True) xss (fun xs hxs => by
    obtain ⟨_, n, x, h⟩ := hx xs hxs
    exact open_Pr h)
  rw [ev] at hsl
  obtain ⟨cs, rfl, hsz⟩ := okWide_arr Try.underlying24 (hval 1 24 v1 rfl rfl)
  obtain ⟨n1, hn1⟩ := h1
  obtain ⟨⟨c, d⟩, hr, _⟩ := open_Pr hn1
  have ecs : cs = #[.int .i16 c, .int .i16 d] := Array.toList_inj.1 hr
  subst ecs
  refine (turned_any l _ c d W hsl (by simpa using hlen)).mono fun e W' ⟨he, hE⟩ => ?_
  subst he
  exact ⟨_, rfl, post_law Try.laidOut Try.underlying4 (by kernel_rfl) (by kernel_rfl) rfl hW' rfl rfl rfl hE⟩

theorem totalTurned_holds : Rows.TotalTurnedSaid :=
  OpenClaim.holds_of_wide 3 Try.f3 rfl rfl rfl rfl rfl rfl rfl ⟨rfl, rfl, rfl, rfl, rfl⟩ rfl rfl rfl rfl rfl (by kernel_rfl) Try.func3 (by kernel_rfl)
    (of_decide_eq_true (by kernel_rfl)) (by unfold Func.isWrapper; first | (rw [if_pos (by decide +kernel)]; kernel_rfl) | (rw [if_neg (by decide +kernel)]; exact ⟨rfl, rfl⟩))
    (fun os started H enc _ => totalTurned_lifted os started H enc)
#print axioms totalTurned_holds

end Go.Proofs.Ytkofnmbkfaebcaa
