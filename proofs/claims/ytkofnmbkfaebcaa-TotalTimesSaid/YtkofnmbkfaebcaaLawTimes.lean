/-
TotalTimes holds: for every input the call returns true, and each argument reads behind it as it did.
-/
import Derived.Test.YtkofnmbkfaebcaaTimesT
import Derived.Test.YtkofnmbkfaebcaaOpenR
namespace Go.Proofs.Ytkofnmbkfaebcaa
open Go.RowKit Go.ChangeShapes Go.WideShapes Go.ChangeAt

theorem Try.flatV6 : flat Try.prog 4 42 = some [5, 2, 40, 40, 9] := by kernel_rfl
theorem Try.flatI2 : flat Try.prog 4 43 = some [2, 2] := by kernel_rfl
theorem okWide_arr2 {P : Program} {w : World} {r : Reach} {base : Nat} {t e : TypeId} {v : Value} {n : Nat} (ht : P.underlying t = some (.array n e)) (h : Value.okWide P w r base t v) : ∃ cs, v = .agg cs ∧ cs.size = P.cellsOf t := by
  simp only [Value.okWide, ht] at h
  obtain ⟨cs, h1, h2, _⟩ := h
  exact ⟨cs, h1, h2⟩

section
variable {H : Type} {enc : TypeId × Value → H} {w : World} {base : Nat} {spare : Nat → Bool} {held : Bool}
/-- A pair of the arguments, opened. -/
theorem open_I2 {n : Nat} {cs : List Value} {x : DataW H × List MemPlace} (h : DataW.trod enc Try.prog w base spare held n 43 cs = some x) : ∃ a b : Int, cs = [.int .i64 a, .int .i64 b] := by
  have hl := flat_open 4 _ _ n cs x Try.flatI2 h
  match cs, hl with
  | [c0, c1], ⟨l0, l1, _⟩ =>
    obtain ⟨a, rfl, h0⟩ := l0.int Try.underlying2
    obtain ⟨b, rfl, h1⟩ := l1.int Try.underlying2
    exact ⟨a, b, rfl⟩
theorem open_V6 {n : Nat} {cs : List Value} {x : DataW H × List MemPlace} (h : DataW.trod enc Try.prog w base spare held n 42 cs = some x) : ∃ (ty m : Int) (a b : Int) (s : ByteArray), cs = [.int .u8 ty, .int .i64 m, .int .u64 a, .int .u64 b, .string s] ∧ (0 ≤ a ∧ a < 2 ^ 64) ∧ (0 ≤ b ∧ b < 2 ^ 64) := by
  have hl := flat_open 4 _ _ n cs x Try.flatV6 h
  match cs, hl with
  | [c0, c1, c2, c3, c4], ⟨l0, l1, l2, l3, l4, _⟩ =>
    obtain ⟨ty, rfl, h0⟩ := l0.int Try.underlying5
    obtain ⟨m, rfl, h1⟩ := l1.int Try.underlying2
    obtain ⟨a, rfl, h2⟩ := l2.int Try.underlying40
    obtain ⟨b, rfl, h3⟩ := l3.int Try.underlying40
    obtain ⟨s, rfl, h4⟩ := l4.string Try.underlying9
    exact ⟨ty, m, a, b, s, rfl, wf_u64 h2, wf_u64 h3⟩
end

set_option maxRecDepth 100000 in
theorem totalTimes_lifted (os : Os) (started : os.Started) (H : Type) (enc : TypeId × Value → H) :
    ReturnsInHanded {} Try.checked os 4 .any (Rows.totalTimesSpec.pre6 enc Try.prog Try.f4 Rows.totalTimesRow.domain false) (Rows.totalTimesSpec.post enc Try.prog Try.f4 false true false false) := by
  refine returnsInHanded_of_change (C := Try.checked) Try.own started (by kernel_rfl) Try.func4
    (ChangeSpec.witness6 (enc := enc) (C := Try.checked) false ⟨#[], #[.agg #[.int .u8 0, .int .i64 0, .int .u64 0, .int .u64 0, .string ByteArray.empty], .agg #[.int .i64 0, .int .i64 0], .agg #[.int .i64 0, .int .i64 0]], []⟩ 8 (by kernel_rfl) (by kernel_rfl) (by kernel_rfl) (by kernel_rfl)) ?_
  intro W base args ds gs before hval0 hW hcnd _
  have hval : ∀ (j : Nat) t v, Try.f4.params[j]? = some t → args[j]? = some v → Value.okWide Try.prog W .any base t v := hval0
  have hW' := hW
  obtain ⟨p, q, hA0, hV, rfl, hfz, hnd⟩ := hW
  have hA : DataW.TrodAll enc Try.prog W 0 (fun _ => true) true Try.f4.params.toList args.toList ds p := hA0
  rw [Try.params4] at hA hval
  obtain ⟨v0, v1, v2, d0, d1, d2, p0, p1, p2, rfl, rfl, rfl, h0, h1, h2⟩ := trodAll_three hA
  obtain ⟨rfl, rfl⟩ := trodVars_none hV
  obtain ⟨cs0, rfl, _⟩ := okWide_struct Try.underlying42 (hval 0 42 v0 rfl rfl)
  obtain ⟨cs1, rfl, _⟩ := okWide_arr2 Try.underlying43 (hval 1 43 v1 rfl rfl)
  obtain ⟨cs2, rfl, _⟩ := okWide_arr2 Try.underlying43 (hval 2 43 v2 rfl rfl)
  obtain ⟨n0, hn0⟩ := h0
  obtain ⟨n1, hn1⟩ := h1
  obtain ⟨n2, hn2⟩ := h2
  obtain ⟨ty, m, x, y, s, hr0, hx, hy⟩ := open_V6 hn0
  obtain ⟨a, b, hr1⟩ := open_I2 hn1
  obtain ⟨c, d, hr2⟩ := open_I2 hn2
  obtain ⟨x, rfl⟩ := Int.eq_ofNat_of_zero_le hx.1
  obtain ⟨y, rfl⟩ := Int.eq_ofNat_of_zero_le hy.1
  have e0 : cs0 = #[.int .u8 ty, .int .i64 m, .int .u64 x, .int .u64 y, .string s] := Array.toList_inj.1 hr0
  have e1 : cs1 = #[.int .i64 a, .int .i64 b] := Array.toList_inj.1 hr1
  have e2 : cs2 = #[.int .i64 c, .int .i64 d] := Array.toList_inj.1 hr2
  subst e0 e1 e2
  refine (timesT_any ty m x y s a b c d W (Hid.mk' (by have := hx.2; omega)) (Hid.mk' (by have := hy.2; omega))).mono fun e W' ⟨he, hE⟩ => ?_
  subst he
  exact ⟨_, rfl, post_law Try.laidOut Try.underlying4 (by kernel_rfl) (by kernel_rfl) rfl hW' rfl rfl rfl hE⟩

theorem totalTimes_holds : Rows.TotalTimesSaid :=
  OpenClaim.holds_of_wide 4 Try.f4 rfl rfl rfl rfl rfl rfl rfl ⟨rfl, rfl, rfl, rfl, rfl⟩ rfl rfl rfl rfl rfl (by kernel_rfl) Try.func4 (by kernel_rfl)
    (of_decide_eq_true (by kernel_rfl)) (by unfold Func.isWrapper; first | (rw [if_pos (by decide +kernel)]; kernel_rfl) | (rw [if_neg (by decide +kernel)]; exact ⟨rfl, rfl⟩))
    (fun os started H enc _ => totalTimes_lifted os started H enc)
#print axioms totalTimes_holds

end Go.Proofs.Ytkofnmbkfaebcaa
