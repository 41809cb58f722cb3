/-
ValueSame holds: for every input the call returns true, and each argument reads behind it as it did.
-/
import Derived.Test.YtkofnmbkfaebcaaVSame
import Derived.Test.YtkofnmbkfaebcaaOpenW
import Derived.Test.YtkofnmbkfaebcaaOpenG
namespace Go.Proofs.Ytkofnmbkfaebcaa
open Go.RowKit Go.ChangeShapes Go.WideShapes Go.ChangeAt

set_option maxRecDepth 100000 in
theorem valueSame_lifted (os : Os) (started : os.Started) (H : Type) (enc : TypeId × Value → H) :
    ReturnsInHanded {} Try.checked os 10 .any (Rows.valueSameSpec.pre6 enc Try.prog Try.f10 Rows.valueSameRow.domain false) (Rows.valueSameSpec.post enc Try.prog Try.f10 false true false false) := by
  refine returnsInHanded_of_change (C := Try.checked) Try.ownG started (by kernel_rfl) Try.func10
    (ChangeSpec.witness6 (enc := enc) (C := Try.checked) false ⟨#[], #[.agg #[.int .u8 0, .int .i64 0, .int .u64 0, .int .u64 0, .string ByteArray.empty], .agg #[.int .u8 0, .int .i64 0, .int .u64 0, .int .u64 0, .string ByteArray.empty], .agg #[.int .u8 0, .int .i64 0, .int .u64 0, .int .u64 0, .string ByteArray.empty]], []⟩ 8 (by kernel_rfl) (by kernel_rfl) (by kernel_rfl) (by kernel_rfl)) ?_
  intro W base args ds gs before hval0 hW hcnd _
  have hval : ∀ (j : Nat) t v, Try.f10.params[j]? = some t → args[j]? = some v → Value.okWide Try.prog W .any base t v := hval0
  have hW' := hW
  obtain ⟨p, q, hA0, hV, rfl, hfz, hnd⟩ := hW
  have hA : DataW.TrodAll enc Try.prog W 0 (fun _ => true) true Try.f10.params.toList args.toList ds p := hA0
  rw [Try.params10] at hA hval
  obtain ⟨v0, v1, v2, d0, d1, d2, p0, p1, p2, rfl, rfl, rfl, h0, h1, h2⟩ := trodAll_three hA
  obtain ⟨rfl, rfl⟩ := trodVars_none hV
  have b0 := hval 0 42 v0 rfl rfl
  have k0 := h0
  obtain ⟨ty0, n0, x0, y0, s0, rfl, hn0, hx0, hy0, hs0⟩ := openG_val k0 b0
  have b1 := hval 1 42 v1 rfl rfl
  have k1 := h1
  obtain ⟨ty1, n1, x1, y1, s1, rfl, hn1, hx1, hy1, hs1⟩ := openG_val k1 b1
  have b2 := hval 2 42 v2 rfl rfl
  have k2 := h2
  obtain ⟨ty2, n2, x2, y2, s2, rfl, hn2, hx2, hy2, hs2⟩ := openG_val k2 b2
  refine (vsame3_any ty0 n0 x0 y0 s0 ty1 n1 x1 y1 s1 ty2 n2 x2 y2 s2 W).mono fun e W' ⟨he, hE⟩ => ?_
  subst he
  exact ⟨_, rfl, post_law Try.laidOutG Try.underlying4 (by kernel_rfl) (by kernel_rfl) rfl hW' rfl rfl rfl hE⟩

theorem valueSame_holds : Rows.ValueSameSaid :=
  OpenClaim.holds_of_wide 10 Try.f10 rfl rfl rfl rfl rfl rfl rfl ⟨rfl, rfl, rfl, rfl, rfl⟩ rfl rfl rfl rfl rfl (by kernel_rfl) Try.func10 (by kernel_rfl)
    (of_decide_eq_true (by kernel_rfl)) (by unfold Func.isWrapper; first | (rw [if_pos (by decide +kernel)]; kernel_rfl) | (rw [if_neg (by decide +kernel)]; exact ⟨rfl, rfl⟩))
    (fun os started H enc _ => valueSame_lifted os started H enc)
#print axioms valueSame_holds

end Go.Proofs.Ytkofnmbkfaebcaa
