/-
ValueCut holds: for every input the call returns true, and each argument reads behind it as it did.
-/
import Derived.Test.YtkofnmbkfaebcaaVCut
import Derived.Test.YtkofnmbkfaebcaaOpenW
import Derived.Test.YtkofnmbkfaebcaaOpenG
namespace Go.Proofs.Ytkofnmbkfaebcaa
open Go.RowKit Go.ChangeShapes Go.WideShapes Go.ChangeAt

set_option maxRecDepth 100000 in
theorem valueCut_lifted (os : Os) (started : os.Started) (H : Type) (enc : TypeId × Value → H) :
    ReturnsInHanded {} Try.checked os 12 .any (Rows.valueCutSpec.pre6 enc Try.prog Try.f12 Rows.valueCutRow.domain false) (Rows.valueCutSpec.post enc Try.prog Try.f12 false true false false) := by
  refine returnsInHanded_of_change (C := Try.checked) Try.ownG started (by kernel_rfl) Try.func12
    (ChangeSpec.witness6 (enc := enc) (C := Try.checked) false ⟨#[], #[.agg #[.int .u8 0, .int .i64 0, .int .u64 0, .int .u64 0, .string ByteArray.empty], .int .u8 0, .int .u16 0], []⟩ 8 (by kernel_rfl) (by kernel_rfl) (by kernel_rfl) (by kernel_rfl)) ?_
  intro W base args ds gs before hval0 hW hcnd _
  have hval : ∀ (j : Nat) t v, Try.f12.params[j]? = some t → args[j]? = some v → Value.okWide Try.prog W .any base t v := hval0
  have hW' := hW
  obtain ⟨p, q, hA0, hV, rfl, hfz, hnd⟩ := hW
  have hA : DataW.TrodAll enc Try.prog W 0 (fun _ => true) true Try.f12.params.toList args.toList ds p := hA0
  rw [Try.params12] at hA hval
  obtain ⟨v0, v1, v2, d0, d1, d2, p0, p1, p2, rfl, rfl, rfl, h0, h1, h2⟩ := trodAll_three hA
  obtain ⟨rfl, rfl⟩ := trodVars_none hV
  have b0 := hval 0 42 v0 rfl rfl
  have k0 := h0
  obtain ⟨ty0, n0, x0, y0, s0, rfl, hn0, hx0, hy0, hs0⟩ := openG_val k0 b0
  have b1 := hval 1 5 v1 rfl rfl
  have k1 := h1
  obtain ⟨ver, rfl, wver⟩ := openG_int Try.underlying5 k1 b1
  have hver := wfG_u8 wver
  clear wver
  have b2 := hval 2 101 v2 rfl rfl
  have k2 := h2
  obtain ⟨cut, rfl, wcut⟩ := openG_int Try.underlying101 k2 b2
  have hcut := wfG_u16 wcut
  clear wcut
  refine (vcut_any ty0 n0 x0 y0 s0 ver cut W hn0 hx0 hy0 hs0 hver.1 hver.2 hcut.1 hcut.2).mono fun e W' ⟨he, hE⟩ => ?_
  subst he
  exact ⟨_, rfl, post_law Try.laidOutG Try.underlying4 (by kernel_rfl) (by kernel_rfl) rfl hW' rfl rfl rfl hE⟩

theorem valueCut_holds : Rows.ValueCutSaid :=
  OpenClaim.holds_of_wide 12 Try.f12 rfl rfl rfl rfl rfl rfl rfl ⟨rfl, rfl, rfl, rfl, rfl⟩ rfl rfl rfl rfl rfl (by kernel_rfl) Try.func12 (by kernel_rfl)
    (of_decide_eq_true (by kernel_rfl)) (by unfold Func.isWrapper; first | (rw [if_pos (by decide +kernel)]; kernel_rfl) | (rw [if_neg (by decide +kernel)]; exact ⟨rfl, rfl⟩))
    (fun os started H enc _ => valueCut_lifted os started H enc)
#print axioms valueCut_holds

end Go.Proofs.Ytkofnmbkfaebcaa
