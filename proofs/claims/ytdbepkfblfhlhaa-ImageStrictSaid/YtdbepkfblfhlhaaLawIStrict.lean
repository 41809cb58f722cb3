/-
ImageStrict holds: for every input the call returns true, and each argument reads behind it as it did.
-/
import Derived.Test.YtdbepkfblfhlhaaImgV
import Derived.Test.YtdbepkfblfhlhaaOpenJ
namespace Go.Proofs.Ytdbepkfblfhlhaa
open Go.RowKit Go.ChangeShapes Go.WideShapes Go.ChangeAt

set_option maxRecDepth 100000 in
theorem imageStrict_lifted (os : Os) (started : os.Started) (H : Type) (enc : TypeId × Value → H) :
    ReturnsInHanded {} Try.checked os 6 .any (Rows.imageStrictSpec.pre6 enc Try.prog Try.f6 Rows.imageStrictRow.domain false) (Rows.imageStrictSpec.post enc Try.prog Try.f6 false true false false) := by
  refine returnsInHanded_of_change (C := Try.checked) Try.ownG started (by kernel_rfl) Try.func6
    (ChangeSpec.witness6 (enc := enc) (C := Try.checked) false ⟨#[], #[.agg #[.int .u32 0, .int .u32 0, .string ByteArray.empty, .int .u8 0, .slice none 0 0], .agg #[.int .u8 0, .int .u8 0, .slice none 0 0, .slice none 0 0]], []⟩ 8 (by kernel_rfl) (by kernel_rfl) (by kernel_rfl) (by kernel_rfl)) ?_
  intro W base args ds gs before hval0 hW hcnd _
  have hval : ∀ (j : Nat) t v, Try.f6.params[j]? = some t → args[j]? = some v → Value.okWide Try.prog W .any base t v := hval0
  have hW' := hW
  obtain ⟨p, q, hA0, hV, rfl, hfz, hnd⟩ := hW
  have hA : DataW.TrodAll enc Try.prog W 0 (fun _ => true) true Try.f6.params.toList args.toList ds p := hA0
  rw [Try.params6] at hA hval
  obtain ⟨v0, v1, d0, d1, p0, p1, rfl, rfl, rfl, h0, h1⟩ := trodAll_two hA
  obtain ⟨rfl, rfl⟩ := trodVars_none hV
  have b0 := hval 0 27 v0 rfl rfl
  have k0 := h0
  obtain ⟨oidX, verX, nmX, idX, colsX, aX, capX, rfl, hslX, hlenX, hsX, hnmX, hidX⟩ := openG_rel k0 b0
  have b1 := hval 1 71 v1 rfl rfl
  have k1 := h1
  obtain ⟨kdY, odY, lbY, abY, cbY, laY, aaY, caY, rfl, hkdY, hodY, hslbY, hlbY, hsbY, hslaY, hlaY, hsaY⟩ := openG_event k1 b1
  refine (imgstrict_any kdY odY lbY laY abY aaY cbY caY oidX verX nmX idX colsX aX capX W hslbY hslaY hslX hlbY hlaY hlenX (fun c hc => (hsbY c hc).towk) (fun c hc => (hsaY c hc).towk) hsX hnmX hidX.1 hodY.1).mono fun e W' ⟨he, hE⟩ => ?_
  subst he
  exact ⟨_, rfl, post_law Try.laidOutG Try.underlying4 (by kernel_rfl) (by kernel_rfl) rfl hW' rfl rfl rfl hE⟩

theorem imageStrict_holds : Rows.ImageStrictSaid :=
  OpenClaim.holds_of_wide 6 Try.f6 rfl rfl rfl rfl rfl rfl rfl ⟨rfl, rfl, rfl, rfl, rfl⟩ rfl rfl rfl rfl rfl (by kernel_rfl) Try.func6 (by kernel_rfl)
    (of_decide_eq_true (by kernel_rfl)) (by unfold Func.isWrapper; first | (rw [if_pos (by decide +kernel)]; kernel_rfl) | (rw [if_neg (by decide +kernel)]; exact ⟨rfl, rfl⟩))
    (fun os started H enc _ => imageStrict_lifted os started H enc)
#print axioms imageStrict_holds

end Go.Proofs.Ytdbepkfblfhlhaa
