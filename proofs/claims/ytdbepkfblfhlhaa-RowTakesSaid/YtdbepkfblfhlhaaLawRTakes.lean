/-
RowTakes holds: for every input the call returns true, and each argument reads behind it as it did.
-/
import Derived.Test.YtdbepkfblfhlhaaP16
import Derived.Test.YtdbepkfblfhlhaaRTakes
namespace Go.Proofs.Ytdbepkfblfhlhaa
open Go.RowKit Go.ChangeShapes Go.WideShapes Go.ChangeAt

set_option maxRecDepth 100000 in
theorem rowTakes_lifted (os : Os) (started : os.Started) (H : Type) (enc : TypeId × Value → H) :
    ReturnsInHanded {} Try.checked os 11 .any (Rows.rowTakesSpec.pre6 enc Try.prog Try.f11 Rows.rowTakesRow.domain false) (Rows.rowTakesSpec.post enc Try.prog Try.f11 false true false false) := by
  refine returnsInHanded_of_change (C := Try.checked) Try.ownG started (by kernel_rfl) Try.func11
    (ChangeSpec.witness6 (enc := enc) (C := Try.checked) false ⟨#[], #[.slice none 0 0, .agg #[.int .u32 0, .int .u32 0, .string ByteArray.empty, .int .u8 0, .slice none 0 0], .int .u8 0], []⟩ 8 (by kernel_rfl) (by kernel_rfl) (by kernel_rfl) (by kernel_rfl)) ?_
  intro W base args ds gs before hval0 hW hcnd _
  have hval : ∀ (j : Nat) t v, Try.f11.params[j]? = some t → args[j]? = some v → Value.okWide Try.prog W .any base t v := hval0
  have hW' := hW
  obtain ⟨p, q, hA0, hV, rfl, hfz, hnd⟩ := hW
  have hA : DataW.TrodAll enc Try.prog W 0 (fun _ => true) true Try.f11.params.toList args.toList ds p := hA0
  rw [Try.params11] at hA hval
  obtain ⟨v0, v1, v2, d0, d1, d2, p0, p1, p2, rfl, rfl, rfl, h0, h1, h2⟩ := trodAll_three hA
  obtain ⟨rfl, rfl⟩ := trodVars_none hV
  have b0 := hval 0 80 v0 rfl rfl
  have k0 := h0
  obtain ⟨lX, aX, capX, rfl, hslX, hlenX, hbX, hnX⟩ := openG_bytesn k0 b0
  have b1 := hval 1 27 v1 rfl rfl
  have k1 := h1
  obtain ⟨oidY, verY, nmY, idY, colsY, aY, capY, rfl, hslY, hlenY, hsY, hnmY, hidY⟩ := openG_rel k1 b1
  have b2 := hval 2 5 v2 rfl rfl
  have k2 := h2
  obtain ⟨Z, rfl, wZ⟩ := openG_int Try.underlying5 k2 b2
  have hZ := wfG_u8 wZ
  clear wZ
  refine (rowtakes_any lX aX capX oidY verY nmY idY colsY aY capY Z W hslX hbX hlenX hnX hslY hlenY hsY hnmY).mono fun e W' ⟨he, hE⟩ => ?_
  subst he
  exact ⟨_, rfl, post_law Try.laidOutG Try.underlying4 (by kernel_rfl) (by kernel_rfl) rfl hW' rfl rfl rfl hE⟩

theorem rowTakes_holds : Rows.RowTakesSaid :=
  OpenClaim.holds_of_wide 11 Try.f11 rfl rfl rfl rfl rfl rfl rfl ⟨rfl, rfl, rfl, rfl, rfl⟩ rfl rfl rfl rfl rfl (by kernel_rfl) Try.func11 (by kernel_rfl)
    (of_decide_eq_true (by kernel_rfl)) (by unfold Func.isWrapper; first | (rw [if_pos (by decide +kernel)]; kernel_rfl) | (rw [if_neg (by decide +kernel)]; exact ⟨rfl, rfl⟩))
    (fun os started H enc _ => rowTakes_lifted os started H enc)
#print axioms rowTakes_holds

end Go.Proofs.Ytdbepkfblfhlhaa
