/-
RowBack holds: for every input the call returns true, and each argument reads behind it as it did.
-/
import Derived.Test.YtdbepkfblfhlhaaP16
import Derived.Test.YtdbepkfblfhlhaaRowBk
import Derived.Test.YtdbepkfblfhlhaaOpenU
namespace Go.Proofs.Ytdbepkfblfhlhaa
open Go.RowKit Go.ChangeShapes Go.WideShapes Go.ChangeAt

set_option maxRecDepth 100000 in
theorem rowBack_lifted (os : Os) (started : os.Started) (H : Type) (enc : TypeId × Value → H) :
    ReturnsInHanded {} Try.checked os 12 .any (Rows.rowBackSpec.pre6 enc Try.prog Try.f12 Rows.rowBackRow.domain false) (Rows.rowBackSpec.post enc Try.prog Try.f12 false true false false) := by
  refine returnsInHanded_of_change (C := Try.checked) Try.ownG started (by kernel_rfl) Try.func12
    (ChangeSpec.witness6 (enc := enc) (C := Try.checked) false ⟨#[], #[.slice none 0 0, .agg #[.int .u32 0, .int .u32 0, .string ByteArray.empty, .int .u8 0, .slice none 0 0], .agg #[.int .u8 0, .slice none 0 0, .int .u16 0]], []⟩ 8 (by kernel_rfl) (by kernel_rfl) (by kernel_rfl) (by kernel_rfl)) ?_
  intro W base args ds gs before hval0 hW hcnd _
  have hval : ∀ (j : Nat) t v, Try.f12.params[j]? = some t → args[j]? = some v → Value.okWide Try.prog W .any base t v := hval0
  have hW' := hW
  obtain ⟨p, q, hA0, hV, rfl, hfz, hnd⟩ := hW
  have hA : DataW.TrodAll enc Try.prog W 0 (fun _ => true) true Try.f12.params.toList args.toList ds p := hA0
  rw [Try.params12] at hA hval
  obtain ⟨v0, v1, v2, d0, d1, d2, p0, p1, p2, rfl, rfl, rfl, h0, h1, h2⟩ := trodAll_three hA
  obtain ⟨rfl, rfl⟩ := trodVars_none hV
  have b0 := hval 0 31 v0 rfl rfl
  have k0 := h0
  obtain ⟨lX, aX, capX, rfl, hslX, hlenX, hsX⟩ := openG_row k0 b0
  have b1 := hval 1 27 v1 rfl rfl
  have k1 := h1
  obtain ⟨oidY, verY, nmY, idY, colsY, aY, capY, rfl, hslY, hlenY, hsY, hnmY, hidY⟩ := openG_rel k1 b1
  have b2 := hval 2 118 v2 rfl rfl
  have k2 := h2
  obtain ⟨vrZ, lbZ, abZ, cbZ, atZ, rfl, hvrZ, hslbZ, hlbZ, hibZ, hatZ⟩ := openG_cut k2 b2
  refine (rowback_any lX aX capX oidY verY nmY idY colsY aY capY vrZ lbZ abZ cbZ atZ W hslX hslY hslbZ hlenX hlenY hlbZ hibZ hsX hsY hnmY hvrZ.1 hvrZ.2 hatZ.1 hatZ.2).mono fun e W' ⟨he, hE⟩ => ?_
  subst he
  exact ⟨_, rfl, post_law Try.laidOutG Try.underlying4 (by kernel_rfl) (by kernel_rfl) rfl hW' rfl rfl rfl hE⟩

theorem rowBack_holds : Rows.RowBackSaid :=
  OpenClaim.holds_of_wide 12 Try.f12 rfl rfl rfl rfl rfl rfl rfl ⟨rfl, rfl, rfl, rfl, rfl⟩ rfl rfl rfl rfl rfl (by kernel_rfl) Try.func12 (by kernel_rfl)
    (of_decide_eq_true (by kernel_rfl)) (by unfold Func.isWrapper; first | (rw [if_pos (by decide +kernel)]; kernel_rfl) | (rw [if_neg (by decide +kernel)]; exact ⟨rfl, rfl⟩))
    (fun os started H enc _ => rowBack_lifted os started H enc)
#print axioms rowBack_holds

end Go.Proofs.Ytdbepkfblfhlhaa
