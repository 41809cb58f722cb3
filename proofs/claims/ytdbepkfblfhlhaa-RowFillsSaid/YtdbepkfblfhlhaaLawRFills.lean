/-
RowFills holds: for every input the call returns true, and each argument reads behind it as it did.
-/
import Derived.Test.YtdbepkfblfhlhaaP16
import Derived.Test.YtdbepkfblfhlhaaRowF
namespace Go.Proofs.Ytdbepkfblfhlhaa
open Go.RowKit Go.ChangeShapes Go.WideShapes Go.ChangeAt

set_option maxRecDepth 100000 in
theorem rowFills_lifted (os : Os) (started : os.Started) (H : Type) (enc : TypeId × Value → H) :
    ReturnsInHanded {} Try.checked os 10 .any (Rows.rowFillsSpec.pre6 enc Try.prog Try.f10 Rows.rowFillsRow.domain false) (Rows.rowFillsSpec.post enc Try.prog Try.f10 false true false false) := by
  refine returnsInHanded_of_change (C := Try.checked) Try.ownG started (by kernel_rfl) Try.func10
    (ChangeSpec.witness6 (enc := enc) (C := Try.checked) false ⟨#[], #[.slice none 0 0, .slice none 0 0, .slice none 0 0], []⟩ 8 (by kernel_rfl) (by kernel_rfl) (by kernel_rfl) (by kernel_rfl)) ?_
  intro W base args ds gs before hval0 hW hcnd _
  have hval : ∀ (j : Nat) t v, Try.f10.params[j]? = some t → args[j]? = some v → Value.okWide Try.prog W .any base t v := hval0
  have hW' := hW
  obtain ⟨p, q, hA0, hV, rfl, hfz, hnd⟩ := hW
  have hA : DataW.TrodAll enc Try.prog W 0 (fun _ => true) true Try.f10.params.toList args.toList ds p := hA0
  rw [Try.params10] at hA hval
  obtain ⟨v0, v1, v2, d0, d1, d2, p0, p1, p2, rfl, rfl, rfl, h0, h1, h2⟩ := trodAll_three hA
  obtain ⟨rfl, rfl⟩ := trodVars_none hV
  have b0 := hval 0 31 v0 rfl rfl
  have k0 := h0
  obtain ⟨lX, aX, capX, rfl, hslX, hlenX, hsX, hnX⟩ := openG_rown k0 b0
  have b1 := hval 1 85 v1 rfl rfl
  have k1 := h1
  obtain ⟨lY, aY, capY, rfl, hslY, hlenY⟩ := openG_holes k1 b1
  have b2 := hval 2 86 v2 rfl rfl
  have k2 := h2
  obtain ⟨lZ, aZ, capZ, rfl, hslZ, hlenZ, hsZ⟩ := openG_texts k2 b2
  refine (rowfills_any lX lY lZ aX aY aZ capX capY capZ W hslX hnX hslY hslZ hlenX hlenY hlenZ (fun c hc => (hsX c hc).towk) hsZ).mono fun e W' ⟨he, hE⟩ => ?_
  subst he
  exact ⟨_, rfl, post_law Try.laidOutG Try.underlying4 (by kernel_rfl) (by kernel_rfl) rfl hW' rfl rfl rfl hE⟩

theorem rowFills_holds : Rows.RowFillsSaid :=
  OpenClaim.holds_of_wide 10 Try.f10 rfl rfl rfl rfl rfl rfl rfl ⟨rfl, rfl, rfl, rfl, rfl⟩ rfl rfl rfl rfl rfl (by kernel_rfl) Try.func10 (by kernel_rfl)
    (of_decide_eq_true (by kernel_rfl)) (by unfold Func.isWrapper; first | (rw [if_pos (by decide +kernel)]; kernel_rfl) | (rw [if_neg (by decide +kernel)]; exact ⟨rfl, rfl⟩))
    (fun os started H enc _ => rowFills_lifted os started H enc)
#print axioms rowFills_holds

end Go.Proofs.Ytdbepkfblfhlhaa
