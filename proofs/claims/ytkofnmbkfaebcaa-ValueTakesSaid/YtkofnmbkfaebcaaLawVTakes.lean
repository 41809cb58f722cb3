/-
ValueTakes holds: for every input the call returns true, and each argument reads behind it as it did.
-/
import Derived.Test.YtkofnmbkfaebcaaVTakes
import Derived.Test.YtkofnmbkfaebcaaOpenW
import Derived.Test.YtkofnmbkfaebcaaOpenG
namespace Go.Proofs.Ytkofnmbkfaebcaa
open Go.RowKit Go.ChangeShapes Go.WideShapes Go.ChangeAt

set_option maxRecDepth 100000 in
theorem valueTakes_lifted (os : Os) (started : os.Started) (H : Type) (enc : TypeId × Value → H) :
    ReturnsInHanded {} Try.checked os 13 .any (Rows.valueTakesSpec.pre6 enc Try.prog Try.f13 Rows.valueTakesRow.domain false) (Rows.valueTakesSpec.post enc Try.prog Try.f13 false true false false) := by
  refine returnsInHanded_of_change (C := Try.checked) Try.ownG started (by kernel_rfl) Try.func13
    (ChangeSpec.witness6 (enc := enc) (C := Try.checked) false ⟨#[], #[.slice none 0 0, .int .u8 0, .int .u8 0], []⟩ 8 (by kernel_rfl) (by kernel_rfl) (by kernel_rfl) (by kernel_rfl)) ?_
  intro W base args ds gs before hval0 hW hcnd _
  have hval : ∀ (j : Nat) t v, Try.f13.params[j]? = some t → args[j]? = some v → Value.okWide Try.prog W .any base t v := hval0
  have hW' := hW
  obtain ⟨p, q, hA0, hV, rfl, hfz, hnd⟩ := hW
  have hA : DataW.TrodAll enc Try.prog W 0 (fun _ => true) true Try.f13.params.toList args.toList ds p := hA0
  rw [Try.params13] at hA hval
  obtain ⟨v0, v1, v2, d0, d1, d2, p0, p1, p2, rfl, rfl, rfl, h0, h1, h2⟩ := trodAll_three hA
  obtain ⟨rfl, rfl⟩ := trodVars_none hV
  have b0 := hval 0 72 v0 rfl rfl
  have k0 := h0
  obtain ⟨lb, hslb, hlenb, hbb⟩ := openG_bytes k0 b0
  have b1 := hval 1 5 v1 rfl rfl
  have k1 := h1
  obtain ⟨kind, rfl, wkind⟩ := openG_int Try.underlying5 k1 b1
  have hkind := wfG_u8 wkind
  clear wkind
  have b2 := hval 2 5 v2 rfl rfl
  have k2 := h2
  obtain ⟨ver, rfl, wver⟩ := openG_int Try.underlying5 k2 b2
  have hver := wfG_u8 wver
  clear wver
  have hnl := openG_nil Try.underlying72 k0 b0
  refine (vtk_any v0 lb kind ver W hslb hbb hlenb hnl hkind.1 hkind.2).mono fun e W' ⟨he, hE⟩ => ?_
  subst he
  exact ⟨_, rfl, post_law Try.laidOutG Try.underlying4 (by kernel_rfl) (by kernel_rfl) rfl hW' rfl rfl rfl hE⟩

theorem valueTakes_holds : Rows.ValueTakesSaid :=
  OpenClaim.holds_of_wide 13 Try.f13 rfl rfl rfl rfl rfl rfl rfl ⟨rfl, rfl, rfl, rfl, rfl⟩ rfl rfl rfl rfl rfl (by kernel_rfl) Try.func13 (by kernel_rfl)
    (of_decide_eq_true (by kernel_rfl)) (by unfold Func.isWrapper; first | (rw [if_pos (by decide +kernel)]; kernel_rfl) | (rw [if_neg (by decide +kernel)]; exact ⟨rfl, rfl⟩))
    (fun os started H enc _ => valueTakes_lifted os started H enc)
#print axioms valueTakes_holds

end Go.Proofs.Ytkofnmbkfaebcaa
