/-
TotalOrder holds: for every input the call returns true, and each argument reads behind it as it did.
-/
import Derived.Test.YtkofnmbkfaebcaaOrder
import Derived.Test.YtkofnmbkfaebcaaOpenR
namespace Go.Proofs.Ytkofnmbkfaebcaa
open Go.RowKit Go.ChangeShapes Go.WideShapes Go.ChangeAt

set_option maxRecDepth 100000 in
theorem totalOrder_lifted (os : Os) (started : os.Started) (H : Type) (enc : TypeId × Value → H) :
    ReturnsInHanded {} Try.checked os 6 .any (Rows.totalOrderSpec.pre6 enc Try.prog Try.f6 Rows.totalOrderRow.domain false) (Rows.totalOrderSpec.post enc Try.prog Try.f6 false true false false) := by
  refine returnsInHanded_of_change (C := Try.checked) Try.own started (by kernel_rfl) Try.func6
    (ChangeSpec.witness6 (enc := enc) (C := Try.checked) false ⟨#[], #[.slice none 0 0, .slice none 0 0], []⟩ 8 (by kernel_rfl) (by kernel_rfl) (by kernel_rfl) (by kernel_rfl)) ?_
  intro W base args ds gs before hval0 hW hcnd _
  have hval : ∀ (j : Nat) t v, Try.f6.params[j]? = some t → args[j]? = some v → Value.okWide Try.prog W .any base t v := hval0
  have hW' := hW
  obtain ⟨p, q, hA0, hV, rfl, hfz, hnd⟩ := hW
  have hA : DataW.TrodAll enc Try.prog W 0 (fun _ => true) true Try.f6.params.toList args.toList ds p := hA0
  rw [Try.params6] at hA hval
  obtain ⟨v0, v1, d0, d1, p0, p1, rfl, rfl, rfl, h0, h1⟩ := trodAll_two hA
  obtain ⟨rfl, rfl⟩ := trodVars_none hV
  obtain ⟨l, hl, hlen, hwf⟩ := open_Rs h0 (okWide_slice Try.underlying49 (hval 0 49 v0 rfl rfl))
  obtain ⟨m, hm, hmlen, hmwf⟩ := open_Rs h1 (okWide_slice Try.underlying49 (hval 1 49 v1 rfl rfl))
  refine (order_any l m v0 v1 W hl hm hlen hmlen hwf hmwf).mono fun e W' ⟨he, hE⟩ => ?_
  subst he
  exact ⟨_, rfl, post_law Try.laidOut Try.underlying4 (by kernel_rfl) (by kernel_rfl) rfl hW' rfl rfl rfl hE⟩

theorem totalOrder_holds : Rows.TotalOrderSaid :=
  OpenClaim.holds_of_wide 6 Try.f6 rfl rfl rfl rfl rfl rfl rfl ⟨rfl, rfl, rfl, rfl, rfl⟩ rfl rfl rfl rfl rfl (by kernel_rfl) Try.func6 (by kernel_rfl)
    (of_decide_eq_true (by kernel_rfl)) (by unfold Func.isWrapper; first | (rw [if_pos (by decide +kernel)]; kernel_rfl) | (rw [if_neg (by decide +kernel)]; exact ⟨rfl, rfl⟩))
    (fun os started H enc _ => totalOrder_lifted os started H enc)
#print axioms totalOrder_holds

end Go.Proofs.Ytkofnmbkfaebcaa
