/-
CatalogRuns holds: for every input the call returns true, and each argument reads behind it as it did.
-/
import Derived.Test.YthdjinicmnhgpaaP8
import Derived.Test.YthdjinicmnhgpaaCRuns
namespace Go.Proofs.Ythdjinicmnhgpaa
open Go.RowKit Go.ChangeShapes Go.WideShapes Go.ChangeAt

set_option maxRecDepth 100000 in
theorem catalogRuns_lifted (os : Os) (started : os.Started) (H : Type) (enc : TypeId × Value → H) :
    ReturnsInHanded {} Try.checked os 5 .any (Rows.catalogRunsSpec.pre6 enc Try.prog Try.f5 Rows.catalogRunsRow.domain false) (Rows.catalogRunsSpec.post enc Try.prog Try.f5 false true false false) := by
  refine returnsInHanded_of_change_sized (C := Try.checked) Try.ownG started (by kernel_rfl) Try.func5
    (ChangeSpec.witness6 (enc := enc) (C := Try.checked) false ⟨#[], #[.slice none 0 0, .agg #[.int .u32 0, .int .u32 0], .slice none 0 0], []⟩ 8 (by kernel_rfl) (by kernel_rfl) (by kernel_rfl) (by kernel_rfl)) ?_
  intro W base args ds gs before hval0 hW hcnd hsz _
  have hval : ∀ (j : Nat) t v, Try.f5.params[j]? = some t → args[j]? = some v → Value.okWide Try.prog W .any base t v := hval0
  have hW' := hW
  obtain ⟨p, q, hA0, hV, rfl, hfz, hnd⟩ := hW
  have hA : DataW.TrodAll enc Try.prog W 0 (fun _ => true) true Try.f5.params.toList args.toList ds p := hA0
  rw [Try.params5] at hA hval hsz
  obtain ⟨v0, v1, v2, d0, d1, d2, p0, p1, p2, rfl, rfl, rfl, h0, h1, h2⟩ := trodAll_three hA
  obtain ⟨rfl, rfl⟩ := trodVars_none hV
  have b0 := hval 0 22 v0 rfl rfl
  have k0 := h0
  have t0 : ∀ q ∈ d0.weights Try.prog 22, q ≤ reachBytes := fun q hq => of_decide_eq_true (List.all_eq_true.1 hsz q (DataW.weights_mem_each (j := 0) (t := 22) (d := d0) rfl rfl q hq))
  obtain ⟨lX, aX, capX, rfl, hlX, hlenX, hbX⟩ := openG_rels k0 b0 t0
  have b1 := hval 1 46 v1 rfl rfl
  have k1 := h1
  have t1 : ∀ q ∈ d1.weights Try.prog 46, q ≤ reachBytes := fun q hq => of_decide_eq_true (List.all_eq_true.1 hsz q (DataW.weights_mem_each (j := 1) (t := 46) (d := d1) rfl rfl q hq))
  obtain ⟨oidY, verY, rfl⟩ := openG_ref k1 b1
  have b2 := hval 2 57 v2 rfl rfl
  have k2 := h2
  have t2 : ∀ q ∈ d2.weights Try.prog 57, q ≤ reachBytes := fun q hq => of_decide_eq_true (List.all_eq_true.1 hsz q (DataW.weights_mem_each (j := 2) (t := 57) (d := d2) rfl rfl q hq))
  obtain ⟨lZ, aZ, capZ, rfl, hslZ, hlenZ⟩ := openG_refs k2 b2
  refine (catruns_law lX aX capX oidY verY lZ aZ capZ W hlX hbX hlenX hslZ hlenZ).mono fun e W' ⟨he, hE⟩ => ?_
  subst he
  exact ⟨_, rfl, post_law Try.laidOutG Try.underlying4 (by kernel_rfl) (by kernel_rfl) rfl hW' rfl rfl rfl hE⟩

theorem catalogRuns_holds : Rows.CatalogRunsSaid :=
  OpenClaim.holds_of_wide 5 Try.f5 rfl rfl rfl rfl rfl rfl rfl ⟨rfl, rfl, rfl, rfl, rfl⟩ rfl rfl rfl rfl rfl (by kernel_rfl) Try.func5 (by kernel_rfl)
    (of_decide_eq_true (by kernel_rfl)) (by unfold Func.isWrapper; first | (rw [if_pos (by decide +kernel)]; kernel_rfl) | (rw [if_neg (by decide +kernel)]; exact ⟨rfl, rfl⟩))
    (fun os started H enc _ => catalogRuns_lifted os started H enc)
#print axioms catalogRuns_holds

end Go.Proofs.Ythdjinicmnhgpaa
