/-
EventUsed holds: for every input the call returns true, and each argument reads behind it as it did.
-/
import Derived.Test.YthdjinicmnhgpaaP17
namespace Go.Proofs.Ythdjinicmnhgpaa
open Go.RowKit Go.ChangeShapes Go.WideShapes Go.ChangeAt

set_option maxRecDepth 100000 in
theorem eventUsed_lifted (os : Os) (started : os.Started) (H : Type) (enc : TypeId × Value → H) :
    ReturnsInHanded {} Try.checked os 11 .any (Rows.eventUsedSpec.pre6 enc Try.prog Try.f11 Rows.eventUsedRow.domain false) (Rows.eventUsedSpec.post enc Try.prog Try.f11 false true false false) := by
  refine returnsInHanded_of_change_sized (C := Try.checked) Try.ownG started (by kernel_rfl) Try.func11
    (ChangeSpec.witness6 (enc := enc) (C := Try.checked) false ⟨#[], #[.slice none 0 0, .slice none 0 0], []⟩ 8 (by kernel_rfl) (by kernel_rfl) (by kernel_rfl) (by kernel_rfl)) ?_
  intro W base args ds gs before hval0 hW hcnd hsz _
  have hval : ∀ (j : Nat) t v, Try.f11.params[j]? = some t → args[j]? = some v → Value.okWide Try.prog W .any base t v := hval0
  have hW' := hW
  obtain ⟨p, q, hA0, hV, rfl, hfz, hnd⟩ := hW
  have hA : DataW.TrodAll enc Try.prog W 0 (fun _ => true) true Try.f11.params.toList args.toList ds p := hA0
  rw [Try.params11] at hA hval hsz
  obtain ⟨v0, v1, d0, d1, p0, p1, rfl, rfl, rfl, h0, h1⟩ := trodAll_two hA
  obtain ⟨rfl, rfl⟩ := trodVars_none hV
  have b0 := hval 0 79 v0 rfl rfl
  have k0 := h0
  have t0 : ∀ q ∈ d0.weights Try.prog 79, q ≤ reachBytes := fun q hq => of_decide_eq_true (List.all_eq_true.1 hsz q (DataW.weights_mem_each (j := 0) (t := 79) (d := d0) rfl rfl q hq))
  obtain ⟨lA, aA, capA, rfl, hlA, hlenA, zA⟩ := openG_txs13 k0 b0 t0
  have b1 := hval 1 79 v1 rfl rfl
  have k1 := h1
  have t1 : ∀ q ∈ d1.weights Try.prog 79, q ≤ reachBytes := fun q hq => of_decide_eq_true (List.all_eq_true.1 hsz q (DataW.weights_mem_each (j := 1) (t := 79) (d := d1) rfl rfl q hq))
  obtain ⟨lB, aB, capB, rfl, hlB, hlenB, zB⟩ := openG_txs13 k1 b1 t1
  refine ((eventused_law lA lB aA aB capA capB W hlA hlB hlenA hlenB zA zB)).mono fun e W' ⟨he, hE⟩ => ?_
  subst he
  exact ⟨_, rfl, post_law Try.laidOutG Try.underlying4 (by kernel_rfl) (by kernel_rfl) rfl hW' rfl rfl rfl hE⟩

theorem eventUsed_holds : Rows.EventUsedSaid :=
  OpenClaim.holds_of_wide 11 Try.f11 rfl rfl rfl rfl rfl rfl rfl ⟨rfl, rfl, rfl, rfl, rfl⟩ rfl rfl rfl rfl rfl (by kernel_rfl) Try.func11 (by kernel_rfl)
    (of_decide_eq_true (by kernel_rfl)) (by unfold Func.isWrapper; first | (rw [if_pos (by decide +kernel)]; kernel_rfl) | (rw [if_neg (by decide +kernel)]; exact ⟨rfl, rfl⟩))
    (fun os started H enc _ => eventUsed_lifted os started H enc)
#print axioms eventUsed_holds

end Go.Proofs.Ythdjinicmnhgpaa
