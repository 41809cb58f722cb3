/-
TableKeys holds: for every input the call returns true, and each argument reads behind it as it did.
-/
import Derived.Test.YtkhlgoafeacdcaaGreatP14
namespace Go.Proofs.YtkhlgoafeacdcaaGreat
open Go.RowKit Go.ChangeShapes Go.WideShapes Go.ChangeAt

set_option maxRecDepth 100000 in
theorem tableKeys_lifted (os : Os) (started : os.Started) (H : Type) (enc : TypeId × Value → H) :
    ReturnsInHanded {} Tryz.checked os 5 .any (Rows.tableKeysSpec.pre6 enc Tryz.prog Tryz.f5 Rows.tableKeysRow.domain false) (Rows.tableKeysSpec.post enc Tryz.prog Tryz.f5 false true false false) := by
  refine returnsInHanded_of_change_sized (C := Tryz.checked) Tryz.ownG started (by kernel_rfl) Tryz.func5
    (ChangeSpec.witness6 (enc := enc) (C := Tryz.checked) false ⟨#[], #[.slice none 0 0, .slice none 0 0], []⟩ 8 (by kernel_rfl) (by kernel_rfl) (by kernel_rfl) (by kernel_rfl)) ?_
  intro W base args ds gs before hval0 hW hcnd hsz _
  have hval : ∀ (j : Nat) t v, Tryz.f5.params[j]? = some t → args[j]? = some v → Value.okWide Tryz.prog W .any base t v := hval0
  have hW' := hW
  obtain ⟨p, q, hA0, hV, rfl, hfz, hnd⟩ := hW
  have hA : DataW.TrodAll enc Tryz.prog W 0 (fun _ => true) true Tryz.f5.params.toList args.toList ds p := hA0
  rw [Tryz.params5] at hA hval hsz
  obtain ⟨v0, v1, d0, d1, p0, p1, rfl, rfl, rfl, h0, h1⟩ := trodAll_two hA
  obtain ⟨rfl, rfl⟩ := trodVars_none hV
  have b0 := hval 0 22 v0 rfl rfl
  have k0 := h0
  have t0 : ∀ q ∈ d0.weights Tryz.prog 22, q ≤ reachBytes := fun q hq => of_decide_eq_true (List.all_eq_true.1 hsz q (DataW.weights_mem_each (j := 0) (t := 22) (d := d0) rfl rfl q hq))
  obtain ⟨lC, aC, capC, rfl, hlC, hlenC, hbC, hBC⟩ := openG_relsB k0 b0 t0
  have b1 := hval 1 23 v1 rfl rfl
  have k1 := h1
  have t1 : ∀ q ∈ d1.weights Tryz.prog 23, q ≤ reachBytes := fun q hq => of_decide_eq_true (List.all_eq_true.1 hsz q (DataW.weights_mem_each (j := 1) (t := 23) (d := d1) rfl rfl q hq))
  obtain ⟨lL, aL, capL, rfl, hlL, hlenL, zL⟩ := openG_txs13 k1 b1 t1
  refine (tablekeys_law lC aC capC lL aL capL W hlC hbC hlenC hBC hlL hlenL zL).mono fun e W' ⟨he, hE⟩ => ?_
  subst he
  exact ⟨_, rfl, post_law Tryz.laidOutG Tryz.underlying4 (by kernel_rfl) (by kernel_rfl) rfl hW' rfl rfl rfl hE⟩

theorem tableKeys_inpl : (Rows.tableKeysRow.inPlace == Tryz.prog.inPlace 5) = true := by kernel_rfl
theorem tableKeys_unf : (Rows.tableKeysRow.unfollowed == Tryz.prog.unfollowed 5) = true := by kernel_rfl
theorem tableKeys_rec : (Rows.tableKeysRow.recurses == Tryz.prog.recurses 5) = true := by kernel_rfl
theorem tableKeys_named : (Rows.tableKeysRow.named == Tryz.prog.varsNamed 5) = true := by kernel_rfl
theorem tableKeys_closed : joinedFacts Tryz.prog 5 Tryz.f5 Rows.tableKeysSpec Rows.tableKeysRow = true := by
  unfold joinedFacts
  rw [cl_laid, cl_rowed, tableKeys_inpl, tableKeys_unf, tableKeys_rec, tableKeys_named, cl_plain, cl_heard]
  kernel_rfl
theorem tableKeys_func : Tryz.prog.funcNamed Rows.tableKeysRow.func = some 5 := by kernel_rfl
theorem tableKeys_inst : Tryz.f5.isInstance Tryz.prog Rows.tableKeysRow.origin Rows.tableKeysRow.targs := of_decide_eq_true (by kernel_rfl)
theorem tableKeys_wrap : Tryz.f5.isWrapper Tryz.prog Rows.tableKeysRow.wrapper Rows.tableKeysRow.mainSum := by
  unfold Func.isWrapper; first | (rw [if_pos (by decide +kernel)]; kernel_rfl) | (rw [if_neg (by decide +kernel)]; exact ⟨rfl, rfl⟩)
theorem tableKeys_holds : Rows.TableKeysSaid :=
  OpenClaim.holds_of_wide 5 Tryz.f5 rfl rfl rfl rfl rfl rfl rfl ⟨rfl, rfl, rfl, rfl, rfl⟩ rfl rfl rfl rfl rfl tableKeys_func Tryz.func5 tableKeys_closed
    tableKeys_inst tableKeys_wrap
    (fun os started H enc _ => tableKeys_lifted os started H enc)
#print axioms tableKeys_holds

end Go.Proofs.YtkhlgoafeacdcaaGreat
