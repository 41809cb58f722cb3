/-
TableRuns holds: for every input the call returns true, and each argument reads behind it as it did.
-/
import Derived.Test.YtdgalkljngigeaaGreatP17
namespace Go.Proofs.YtdgalkljngigeaaGreat
open Go.RowKit Go.ChangeShapes Go.WideShapes Go.ChangeAt

set_option maxRecDepth 100000 in
theorem tableRuns_lifted (os : Os) (started : os.Started) (H : Type) (enc : TypeId × Value → H) :
    ReturnsInHanded {} Tryz.checked os 4 .any (Rows.tableRunsSpec.pre6 enc Tryz.prog Tryz.f4 Rows.tableRunsRow.domain false) (Rows.tableRunsSpec.post enc Tryz.prog Tryz.f4 false true false false) := by
  refine returnsInHanded_of_change_sized (C := Tryz.checked) Tryz.ownG started (by kernel_rfl) Tryz.func4
    (ChangeSpec.witness6 (enc := enc) (C := Tryz.checked) false ⟨#[], #[.slice none 0 0, .slice none 0 0, .agg #[.int .u32 0, .int .u32 0, .slice none 0 0]], []⟩ 8 (by kernel_rfl) (by kernel_rfl) (by kernel_rfl) (by kernel_rfl)) ?_
  intro W base args ds gs before hval0 hW hcnd hsz _
  have hval : ∀ (j : Nat) t v, Tryz.f4.params[j]? = some t → args[j]? = some v → Value.okWide Tryz.prog W .any base t v := hval0
  have hW' := hW
  obtain ⟨p, q, hA0, hV, rfl, hfz, hnd⟩ := hW
  have hA : DataW.TrodAll enc Tryz.prog W 0 (fun _ => true) true Tryz.f4.params.toList args.toList ds p := hA0
  rw [Tryz.params4] at hA hval hsz
  obtain ⟨v0, v1, v2, d0, d1, d2, p0, p1, p2, rfl, rfl, rfl, h0, h1, h2⟩ := trodAll_three hA
  obtain ⟨rfl, rfl⟩ := trodVars_none hV
  have b0 := hval 0 22 v0 rfl rfl
  have k0 := h0
  have t0 : ∀ q ∈ d0.weights Tryz.prog 22, q ≤ reachBytes := fun q hq => of_decide_eq_true (List.all_eq_true.1 hsz q (DataW.weights_mem_each (j := 0) (t := 22) (d := d0) rfl rfl q hq))
  obtain ⟨lC, aC, capC, rfl, hlC, hlenC, hbC, hBC⟩ := openG_relsB k0 b0 t0
  have b1 := hval 1 23 v1 rfl rfl
  have k1 := h1
  have t1 : ∀ q ∈ d1.weights Tryz.prog 23, q ≤ reachBytes := fun q hq => of_decide_eq_true (List.all_eq_true.1 hsz q (DataW.weights_mem_each (j := 1) (t := 23) (d := d1) rfl rfl q hq))
  obtain ⟨lL, aL, capL, rfl, hlL, hlenL, zL⟩ := openG_txs13 k1 b1 t1
  have b2 := hval 2 47 v2 rfl rfl
  have k2 := h2
  have t2 : ∀ q ∈ d2.weights Tryz.prog 47, q ≤ reachBytes := fun q hq => of_decide_eq_true (List.all_eq_true.1 hsz q (DataW.weights_mem_each (j := 2) (t := 47) (d := d2) rfl rfl q hq))
  obtain ⟨koK, kvK, lK, aK, capK, rfl, hkbK, hslK, hlenK, hsK⟩ := openG_key22 k2 b2
  refine (tableruns_law lC aC capC lL aL capL koK kvK lK aK capK W hlC hbC hlenC hBC hlL hlenL zL hkbK hslK hlenK hsK).mono fun e W' ⟨he, hE⟩ => ?_
  subst he
  exact ⟨_, rfl, post_law Tryz.laidOutG Tryz.underlying4 (by kernel_rfl) (by kernel_rfl) rfl hW' rfl rfl rfl hE⟩

theorem tableRuns_inpl : (Rows.tableRunsRow.inPlace == Tryz.prog.inPlace 4) = true := by kernel_rfl
theorem tableRuns_unf : (Rows.tableRunsRow.unfollowed == Tryz.prog.unfollowed 4) = true := by kernel_rfl
theorem tableRuns_rec : (Rows.tableRunsRow.recurses == Tryz.prog.recurses 4) = true := by kernel_rfl
theorem tableRuns_named : (Rows.tableRunsRow.named == Tryz.prog.varsNamed 4) = true := by kernel_rfl
theorem tableRuns_closed : joinedFacts Tryz.prog 4 Tryz.f4 Rows.tableRunsSpec Rows.tableRunsRow = true := by
  unfold joinedFacts
  rw [cl_laid, cl_rowed, tableRuns_inpl, tableRuns_unf, tableRuns_rec, tableRuns_named, cl_plain, cl_heard]
  kernel_rfl
theorem tableRuns_func : Tryz.prog.funcNamed Rows.tableRunsRow.func = some 4 := by kernel_rfl
theorem tableRuns_inst : Tryz.f4.isInstance Tryz.prog Rows.tableRunsRow.origin Rows.tableRunsRow.targs := of_decide_eq_true (by kernel_rfl)
theorem tableRuns_wrap : Tryz.f4.isWrapper Tryz.prog Rows.tableRunsRow.wrapper Rows.tableRunsRow.mainSum := by
  unfold Func.isWrapper; first | (rw [if_pos (by decide +kernel)]; kernel_rfl) | (rw [if_neg (by decide +kernel)]; exact ⟨rfl, rfl⟩)
theorem tableRuns_holds : Rows.TableRunsSaid :=
  OpenClaim.holds_of_wide 4 Tryz.f4 rfl rfl rfl rfl rfl rfl rfl ⟨rfl, rfl, rfl, rfl, rfl⟩ rfl rfl rfl rfl rfl tableRuns_func Tryz.func4 tableRuns_closed
    tableRuns_inst tableRuns_wrap
    (fun os started H enc _ => tableRuns_lifted os started H enc)
#print axioms tableRuns_holds

end Go.Proofs.YtdgalkljngigeaaGreat
