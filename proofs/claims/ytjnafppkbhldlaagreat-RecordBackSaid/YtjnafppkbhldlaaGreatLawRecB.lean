/-
RecordBack holds: for every input the call returns true, and each argument reads behind it as it did.
-/
import Derived.Test.YtjnafppkbhldlaaGreatP26
import Derived.Test.YtjnafppkbhldlaaGreatRBack
import Derived.Test.YtjnafppkbhldlaaGreatOpenLd
set_option maxRecDepth 100000
set_option maxHeartbeats 16000000
namespace Go.Proofs.YtjnafppkbhldlaaGreat
open Go.RowKit Go.ChangeShapes Go.WideShapes Go.ChangeAt
theorem recordBack_lifted (os : Os) (started : os.Started) (H : Type) (enc : TypeId × Value → H) :
    ReturnsInHanded {} Tryz.checked os 9 .any (Rows.recordBackSpec.pre6 enc Tryz.prog Tryz.f9 Rows.recordBackRow.domain false) (Rows.recordBackSpec.post enc Tryz.prog Tryz.f9 false true false false) := by
  refine returnsInHanded_of_change_sized (C := Tryz.checked) Tryz.ownG started (by kernel_rfl) Tryz.func9
    (ChangeSpec.witness6 (enc := enc) (C := Tryz.checked) false ⟨#[], #[.slice none 0 0, .agg #[.int .u8 0, .int .u32 0, .int .u32 0, .int .u8 0, .slice none 0 0, .slice none 0 0, .slice none 0 0, .int .u8 0], .agg #[.int .u8 0, .int .u8 0, .slice none 0 0, .slice none 0 0]], []⟩ 8 (by kernel_rfl) (by kernel_rfl) (by kernel_rfl) (by kernel_rfl)) ?_
  intro W base args ds gs before hval0 hW hcnd hsz _
  have hval : ∀ (j : Nat) t v, Tryz.f9.params[j]? = some t → args[j]? = some v → Value.okWide Tryz.prog W .any base t v := hval0
  have hW' := hW
  obtain ⟨p, q, hA0, hV, rfl, hfz, hnd⟩ := hW
  have hA : DataW.TrodAll enc Tryz.prog W 0 (fun _ => true) true Tryz.f9.params.toList args.toList ds p := hA0
  rw [Tryz.params9] at hA hval hsz
  obtain ⟨v0, v1, v2, d0, d1, d2, p0, p1, p2, rfl, rfl, rfl, h0, h1, h2⟩ := trodAll_three hA
  obtain ⟨rfl, rfl⟩ := trodVars_none hV
  have b0 := hval 0 22 v0 rfl rfl
  have k0 := h0
  have t0 : ∀ q ∈ d0.weights Tryz.prog 22, q ≤ reachBytes := fun q hq => of_decide_eq_true (List.all_eq_true.1 hsz q (DataW.weights_mem_each (j := 0) (t := 22) (d := d0) rfl rfl q hq))
  obtain ⟨lC, aC, capC, rfl, hlC, hlenC, hbC⟩ := openG_rels k0 b0 t0
  have b1 := hval 1 111 v1 rfl rfl
  have k1 := h1
  have t1 : ∀ q ∈ d1.weights Tryz.prog 111, q ≤ reachBytes := fun q hq => of_decide_eq_true (List.all_eq_true.1 hsz q (DataW.weights_mem_each (j := 1) (t := 111) (d := d1) rfl rfl q hq))
  obtain ⟨X, rfl, hX, zX, tX⟩ := openG_ev13w k1 b1
  have b2 := hval 2 133 v2 rfl rfl
  have k2 := h2
  have t2 : ∀ q ∈ d2.weights Tryz.prog 133, q ≤ reachBytes := fun q hq => of_decide_eq_true (List.all_eq_true.1 hsz q (DataW.weights_mem_each (j := 2) (t := 133) (d := d2) rfl rfl q hq))
  obtain ⟨kdL, vrL, lbL, abL, cbL, pcL, apL, cpL, rfl, hkdL, hvrL, hlbL, hlblL, hibL, hcbL, hpcL, hplL, hpsL, hcpL⟩ := openG_load k2 b2
  refine (recback_law lC aC capC X kdL vrL lbL abL cbL pcL apL cpL W hlC hbC hlenC hX zX tX hvrL hlbL hlblL hibL hpcL hplL hpsL hcpL).mono fun e W' ⟨he, hE⟩ => ?_
  subst he
  exact ⟨_, rfl, post_law Tryz.laidOutG Tryz.underlying4 (by kernel_rfl) (by kernel_rfl) rfl hW' rfl rfl rfl hE⟩
theorem recordBack_inpl : (Rows.recordBackRow.inPlace == Tryz.prog.inPlace 9) = true := by kernel_rfl
theorem recordBack_unf : (Rows.recordBackRow.unfollowed == Tryz.prog.unfollowed 9) = true := by kernel_rfl
theorem recordBack_rec : (Rows.recordBackRow.recurses == Tryz.prog.recurses 9) = true := by kernel_rfl
theorem recordBack_named : (Rows.recordBackRow.named == Tryz.prog.varsNamed 9) = true := by kernel_rfl
theorem recordBack_closed : joinedFacts Tryz.prog 9 Tryz.f9 Rows.recordBackSpec Rows.recordBackRow = true := by
  unfold joinedFacts
  rw [cl_laid, cl_rowed, recordBack_inpl, recordBack_unf, recordBack_rec, recordBack_named, cl_plain, cl_heard]
  kernel_rfl
theorem recordBack_func : Tryz.prog.funcNamed Rows.recordBackRow.func = some 9 := by kernel_rfl
theorem recordBack_inst : Tryz.f9.isInstance Tryz.prog Rows.recordBackRow.origin Rows.recordBackRow.targs := of_decide_eq_true (by kernel_rfl)
theorem recordBack_wrap : Tryz.f9.isWrapper Tryz.prog Rows.recordBackRow.wrapper Rows.recordBackRow.mainSum := by
  unfold Func.isWrapper; first | (rw [if_pos (by decide +kernel)]; kernel_rfl) | (rw [if_neg (by decide +kernel)]; exact ⟨rfl, rfl⟩)
theorem recordBack_holds : Rows.RecordBackSaid :=
  OpenClaim.holds_of_wide 9 Tryz.f9 rfl rfl rfl rfl rfl rfl rfl ⟨rfl, rfl, rfl, rfl, rfl⟩ rfl rfl rfl rfl rfl recordBack_func Tryz.func9 recordBack_closed
    recordBack_inst recordBack_wrap
    (fun os started H enc _ => recordBack_lifted os started H enc)
#print axioms recordBack_holds
end Go.Proofs.YtjnafppkbhldlaaGreat
