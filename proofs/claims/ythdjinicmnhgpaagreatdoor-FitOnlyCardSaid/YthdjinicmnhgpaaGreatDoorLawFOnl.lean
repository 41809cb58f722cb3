/-
FitOnly holds: for every input the call returns true, and each argument reads behind it as it did; the listed variables read as the program's text lays them (tied).
-/
import Derived.Test.YthdjinicmnhgpaaGreatDoorFitOnl
import Derived.Test.YthdjinicmnhgpaaGreatDoorP18
import Derived.Test.YthdjinicmnhgpaaGreatDoorCards
import Derived.Test.YthdjinicmnhgpaaGreatDoorTie
import Derived.ProofKit
import Derived.LaidMore
import Derived.Stop.LaidErr
import Derived.Stop.Joined
import Derived.LaidHandle
namespace Go.Proofs.YthdjinicmnhgpaaGreatDoor
open Go.RowKit Go.ChangeShapes Go.WideShapes Go.ChangeAt

set_option maxRecDepth 100000 in
/-- What the listed variables hold. -/
theorem of_laid {W : World} (h : laidMetH Tryz.prog Rows.fitOnlyRow.laid W) : Tab W ∧ Non W := by
  rw [MakeChecks.laidMetH_plain _ _ _ (by kernel_rfl)] at h
  have h3 := (laidMet.tail (laidMet.tail h))
  have h4 := laidMet.tail h3
  refine ⟨Lib.tabIs_of_head (g := 1) (t := 220) (e := 60) (n := 20) (by kernel_rfl) (by kernel_rfl) Tryz.underlying220 Tryz.underlying60 (by kernel_rfl) (by kernel_rfl) h3, ?_⟩
  obtain ⟨ps, ⟨g', t', cs, fuel, p, q, hg', ht', hvar, hd, _, _⟩, _⟩ := h4
  have hgn : Tryz.prog.globalNamed "lacuna/fit.none" = some 0 := by kernel_rfl
  have htn : (Tryz.prog.globals[0]?).map (·.type) = some 36 := by kernel_rfl
  obtain rfl := Option.some.inj (hgn.symm.trans hg')
  obtain rfl := Option.some.inj (htn.symm.trans ht')
  have hvc := fun k => World.var?_cell hg' hvar k
  have hlt : 0 < W.heap.size := by
    unfold World.var? at hvar
    rw [hg'] at hvar
    simp only [Option.bind_some] at hvar
    rcases Nat.lt_or_ge 0 W.heap.size with h' | h'
    · exact h'
    · rw [Array.getElem?_eq_none h'] at hvar; cases hvar
  obtain ⟨xs, m, e0, hx, hlen, hxl, hf⟩ := DataW.trod_struct Tryz.underlying36 hd
  have c0 : Tryz.prog.cellsOf 36 = 3 := by kernel_rfl
  have c1 : Tryz.prog.cellsOf 3 = 1 := by kernel_rfl
  have c2 : Tryz.prog.cellsOf 28 = 1 := by kernel_rfl
  rw [c0] at hlen
  obtain ⟨l⟩ := cs
  match l, hlen with
  | [v0, v1, v2], _ =>
    have h0 : DataW.trod _ Tryz.prog W 0 _ _ m 3 ((([v0, v1, v2] : List Value).drop 0).take (Tryz.prog.cellsOf 3)) = xs[0]? := (hf 0 _ rfl).trans rfl
    have h1 : DataW.trod _ Tryz.prog W 0 _ _ m 3 ((([v0, v1, v2] : List Value).drop 1).take (Tryz.prog.cellsOf 3)) = xs[1]? := (hf 1 _ rfl).trans rfl
    have h2 : DataW.trod _ Tryz.prog W 0 _ _ m 28 ((([v0, v1, v2] : List Value).drop 2).take (Tryz.prog.cellsOf 28)) = xs[2]? := (hf 2 _ rfl).trans rfl
    rw [c1] at h0 h1
    rw [c2] at h2
    simp only [List.drop_succ_cons, List.drop_zero, List.take_succ_cons, List.take_zero] at h0 h1 h2
    match xs, hxl with
    | [x0, x1, x2], _ =>
      obtain ⟨n0, r0, q0, _⟩ := DataW.trod_int Tryz.underlying3 (show DataW.trod _ Tryz.prog W 0 _ _ m 3 [v0] = some x0 from h0)
      obtain ⟨n1, r1, q1, _⟩ := DataW.trod_int Tryz.underlying3 (show DataW.trod _ Tryz.prog W 0 _ _ m 3 [v1] = some x1 from h1)
      obtain ⟨n2, r2, q2, _⟩ := DataW.trod_int Tryz.underlying28 (show DataW.trod _ Tryz.prog W 0 _ _ m 28 [v2] = some x2 from h2)
      have hx1 := congrArg Prod.fst hx
      rw [q0, q1, q2] at hx1
      unfold Rows.laid_lacuna_fit_none at hx1
      simp only [List.map_cons, List.map_nil, DataW.agg.injEq, List.cons.injEq, DataW.lit.injEq, Lit.int.injEq, true_and, and_true] at hx1
      obtain ⟨rfl, rfl, rfl⟩ := hx1
      simp only [List.cons.injEq, and_true] at r0 r1 r2
      subst r0 r1 r2
      exact ⟨⟨hvc 0, hvc 1, hvc 2⟩, hlt⟩

set_option maxRecDepth 100000 in
/-- The door's own heap meets the condition. -/
theorem door_met (os : Os) (args : Array Value) : laidMetH Tryz.prog Rows.fitOnlyRow.laid ((World.doorLaid Tryz.prog 400 os).forCall (fun _ _ => 0) ⟨#[], args, []⟩).memory :=
  laidMetH_of_parts3 (fuel := 8) (laidMet_of_run' 8 (by kernel_rfl) (by kernel_rfl)) (by kernel_rfl) (by kernel_rfl)

set_option maxRecDepth 100000 in
theorem fitOnly_lifted (os : Os) (started : os.Started) (H : Type) (enc : TypeId × Value → H) :
    ReturnsInHanded {} Tryz.checked os 4 .any (fun w args => (Rows.fitOnlySpec.pre enc Tryz.prog Tryz.f4 [] false w args ∧ laidMetH Tryz.prog Rows.fitOnlyRow.laid w) ∧ sizedMet enc Tryz.prog Tryz.f4 (OpenSpec.ofChange Rows.fitOnlySpec) false w args) (Rows.fitOnlySpec.post enc Tryz.prog Tryz.f4 false true false false) := by
  refine returnsInHanded_of_change_and (C := Tryz.checked) (X := fun w _ => laidMetH Tryz.prog Rows.fitOnlyRow.laid w) (fun _ _ _ hh h => h.of_heap hh) Tryz.ownG started (by kernel_rfl) Tryz.func4
    (ChangeSpec.witness_shaped (enc := enc) (C := Tryz.checked) (os := os) (X := fun w _ => laidMetH Tryz.prog Rows.fitOnlyRow.laid w) false (World.doorLaid Tryz.prog 400 os) #[.slice none 0 0, .slice none 0 0, .int .u8 0] 8 rfl (World.shaped_of_RefB (by kernel_rfl) (by kernel_rfl)) (by kernel_rfl) (by kernel_rfl) (by kernel_rfl) (door_met os _)) ?_
  intro W base args ds gs before hval0 hW _ hsz hL _
  have hval : ∀ (j : Nat) t v, Tryz.f4.params[j]? = some t → args[j]? = some v → Value.okWide Tryz.prog W .any base t v := hval0
  have hW' := hW
  obtain ⟨p, q, hA0, hV, rfl, hfz, hnd⟩ := hW
  have hA : DataW.TrodAll enc Tryz.prog W 0 (fun _ => true) true Tryz.f4.params.toList args.toList ds p := hA0
  rw [Tryz.params4] at hA hval hsz
  obtain ⟨v0, v1, v2, d0, d1, d2, p0, p1, p2, rfl, rfl, rfl, h0, h1, h2⟩ := trodAll_three hA
  obtain ⟨rfl, rfl⟩ := trodVars_none hV
  have b0 := hval 0 22 v0 rfl rfl
  have k0 := h0
  have t0 : ∀ q ∈ d0.weights Tryz.prog 22, q ≤ reachBytes := fun q hq => of_decide_eq_true (List.all_eq_true.1 hsz q (DataW.weights_mem_each (j := 0) (t := 22) (d := d0) rfl rfl q hq))
  obtain ⟨lC, aC, capC, rfl, hlC, hlenC, hbC⟩ := openG_rels k0 b0 t0
  have b1 := hval 1 23 v1 rfl rfl
  have k1 := h1
  have t1 : ∀ q ∈ d1.weights Tryz.prog 23, q ≤ reachBytes := fun q hq => of_decide_eq_true (List.all_eq_true.1 hsz q (DataW.weights_mem_each (j := 1) (t := 23) (d := d1) rfl rfl q hq))
  obtain ⟨lL, aL, capL, rfl, hlL, hlenL, zL⟩ := openG_txs13 k1 b1 t1
  have b2 := hval 2 5 v2 rfl rfl
  have k2 := h2
  obtain ⟨n2, rfl, rfl, rfl, w2⟩ := open_int Tryz.underlying5 b2 k2
  obtain ⟨hT, hN⟩ := of_laid hL
  refine (fitonly_law lC aC capC lL aL capL n2 W hT hN hlC hbC hlenC hlL hlenL zL (wfG_u8 w2)).mono fun e W' ⟨he, hE⟩ => ?_
  subst he
  exact ⟨_, rfl, post_law Tryz.laidOutG Tryz.underlying4 (by kernel_rfl) (by kernel_rfl) rfl hW' rfl rfl rfl hE⟩

theorem fitOnly_row : Rows.FitOnlySaid :=
  OpenClaim.holds_of_wide 4 Tryz.f4 rfl rfl rfl rfl rfl rfl rfl ⟨rfl, rfl, rfl, rfl, rfl⟩ rfl rfl rfl rfl rfl (by kernel_rfl) Tryz.func4 (by kernel_rfl)
    (of_decide_eq_true (by kernel_rfl)) (by unfold Func.isWrapper; first | (rw [if_pos (by decide +kernel)]; kernel_rfl) | (rw [if_neg (by decide +kernel)]; exact ⟨rfl, rfl⟩))
    (fun os started H enc _ => fitOnly_lifted os started H enc)

theorem fitOnly_holds : Rows.FitOnlyCardSaid :=
  Claim7.holds_tied_plain_at .later [] [.data, .data, .data, .data] true Rows.fitOnlyCard.stood.harness false
    fitOnly_row (fun _ h => by cases h) (by kernel_rfl) (fun _ h => by cases h) fitOnly_row_tie rfl ⟨rfl, rfl⟩ (by kernel_rfl) rfl
    (fun f fn hf hfn => by
      obtain rfl : f = 4 := Option.some.inj ((show Tryz.prog.funcNamed Rows.fitOnlyRow.func = some 4 by kernel_rfl).symm.trans hf) |>.symm
      obtain rfl : fn = Tryz.f4 := (Option.some.inj (Tryz.func4.symm.trans hfn)).symm
      exact ⟨by kernel_rfl, fun j t ht => by
        rw [Tryz.params4] at ht
        have hm : t ∈ [22, 23, 5] := by
          have := Array.mem_of_getElem? ht
          simpa using this
        have hall : ([22, 23, 5].all fun u => !Tryz.prog.wantsStandIn u) = true := by kernel_rfl
        exact (show Tryz.prog.wantsStandIn t = false by simpa using List.all_eq_true.1 hall t hm)⟩)
    (by kernel_rfl)
#print axioms fitOnly_holds

end Go.Proofs.YthdjinicmnhgpaaGreatDoor
