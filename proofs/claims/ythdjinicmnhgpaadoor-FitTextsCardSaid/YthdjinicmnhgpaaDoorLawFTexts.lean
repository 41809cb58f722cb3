/-
FitTexts holds: for every input the call returns true, and each argument reads behind it as it did; the listed variables read as the program's text lays them (tied).
-/
import Derived.Test.YthdjinicmnhgpaaDoorFitTx
import Derived.Test.YthdjinicmnhgpaaDoorOpenH
import Derived.Test.YthdjinicmnhgpaaDoorCards
import Derived.Test.YthdjinicmnhgpaaDoorTie
import Derived.ProofKit
import Derived.LaidMore
import Derived.Stop.LaidErr
import Derived.Stop.Joined
import Derived.LaidHandle
namespace Go.Proofs.YthdjinicmnhgpaaDoor
open Go.RowKit Go.ChangeShapes Go.WideShapes Go.ChangeAt

set_option maxRecDepth 100000 in
/-- What the listed variables hold. -/
theorem of_laid {W : World} (h : laidMetH Tryd.prog Rows.fitTextsRow.laid W) : Tab W ∧ Non W := by
  rw [MakeChecks.laidMetH_plain _ _ _ (by kernel_rfl)] at h
  have h3 := (laidMet.tail (laidMet.tail h))
  have h4 := laidMet.tail h3
  refine ⟨Lib.tabIs_of_head (g := 1) (t := 84) (e := 37) (n := 20) (by kernel_rfl) (by kernel_rfl) Tryd.underlying84 Tryd.underlying37 (by kernel_rfl) (by kernel_rfl) h3, ?_⟩
  obtain ⟨ps, ⟨g', t', cs, fuel, p, q, hg', ht', hvar, hd, _, _⟩, _⟩ := h4
  have hgn : Tryd.prog.globalNamed "lacuna/fit.none" = some 0 := by kernel_rfl
  have htn : (Tryd.prog.globals[0]?).map (·.type) = some 24 := by kernel_rfl
  obtain rfl := Option.some.inj (hgn.symm.trans hg')
  obtain rfl := Option.some.inj (htn.symm.trans ht')
  have hvc := fun k => World.var?_cell hg' hvar k
  have hlt : 0 < W.heap.size := by
    unfold World.var? at hvar
    rw [hg'] at hvar
    simp only [Option.bind_some] at hvar
    rcases Nat.lt_or_ge 0 W.heap.size with h' | h'
    · exact h'
    · rw [Array.getElem?_eq_none h'] at hvar; cases hvar
  obtain ⟨xs, m, e0, hx, hlen, hxl, hf⟩ := DataW.trod_struct Tryd.underlying24 hd
  have c0 : Tryd.prog.cellsOf 24 = 3 := by kernel_rfl
  have c1 : Tryd.prog.cellsOf 3 = 1 := by kernel_rfl
  have c2 : Tryd.prog.cellsOf 22 = 1 := by kernel_rfl
  rw [c0] at hlen
  obtain ⟨l⟩ := cs
  match l, hlen with
  | [v0, v1, v2], _ =>
    have h0 : DataW.trod _ Tryd.prog W 0 _ _ m 3 ((([v0, v1, v2] : List Value).drop 0).take (Tryd.prog.cellsOf 3)) = xs[0]? := (hf 0 _ rfl).trans rfl
    have h1 : DataW.trod _ Tryd.prog W 0 _ _ m 3 ((([v0, v1, v2] : List Value).drop 1).take (Tryd.prog.cellsOf 3)) = xs[1]? := (hf 1 _ rfl).trans rfl
    have h2 : DataW.trod _ Tryd.prog W 0 _ _ m 22 ((([v0, v1, v2] : List Value).drop 2).take (Tryd.prog.cellsOf 22)) = xs[2]? := (hf 2 _ rfl).trans rfl
    rw [c1] at h0 h1
    rw [c2] at h2
    simp only [List.drop_succ_cons, List.drop_zero, List.take_succ_cons, List.take_zero] at h0 h1 h2
    match xs, hxl with
    | [x0, x1, x2], _ =>
      obtain ⟨n0, r0, q0, _⟩ := DataW.trod_int Tryd.underlying3 (show DataW.trod _ Tryd.prog W 0 _ _ m 3 [v0] = some x0 from h0)
      obtain ⟨n1, r1, q1, _⟩ := DataW.trod_int Tryd.underlying3 (show DataW.trod _ Tryd.prog W 0 _ _ m 3 [v1] = some x1 from h1)
      obtain ⟨n2, r2, q2, _⟩ := DataW.trod_int Tryd.underlying22 (show DataW.trod _ Tryd.prog W 0 _ _ m 22 [v2] = some x2 from h2)
      have hx1 := congrArg Prod.fst hx
      rw [q0, q1, q2] at hx1
      unfold Rows.laid_lacuna_fit_none at hx1
      simp only [List.map_cons, List.map_nil, DataW.agg.injEq, List.cons.injEq, DataW.lit.injEq, Lit.int.injEq, true_and, and_true] at hx1
      obtain ⟨rfl, rfl, rfl⟩ := hx1
      simp only [List.cons.injEq, and_true] at r0 r1 r2
      subst r0 r1 r2
      exact ⟨⟨hvc 0, hvc 1, hvc 2⟩, hlt⟩

set_option maxRecDepth 100000 in
/-- The door's own heap meets the condition. -/
theorem door_met (os : Os) (args : Array Value) : laidMetH Tryd.prog Rows.fitTextsRow.laid ((World.doorLaid Tryd.prog 400 os).forCall (fun _ _ => 0) ⟨#[], args, []⟩).memory :=
  laidMetH_of_parts3 (fuel := 8) (laidMet_of_run' 8 (by kernel_rfl) (by kernel_rfl)) (by kernel_rfl) (by kernel_rfl)

set_option maxRecDepth 100000 in
theorem fitTexts_lifted (os : Os) (started : os.Started) (H : Type) (enc : TypeId × Value → H) :
    ReturnsInHanded {} Tryd.checked os 3 .any (fun w args => (Rows.fitTextsSpec.pre enc Tryd.prog Tryd.f3 [] false w args ∧ laidMetH Tryd.prog Rows.fitTextsRow.laid w) ∧ sizedMet enc Tryd.prog Tryd.f3 (OpenSpec.ofChange Rows.fitTextsSpec) false w args) (Rows.fitTextsSpec.post enc Tryd.prog Tryd.f3 false true false false) := by
  refine returnsInHanded_of_change_and (C := Tryd.checked) (X := fun w _ => laidMetH Tryd.prog Rows.fitTextsRow.laid w) (fun _ _ _ hh h => h.of_heap hh) Tryd.ownG started (by kernel_rfl) Tryd.func3
    (ChangeSpec.witness_shaped (enc := enc) (C := Tryd.checked) (os := os) (X := fun w _ => laidMetH Tryd.prog Rows.fitTextsRow.laid w) false (World.doorLaid Tryd.prog 400 os) #[.int .i64 0, .int .i64 0, .int .i64 0] 8 rfl (World.shaped_of_RefB (by kernel_rfl) (by kernel_rfl)) (by kernel_rfl) (by kernel_rfl) (by kernel_rfl) (door_met os _)) ?_
  intro W base args ds gs before hval0 hW _ _ hL _
  have hval : ∀ (j : Nat) t v, Tryd.f3.params[j]? = some t → args[j]? = some v → Value.okWide Tryd.prog W .any base t v := hval0
  have hW' := hW
  obtain ⟨p, q, hA0, hV, rfl, hfz, hnd⟩ := hW
  have hA : DataW.TrodAll enc Tryd.prog W 0 (fun _ => true) true Tryd.f3.params.toList args.toList ds p := hA0
  rw [Tryd.params3] at hA hval
  obtain ⟨v0, v1, v2, d0, d1, d2, p0, p1, p2, rfl, rfl, rfl, h0, h1, h2⟩ := trodAll_three hA
  obtain ⟨rfl, rfl⟩ := trodVars_none hV
  obtain ⟨n0, rfl, rfl, rfl, w0⟩ := open_int Tryd.underlying3 (hval 0 3 v0 rfl rfl) h0
  obtain ⟨n1, rfl, rfl, rfl, w1⟩ := open_int Tryd.underlying3 (hval 1 3 v1 rfl rfl) h1
  obtain ⟨n2, rfl, rfl, rfl, w2⟩ := open_int Tryd.underlying3 (hval 2 3 v2 rfl rfl) h2
  obtain ⟨hT, hN⟩ := of_laid hL
  have b0 := wfG_i64 w0
  have b1 := wfG_i64 w1
  have b2 := wfG_i64 w2
  refine (fittexts_law n0 n1 n2 W b0.1 (by have := b0.2; omega) b1.1 (by have := b1.2; omega) b2.1 (by have := b2.2; omega) hT hN).mono fun e W' ⟨he, hE⟩ => ?_
  subst he
  exact ⟨_, rfl, post_law Tryd.laidOutG Tryd.underlying4 (by kernel_rfl) (by kernel_rfl) rfl hW' rfl rfl rfl hE⟩

theorem fitTexts_row : Rows.FitTextsSaid :=
  OpenClaim.holds_of_wide 3 Tryd.f3 rfl rfl rfl rfl rfl rfl rfl ⟨rfl, rfl, rfl, rfl, rfl⟩ rfl rfl rfl rfl rfl (by kernel_rfl) Tryd.func3 (by kernel_rfl)
    (of_decide_eq_true (by kernel_rfl)) (by unfold Func.isWrapper; first | (rw [if_pos (by decide +kernel)]; kernel_rfl) | (rw [if_neg (by decide +kernel)]; exact ⟨rfl, rfl⟩))
    (fun os started H enc _ => fitTexts_lifted os started H enc)

theorem fitTexts_holds : Rows.FitTextsCardSaid :=
  Claim7.holds_tied_plain_at .later [] [.data, .data, .data, .data] true Rows.fitTextsCard.stood.harness false
    fitTexts_row (fun _ h => by cases h) (by kernel_rfl) (fun _ h => by cases h) fitTexts_row_tie rfl ⟨rfl, rfl⟩ (by kernel_rfl) rfl
    (fun f fn hf hfn => by
      obtain rfl : f = 3 := Option.some.inj ((show Tryd.prog.funcNamed Rows.fitTextsRow.func = some 3 by kernel_rfl).symm.trans hf) |>.symm
      obtain rfl : fn = Tryd.f3 := (Option.some.inj (Tryd.func3.symm.trans hfn)).symm
      exact ⟨by kernel_rfl, fun j t ht => by
        rw [Tryd.params3] at ht
        have hm : t ∈ [3] := by
          have := Array.mem_of_getElem? ht
          simpa using this
        have hall : ([3].all fun u => !Tryd.prog.wantsStandIn u) = true := by kernel_rfl
        exact (show Tryd.prog.wantsStandIn t = false by simpa using List.all_eq_true.1 hall t hm)⟩)
    (by kernel_rfl)
#print axioms fitTexts_holds

end Go.Proofs.YthdjinicmnhgpaaDoor
