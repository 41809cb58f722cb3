/-
WirePuts holds: for every input the call returns true, and each argument reads behind it as it did; the listed variables read as the program's text lays them (tied).
-/
import Derived.Test.YtihldginolbooaaGreatDoorP42
import Derived.Test.YtihldginolbooaaGreatDoorP41
import Derived.Test.YtihldginolbooaaGreatDoorP40
import Derived.Test.YtihldginolbooaaGreatDoorP29
import Derived.Test.YtihldginolbooaaGreatDoorCards
import Derived.Test.YtihldginolbooaaGreatDoorTie
import Derived.ProofKit
import Derived.LaidMore
import Derived.Stop.LaidErr
import Derived.Stop.Joined
import Derived.LaidHandle
import Derived.WideKeyElems2
namespace Go.Proofs.YtihldginolbooaaGreatDoor
open Go.RowKit Go.ChangeShapes Go.WideShapes Go.ChangeAt

set_option maxRecDepth 100000 in
/-- What the listed variables hold. -/
theorem of_laid {W : World} (h : laidMetH Tryz.prog Rows.wirePutsRow.laid W) : Tab W ∧ Kin W := by
  rw [MakeChecks.laidMetH_plain _ _ _ (by kernel_rfl)] at h
  have h3 := (laidMet.tail (laidMet.tail h))
  have h4 := laidMet.tail h3
  refine ⟨Lib.tabIs_of_head (g := 3) (t := 212) (e := 24) (n := 20) (by kernel_rfl) (by kernel_rfl) Tryz.underlying212 Tryz.underlying24 (by kernel_rfl) (by kernel_rfl) h3, ?_⟩
  obtain ⟨ps, ⟨g', t', cs, fuel, p, q, hg', ht', hvar, hd, _, _⟩, _⟩ := h4
  have hgn : Tryz.prog.globalNamed "lacuna/wire.kinds" = some 0 := by kernel_rfl
  have htn : (Tryz.prog.globals[0]?).map (·.type) = some 98 := by kernel_rfl
  obtain rfl := Option.some.inj (hgn.symm.trans hg')
  obtain rfl := Option.some.inj (htn.symm.trans ht')
  have hvc := fun k => World.var?_cell hg' hvar k
  have hlt : 0 < W.heap.size := by
    unfold World.var? at hvar
    rw [hg'] at hvar
    simp only [Option.bind_some] at hvar
    rcases Nat.lt_or_ge 0 W.heap.size with h' | h'
    · exact h'
    · rw [Array.getElem?_eq_none h'] at hvar; cases hvar
  rcases WideElems.open_map Tryz.underlying98 hd with ⟨_, hx⟩ | ⟨b, es, clock, n, _, hcs, hb, _, F, hx⟩
  · have hx1 := congrArg Prod.fst hx
    cases hx1
  · have hx1 : Rows.laid_lacuna_wire_kinds = DataW.map _ := congrArg Prod.fst hx
    have hown := World.ownsMap_of_fit (R := plainElem Tryz.prog 5) hb F (fun x _ z hz => elemAt_plainElem_int Tryz.underlying5 hz)
    rw [← hx1] at hown
    have h4 : es.size = 4 := by
      unfold Rows.laid_lacuna_wire_kinds at hx1
      simp only [DataW.map.injEq] at hx1
      have h5 := congrArg List.length hx1
      rw [length_read] at h5
      exact h5.symm
    rw [h4] at hown
    obtain ⟨l⟩ := cs
    have hcs : l = [.map (some b)] := hcs
    subst hcs
    exact ⟨b, hvc 0, hown, hlt⟩

set_option maxRecDepth 100000 in
/-- The door's own heap meets the condition. -/
theorem door_met (os : Os) (args : Array Value) : laidMetH Tryz.prog Rows.wirePutsRow.laid ((World.doorLaid Tryz.prog 400 os).forCall (fun _ _ => 0) ⟨#[], args, []⟩).memory :=
  laidMetH_of_parts3 (fuel := 8) (laidMet_of_run' 8 (by kernel_rfl) (by kernel_rfl)) (by kernel_rfl) (by kernel_rfl)

set_option maxRecDepth 100000 in
theorem wirePuts_lifted (os : Os) (started : os.Started) (H : Type) (enc : TypeId × Value → H) :
    ReturnsInHanded {} Tryz.checked os 3 .any (fun w args => (Rows.wirePutsSpec.pre enc Tryz.prog Tryz.f3 [] false w args ∧ laidMetH Tryz.prog Rows.wirePutsRow.laid w) ∧ sizedMet enc Tryz.prog Tryz.f3 (OpenSpec.ofChange Rows.wirePutsSpec) false w args) (Rows.wirePutsSpec.post enc Tryz.prog Tryz.f3 false true false false) := by
  refine returnsInHanded_of_change_and (C := Tryz.checked) (X := fun w _ => laidMetH Tryz.prog Rows.wirePutsRow.laid w) (fun _ _ _ hh h => h.of_heap hh) Tryz.ownG started (by kernel_rfl) Tryz.func3
    (ChangeSpec.witness_shaped (enc := enc) (C := Tryz.checked) (os := os) (X := fun w _ => laidMetH Tryz.prog Rows.wirePutsRow.laid w) false (World.doorLaid Tryz.prog 400 os) #[.slice none 0 0, .agg #[.int .u8 0, .int .u32 0, .int .u64 0, .int .u32 0, .int .u32 0, .int .u32 0, .string ByteArray.empty, .int .u8 0, .slice none 0 0, .int .u8 0, .int .u32 0, .int .u32 0, .int .u8 0, .slice none 0 0, .slice none 0 0, .slice none 0 0, .int .u8 0], .agg #[.int .u8 0, .int .u32 0, .int .u64 0, .int .u32 0, .int .u32 0, .int .u32 0, .string ByteArray.empty, .int .u8 0, .slice none 0 0, .int .u8 0, .int .u32 0, .int .u32 0, .int .u8 0, .slice none 0 0, .slice none 0 0, .slice none 0 0, .int .u8 0]] 8 rfl (World.shaped_of_RefB (by kernel_rfl) (by kernel_rfl)) (by kernel_rfl) (by kernel_rfl) (by kernel_rfl) (door_met os _)) ?_
  intro W base args ds gs before hval0 hW _ hsz hL _
  have hval : ∀ (j : Nat) t v, Tryz.f3.params[j]? = some t → args[j]? = some v → Value.okWide Tryz.prog W .any base t v := hval0
  have hW' := hW
  obtain ⟨p, q, hA0, hV, rfl, hfz, hnd⟩ := hW
  have hA : DataW.TrodAll enc Tryz.prog W 0 (fun _ => true) true Tryz.f3.params.toList args.toList ds p := hA0
  rw [Tryz.params3] at hA hval hsz
  obtain ⟨v0, v1, v2, d0, d1, d2, p0, p1, p2, rfl, rfl, rfl, h0, h1, h2⟩ := trodAll_three hA
  obtain ⟨rfl, rfl⟩ := trodVars_none hV
  have b0 := hval 0 22 v0 rfl rfl
  have k0 := h0
  have t0 : ∀ q ∈ d0.weights Tryz.prog 22, q ≤ reachBytes := fun q hq => of_decide_eq_true (List.all_eq_true.1 hsz q (DataW.weights_mem_each (j := 0) (t := 22) (d := d0) rfl rfl q hq))
  obtain ⟨lC, aC, capC, rfl, hlC, hlenC, hbC⟩ := openG_rels k0 b0 t0
  have b1 := hval 1 35 v1 rfl rfl
  have k1 := h1
  have t1 : ∀ q ∈ d1.weights Tryz.prog 35, q ≤ reachBytes := fun q hq => of_decide_eq_true (List.all_eq_true.1 hsz q (DataW.weights_mem_each (j := 1) (t := 35) (d := d1) rfl rfl q hq))
  obtain ⟨m1, rfl, ha1, hw1, hz1, ht1, hn1⟩ := openG_msg20 k1 b1 t1
  have b2 := hval 2 35 v2 rfl rfl
  have k2 := h2
  have t2 : ∀ q ∈ d2.weights Tryz.prog 35, q ≤ reachBytes := fun q hq => of_decide_eq_true (List.all_eq_true.1 hsz q (DataW.weights_mem_each (j := 2) (t := 35) (d := d2) rfl rfl q hq))
  obtain ⟨m2, rfl, ha2, hw2, hz2, ht2, hn2⟩ := openG_msg20 k2 b2 t2
  obtain ⟨hT, hK⟩ := of_laid hL
  refine (wireputs_law lC aC capC m1 m2 W hK hT hlC hbC hlenC ha1 hw1 hz1 ht1 hn1 ha2 hw2 hz2 ht2 hn2).mono fun e W' ⟨he, hE⟩ => ?_
  subst he
  exact ⟨_, rfl, post_law Tryz.laidOutG Tryz.underlying4 (by kernel_rfl) (by kernel_rfl) rfl hW' rfl rfl rfl hE⟩

theorem wirePuts_row : Rows.WirePutsSaid :=
  OpenClaim.holds_of_wide 3 Tryz.f3 rfl rfl rfl rfl rfl rfl rfl ⟨rfl, rfl, rfl, rfl, rfl⟩ rfl rfl rfl rfl rfl (by kernel_rfl) Tryz.func3 (by kernel_rfl)
    (of_decide_eq_true (by kernel_rfl)) (by unfold Func.isWrapper; first | (rw [if_pos (by decide +kernel)]; kernel_rfl) | (rw [if_neg (by decide +kernel)]; exact ⟨rfl, rfl⟩))
    (fun os started H enc _ => wirePuts_lifted os started H enc)

theorem wirePuts_holds : Rows.WirePutsCardSaid :=
  Claim7.holds_tied_plain_at .later [] [.data, .data, .data, .mapped] true Rows.wirePutsCard.stood.harness false
    wirePuts_row (fun _ h => by cases h) (by kernel_rfl) (fun _ h => by cases h) wirePuts_row_tie rfl ⟨rfl, rfl⟩ (by kernel_rfl) rfl
    (fun f fn hf hfn => by
      obtain rfl : f = 3 := Option.some.inj ((show Tryz.prog.funcNamed Rows.wirePutsRow.func = some 3 by kernel_rfl).symm.trans hf) |>.symm
      obtain rfl : fn = Tryz.f3 := (Option.some.inj (Tryz.func3.symm.trans hfn)).symm
      exact ⟨by kernel_rfl, fun j t ht => by
        rw [Tryz.params3] at ht
        have hm : t ∈ [22, 35, 35] := by
          have := Array.mem_of_getElem? ht
          simpa using this
        have hall : ([22, 35, 35].all fun u => !Tryz.prog.wantsStandIn u) = true := by kernel_rfl
        exact (show Tryz.prog.wantsStandIn t = false by simpa using List.all_eq_true.1 hall t hm)⟩)
    (by kernel_rfl)
#print axioms wirePuts_holds

end Go.Proofs.YtihldginolbooaaGreatDoor
