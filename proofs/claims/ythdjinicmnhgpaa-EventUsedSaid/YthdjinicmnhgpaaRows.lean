/-
  No cell of these rows narrows 'for every input' (looked for: loops, veiled, ifaces, maps, wideKeys, modest, calm, conditions, laid).
  DERIVED. THE GIVEN ROWS OF THIS SEAT. 9 by the template 'for every input the law returns true; each argument reads behind the call as it read before'; 0 by the template 'total and deterministic' (their statements: YthdjinicmnhgpaaTotals.lean).
  GIVEN WITH THE SEED: the statements are not yours to turn. If you find one false, say at which input.
  Laid BY PROGRAM, IN A SANDBOX (cutbox-rows.mjs): the forced cells as the released guide's own fill.sh prints them over the translation 2f8231404605f2cc… (all of the seat's roots in one cut). By AI agents, Wed Nov 11 2026. No macro, syntax, notation, axiom, sorry.
-/
import Derived.Test.YthdjinicmnhgpaaChecked
import GoSem.Claim
import GoSem.ClaimJoined
import GoSem.ClaimMapViews
import Derived.JoinedTies
import Derived.KernelRfl
namespace Go.Proofs.Ythdjinicmnhgpaa
/- THE CELL 'sum', in the pinned program and in every row, IS THE sha256 OF THE DUMP (.gsa) THAT YthdjinicmnhgpaaProg.lean LOADS. Nothing in Lean hashes anything: it is a label: what it is worth is what the hold of that sum in a sandbox is worth. -/
noncomputable def Try.pinned : Pinned := { name := "ythdjinicmnhgpaa", sum := "2f8231404605f2cca105228b786bda6f29315a191b7daab4d47f040cf0334466", checked := Try.checked }
namespace Rows
def none {H : Type} : Left H := { results := [], args := [] }

/-- 'lacunalaw09.CatalogOwn': WHATEVER THE INPUT: true; the input reads as it did. -/
def catalogOwnSpec : ChangeSpec := { name := "catalogOwn", fn := fun _ => fun
  | [d] => { results := [.lit (.bool true)], args := [d] }
  | _ => none }
def catalogOwnRow : OpenClaim := { program := "ythdjinicmnhgpaa", sum := "2f8231404605f2cca105228b786bda6f29315a191b7daab4d47f040cf0334466", func := "lacuna/lacunalaw09.CatalogOwn", spec := "catalogOwn", inPlace := ["slices.overlaps[lacuna/rel.Rel]"], unfollowed := true, recurses := true, apart := false }
def CatalogOwnSaid : Prop := catalogOwnRow.holds Try.pinned (OpenSpec.ofChange catalogOwnSpec)

/-- ITS FALSE NEIGHBOUR: 'it returns false'. Refute it at one input. -/
def catalogOwnWrong : ChangeSpec := { name := "catalogOwn", fn := fun _ => fun
  | [d] => { results := [.lit (.bool false)], args := [d] }
  | _ => none }
def CatalogOwnWrongFalsely : Prop := catalogOwnRow.holds Try.pinned (OpenSpec.ofChange catalogOwnWrong)

/-- 'lacunalaw09.CatalogKeeps': WHATEVER THE INPUT: true; the input reads as it did. -/
def catalogKeepsSpec : ChangeSpec := { name := "catalogKeeps", fn := fun _ => fun
  | [d1, d2] => { results := [.lit (.bool true)], args := [d1, d2] }
  | _ => none }
def catalogKeepsRow : OpenClaim := { program := "ythdjinicmnhgpaa", sum := "2f8231404605f2cca105228b786bda6f29315a191b7daab4d47f040cf0334466", func := "lacuna/lacunalaw09.CatalogKeeps", spec := "catalogKeeps", inPlace := ["slices.overlaps[lacuna/rel.Rel]"], unfollowed := true, recurses := true, apart := false }
def CatalogKeepsSaid : Prop := catalogKeepsRow.holds Try.pinned (OpenSpec.ofChange catalogKeepsSpec)

/-- ITS FALSE NEIGHBOUR: 'it returns false'. Refute it at one input. -/
def catalogKeepsWrong : ChangeSpec := { name := "catalogKeeps", fn := fun _ => fun
  | [d1, d2] => { results := [.lit (.bool false)], args := [d1, d2] }
  | _ => none }
def CatalogKeepsWrongFalsely : Prop := catalogKeepsRow.holds Try.pinned (OpenSpec.ofChange catalogKeepsWrong)

/-- 'lacunalaw09.CatalogRuns': WHATEVER THE INPUT: true; the input reads as it did. -/
def catalogRunsSpec : ChangeSpec := { name := "catalogRuns", fn := fun _ => fun
  | [d1, d2, d3] => { results := [.lit (.bool true)], args := [d1, d2, d3] }
  | _ => none }
def catalogRunsRow : OpenClaim := { program := "ythdjinicmnhgpaa", sum := "2f8231404605f2cca105228b786bda6f29315a191b7daab4d47f040cf0334466", func := "lacuna/lacunalaw09.CatalogRuns", spec := "catalogRuns", inPlace := ["slices.overlaps[lacuna/rel.Rel]"], unfollowed := true, recurses := true, apart := false }
def CatalogRunsSaid : Prop := catalogRunsRow.holds Try.pinned (OpenSpec.ofChange catalogRunsSpec)

/-- ITS FALSE NEIGHBOUR: 'it returns false'. Refute it at one input. -/
def catalogRunsWrong : ChangeSpec := { name := "catalogRuns", fn := fun _ => fun
  | [d1, d2, d3] => { results := [.lit (.bool false)], args := [d1, d2, d3] }
  | _ => none }
def CatalogRunsWrongFalsely : Prop := catalogRunsRow.holds Try.pinned (OpenSpec.ofChange catalogRunsWrong)

/-- 'lacunalaw09.CatalogOf': WHATEVER THE INPUT: true; the input reads as it did. -/
def catalogOfSpec : ChangeSpec := { name := "catalogOf", fn := fun _ => fun
  | [d1, d2] => { results := [.lit (.bool true)], args := [d1, d2] }
  | _ => none }
def catalogOfRow : OpenClaim := { program := "ythdjinicmnhgpaa", sum := "2f8231404605f2cca105228b786bda6f29315a191b7daab4d47f040cf0334466", func := "lacuna/lacunalaw09.CatalogOf", spec := "catalogOf", inPlace := ["slices.overlaps[lacuna/rel.Rel]"], unfollowed := true, recurses := true, apart := false }
def CatalogOfSaid : Prop := catalogOfRow.holds Try.pinned (OpenSpec.ofChange catalogOfSpec)

/-- ITS FALSE NEIGHBOUR: 'it returns false'. Refute it at one input. -/
def catalogOfWrong : ChangeSpec := { name := "catalogOf", fn := fun _ => fun
  | [d1, d2] => { results := [.lit (.bool false)], args := [d1, d2] }
  | _ => none }
def CatalogOfWrongFalsely : Prop := catalogOfRow.holds Try.pinned (OpenSpec.ofChange catalogOfWrong)

/-- 'lacunalaw09.CatalogOrder': WHATEVER THE INPUT: true; the input reads as it did. -/
def catalogOrderSpec : ChangeSpec := { name := "catalogOrder", fn := fun _ => fun
  | [d] => { results := [.lit (.bool true)], args := [d] }
  | _ => none }
def catalogOrderRow : OpenClaim := { program := "ythdjinicmnhgpaa", sum := "2f8231404605f2cca105228b786bda6f29315a191b7daab4d47f040cf0334466", func := "lacuna/lacunalaw09.CatalogOrder", spec := "catalogOrder", inPlace := ["slices.overlaps[lacuna/rel.Rel]"], unfollowed := true, recurses := true, apart := false }
def CatalogOrderSaid : Prop := catalogOrderRow.holds Try.pinned (OpenSpec.ofChange catalogOrderSpec)

/-- ITS FALSE NEIGHBOUR: 'it returns false'. Refute it at one input. -/
def catalogOrderWrong : ChangeSpec := { name := "catalogOrder", fn := fun _ => fun
  | [d] => { results := [.lit (.bool false)], args := [d] }
  | _ => none }
def CatalogOrderWrongFalsely : Prop := catalogOrderRow.holds Try.pinned (OpenSpec.ofChange catalogOrderWrong)

/-- 'lacunalaw13.EventTells': WHATEVER THE INPUT: true; the input reads as it did. -/
def eventTellsSpec : ChangeSpec := { name := "eventTells", fn := fun _ => fun
  | [d1, d2, d3] => { results := [.lit (.bool true)], args := [d1, d2, d3] }
  | _ => none }
def eventTellsRow : OpenClaim := { program := "ythdjinicmnhgpaa", sum := "2f8231404605f2cca105228b786bda6f29315a191b7daab4d47f040cf0334466", func := "lacuna/lacunalaw13.EventTells", spec := "eventTells", inPlace := ["slices.overlaps[lacuna/rel.Rel]", "math.Float64frombits", "math.Float64bits"], unfollowed := true, recurses := true, apart := false }
def EventTellsSaid : Prop := eventTellsRow.holds Try.pinned (OpenSpec.ofChange eventTellsSpec)

/-- ITS FALSE NEIGHBOUR: 'it returns false'. Refute it at one input. -/
def eventTellsWrong : ChangeSpec := { name := "eventTells", fn := fun _ => fun
  | [d1, d2, d3] => { results := [.lit (.bool false)], args := [d1, d2, d3] }
  | _ => none }
def EventTellsWrongFalsely : Prop := eventTellsRow.holds Try.pinned (OpenSpec.ofChange eventTellsWrong)

/-- 'lacunalaw13.EventOwn': WHATEVER THE INPUT: true; the input reads as it did. -/
def eventOwnSpec : ChangeSpec := { name := "eventOwn", fn := fun _ => fun
  | [d] => { results := [.lit (.bool true)], args := [d] }
  | _ => none }
def eventOwnRow : OpenClaim := { program := "ythdjinicmnhgpaa", sum := "2f8231404605f2cca105228b786bda6f29315a191b7daab4d47f040cf0334466", func := "lacuna/lacunalaw13.EventOwn", spec := "eventOwn", inPlace := ["math.Float64frombits", "math.Float64bits", "slices.overlaps[lacuna/rel.Rel]"], unfollowed := true, recurses := true, apart := false }
def EventOwnSaid : Prop := eventOwnRow.holds Try.pinned (OpenSpec.ofChange eventOwnSpec)

/-- ITS FALSE NEIGHBOUR: 'it returns false'. Refute it at one input. -/
def eventOwnWrong : ChangeSpec := { name := "eventOwn", fn := fun _ => fun
  | [d] => { results := [.lit (.bool false)], args := [d] }
  | _ => none }
def EventOwnWrongFalsely : Prop := eventOwnRow.holds Try.pinned (OpenSpec.ofChange eventOwnWrong)

/-- 'lacunalaw13.EventEach': WHATEVER THE INPUT: true; the input reads as it did. -/
def eventEachSpec : ChangeSpec := { name := "eventEach", fn := fun _ => fun
  | [d1, d2] => { results := [.lit (.bool true)], args := [d1, d2] }
  | _ => none }
def eventEachRow : OpenClaim := { program := "ythdjinicmnhgpaa", sum := "2f8231404605f2cca105228b786bda6f29315a191b7daab4d47f040cf0334466", func := "lacuna/lacunalaw13.EventEach", spec := "eventEach", inPlace := ["slices.overlaps[lacuna/rel.Rel]", "math.Float64bits", "math.Float64frombits"], unfollowed := true, recurses := true, apart := false }
def EventEachSaid : Prop := eventEachRow.holds Try.pinned (OpenSpec.ofChange eventEachSpec)

/-- ITS FALSE NEIGHBOUR: 'it returns false'. Refute it at one input. -/
def eventEachWrong : ChangeSpec := { name := "eventEach", fn := fun _ => fun
  | [d1, d2] => { results := [.lit (.bool false)], args := [d1, d2] }
  | _ => none }
def EventEachWrongFalsely : Prop := eventEachRow.holds Try.pinned (OpenSpec.ofChange eventEachWrong)

/-- 'lacunalaw13.EventUsed': WHATEVER THE INPUT: true; the input reads as it did. -/
def eventUsedSpec : ChangeSpec := { name := "eventUsed", fn := fun _ => fun
  | [d1, d2] => { results := [.lit (.bool true)], args := [d1, d2] }
  | _ => none }
def eventUsedRow : OpenClaim := { program := "ythdjinicmnhgpaa", sum := "2f8231404605f2cca105228b786bda6f29315a191b7daab4d47f040cf0334466", func := "lacuna/lacunalaw13.EventUsed", spec := "eventUsed", inPlace := ["math.Float64frombits", "slices.overlaps[lacuna/rel.Rel]", "math.Float64bits"], unfollowed := true, recurses := true, apart := false }
def EventUsedSaid : Prop := eventUsedRow.holds Try.pinned (OpenSpec.ofChange eventUsedSpec)

/-- ITS FALSE NEIGHBOUR: 'it returns false'. Refute it at one input. -/
def eventUsedWrong : ChangeSpec := { name := "eventUsed", fn := fun _ => fun
  | [d1, d2] => { results := [.lit (.bool false)], args := [d1, d2] }
  | _ => none }
def EventUsedWrongFalsely : Prop := eventUsedRow.holds Try.pinned (OpenSpec.ofChange eventUsedWrong)

/- THE SECOND FORM. 'bulk': how many values and letters a reading holds, each counted each time it is reached (what is shared counts as often as it is met; a slice's spare places count too). A statement '..UptoSaid' is the law's where the arguments, and the package variables that the reading takes, are together of bulk at most 1048576: NARROWER than '..Said'. Prove '..Said' where nothing that the law and all that it calls make is longer than what came in: it says more and counts as full. Else prove '..UptoSaid'. A law counts once. -/
mutual
def uptoBulk {H : Type} : DataW H → Nat
  | .lit (.string bytes) => bytes.length + 1
  | .lit _ => 1
  | .nil => 1
  | .ptr d => uptoBulk d + 1
  | .slice elems spare => uptoBulkAll elems + uptoBulkAll spare + 1
  | .agg parts => uptoBulkAll parts + 1
  | .iface _ d => uptoBulk d + 1
  | .map entries => uptoBulkEntries entries + 1
  | .held _ => 1
def uptoBulkAll {H : Type} : List (DataW H) → Nat
  | [] => 0
  | d :: r => uptoBulk d + uptoBulkAll r
def uptoBulkEntries {H : Type} : List (Lit × DataW H) → Nat
  | [] => 0
  | x :: r => uptoBulkEntry x + uptoBulkEntries r
def uptoBulkEntry {H : Type} : Lit × DataW H → Nat
  | (.string bytes, d) => bytes.length + uptoBulk d + 1
  | (_, d) => uptoBulk d + 1
 end
def uptoSmall : (H : Type) → List (DataW H) → Bool := fun _ ds => decide (uptoBulkAll ds ≤ 1048576)
def OpenSpec.upto (s : _root_.Go.ChangeSpec) : _root_.Go.OpenSpec := { _root_.Go.OpenSpec.ofChange s with cond := some uptoSmall }

/-- 'lacunalaw09.CatalogOwn', WHERE WHAT IT READS IS OF BULK AT MOST 1048576: true; the input reads as it did. -/
def catalogOwnUptoRow : OpenClaim := { program := "ythdjinicmnhgpaa", sum := "2f8231404605f2cca105228b786bda6f29315a191b7daab4d47f040cf0334466", func := "lacuna/lacunalaw09.CatalogOwn", spec := "catalogOwn", inPlace := ["slices.overlaps[lacuna/rel.Rel]"], unfollowed := true, recurses := true, apart := false, narrowed := true }
def CatalogOwnUptoSaid : Prop := catalogOwnUptoRow.holds Try.pinned (OpenSpec.upto catalogOwnSpec)

/-- 'lacunalaw09.CatalogKeeps', WHERE WHAT IT READS IS OF BULK AT MOST 1048576: true; the input reads as it did. -/
def catalogKeepsUptoRow : OpenClaim := { program := "ythdjinicmnhgpaa", sum := "2f8231404605f2cca105228b786bda6f29315a191b7daab4d47f040cf0334466", func := "lacuna/lacunalaw09.CatalogKeeps", spec := "catalogKeeps", inPlace := ["slices.overlaps[lacuna/rel.Rel]"], unfollowed := true, recurses := true, apart := false, narrowed := true }
def CatalogKeepsUptoSaid : Prop := catalogKeepsUptoRow.holds Try.pinned (OpenSpec.upto catalogKeepsSpec)

/-- 'lacunalaw09.CatalogRuns', WHERE WHAT IT READS IS OF BULK AT MOST 1048576: true; the input reads as it did. -/
def catalogRunsUptoRow : OpenClaim := { program := "ythdjinicmnhgpaa", sum := "2f8231404605f2cca105228b786bda6f29315a191b7daab4d47f040cf0334466", func := "lacuna/lacunalaw09.CatalogRuns", spec := "catalogRuns", inPlace := ["slices.overlaps[lacuna/rel.Rel]"], unfollowed := true, recurses := true, apart := false, narrowed := true }
def CatalogRunsUptoSaid : Prop := catalogRunsUptoRow.holds Try.pinned (OpenSpec.upto catalogRunsSpec)

/-- 'lacunalaw09.CatalogOf', WHERE WHAT IT READS IS OF BULK AT MOST 1048576: true; the input reads as it did. -/
def catalogOfUptoRow : OpenClaim := { program := "ythdjinicmnhgpaa", sum := "2f8231404605f2cca105228b786bda6f29315a191b7daab4d47f040cf0334466", func := "lacuna/lacunalaw09.CatalogOf", spec := "catalogOf", inPlace := ["slices.overlaps[lacuna/rel.Rel]"], unfollowed := true, recurses := true, apart := false, narrowed := true }
def CatalogOfUptoSaid : Prop := catalogOfUptoRow.holds Try.pinned (OpenSpec.upto catalogOfSpec)

/-- 'lacunalaw09.CatalogOrder', WHERE WHAT IT READS IS OF BULK AT MOST 1048576: true; the input reads as it did. -/
def catalogOrderUptoRow : OpenClaim := { program := "ythdjinicmnhgpaa", sum := "2f8231404605f2cca105228b786bda6f29315a191b7daab4d47f040cf0334466", func := "lacuna/lacunalaw09.CatalogOrder", spec := "catalogOrder", inPlace := ["slices.overlaps[lacuna/rel.Rel]"], unfollowed := true, recurses := true, apart := false, narrowed := true }
def CatalogOrderUptoSaid : Prop := catalogOrderUptoRow.holds Try.pinned (OpenSpec.upto catalogOrderSpec)

/-- 'lacunalaw13.EventTells', WHERE WHAT IT READS IS OF BULK AT MOST 1048576: true; the input reads as it did. -/
def eventTellsUptoRow : OpenClaim := { program := "ythdjinicmnhgpaa", sum := "2f8231404605f2cca105228b786bda6f29315a191b7daab4d47f040cf0334466", func := "lacuna/lacunalaw13.EventTells", spec := "eventTells", inPlace := ["slices.overlaps[lacuna/rel.Rel]", "math.Float64frombits", "math.Float64bits"], unfollowed := true, recurses := true, apart := false, narrowed := true }
def EventTellsUptoSaid : Prop := eventTellsUptoRow.holds Try.pinned (OpenSpec.upto eventTellsSpec)

/-- 'lacunalaw13.EventOwn', WHERE WHAT IT READS IS OF BULK AT MOST 1048576: true; the input reads as it did. -/
def eventOwnUptoRow : OpenClaim := { program := "ythdjinicmnhgpaa", sum := "2f8231404605f2cca105228b786bda6f29315a191b7daab4d47f040cf0334466", func := "lacuna/lacunalaw13.EventOwn", spec := "eventOwn", inPlace := ["math.Float64frombits", "math.Float64bits", "slices.overlaps[lacuna/rel.Rel]"], unfollowed := true, recurses := true, apart := false, narrowed := true }
def EventOwnUptoSaid : Prop := eventOwnUptoRow.holds Try.pinned (OpenSpec.upto eventOwnSpec)

/-- 'lacunalaw13.EventEach', WHERE WHAT IT READS IS OF BULK AT MOST 1048576: true; the input reads as it did. -/
def eventEachUptoRow : OpenClaim := { program := "ythdjinicmnhgpaa", sum := "2f8231404605f2cca105228b786bda6f29315a191b7daab4d47f040cf0334466", func := "lacuna/lacunalaw13.EventEach", spec := "eventEach", inPlace := ["slices.overlaps[lacuna/rel.Rel]", "math.Float64bits", "math.Float64frombits"], unfollowed := true, recurses := true, apart := false, narrowed := true }
def EventEachUptoSaid : Prop := eventEachUptoRow.holds Try.pinned (OpenSpec.upto eventEachSpec)

/-- 'lacunalaw13.EventUsed', WHERE WHAT IT READS IS OF BULK AT MOST 1048576: true; the input reads as it did. -/
def eventUsedUptoRow : OpenClaim := { program := "ythdjinicmnhgpaa", sum := "2f8231404605f2cca105228b786bda6f29315a191b7daab4d47f040cf0334466", func := "lacuna/lacunalaw13.EventUsed", spec := "eventUsed", inPlace := ["math.Float64frombits", "slices.overlaps[lacuna/rel.Rel]", "math.Float64bits"], unfollowed := true, recurses := true, apart := false, narrowed := true }
def EventUsedUptoSaid : Prop := eventUsedUptoRow.holds Try.pinned (OpenSpec.upto eventUsedSpec)

end Rows
end Go.Proofs.Ythdjinicmnhgpaa
