/-
  No cell of these rows narrows 'for every input' (looked for: loops, veiled, ifaces, maps, wideKeys, modest, calm, conditions, laid).
  DERIVED. THE GIVEN ROWS OF THIS SEAT. 12 by the template 'for every input the law returns true; each argument reads behind the call as it read before'; 0 by the template 'total and deterministic' (their statements: YtkofnmbkfaebcaaTotals.lean).
  GIVEN WITH THE SEED: the statements are not yours to turn. If you find one false, say at which input.
  Laid BY PROGRAM, IN A SANDBOX (cutbox-rows.mjs): the forced cells as the released guide's own fill.sh prints them over the translation 7a5c9c946d740d87… (all of the seat's roots in one cut). By AI agents, Wed Nov 11 2026. No macro, syntax, notation, axiom, sorry.
-/
import Derived.Test.YtkofnmbkfaebcaaChecked
import GoSem.Claim
import GoSem.ClaimJoined
import GoSem.ClaimMapViews
import Derived.JoinedTies
import Derived.KernelRfl
namespace Go.Proofs.Ytkofnmbkfaebcaa
/- THE CELL 'sum', in the pinned program and in every row, IS THE sha256 OF THE DUMP (.gsa) THAT YtkofnmbkfaebcaaProg.lean LOADS. Nothing in Lean hashes anything: it is a label: what it is worth is what the hold of that sum in a sandbox is worth. -/
noncomputable def Try.pinned : Pinned := { name := "ytkofnmbkfaebcaa", sum := "7a5c9c946d740d870683015d3130edeb333eb8ea7050c2ded39a11dd195b1e50", checked := Try.checked }
namespace Rows
def none {H : Type} : Left H := { results := [], args := [] }

/-- 'lacunalaw23.TotalTurned': WHATEVER THE INPUT: true; the input reads as it did. -/
def totalTurnedSpec : ChangeSpec := { name := "totalTurned", fn := fun _ => fun
  | [d1, d2] => { results := [.lit (.bool true)], args := [d1, d2] }
  | _ => none }
def totalTurnedRow : OpenClaim := { program := "ytkofnmbkfaebcaa", sum := "7a5c9c946d740d870683015d3130edeb333eb8ea7050c2ded39a11dd195b1e50", func := "lacuna/lacunalaw23.TotalTurned", spec := "totalTurned", inPlace := ["math.Float64bits", "math.Float64frombits", "math.archTrunc"], unfollowed := true, recurses := true, apart := false }
def TotalTurnedSaid : Prop := totalTurnedRow.holds Try.pinned (OpenSpec.ofChange totalTurnedSpec)

/-- ITS FALSE NEIGHBOUR: 'it returns false'. Refute it at one input. -/
def totalTurnedWrong : ChangeSpec := { name := "totalTurned", fn := fun _ => fun
  | [d1, d2] => { results := [.lit (.bool false)], args := [d1, d2] }
  | _ => none }
def TotalTurnedWrongFalsely : Prop := totalTurnedRow.holds Try.pinned (OpenSpec.ofChange totalTurnedWrong)

/-- 'lacunalaw23.TotalTimes': WHATEVER THE INPUT: true; the input reads as it did. -/
def totalTimesSpec : ChangeSpec := { name := "totalTimes", fn := fun _ => fun
  | [d1, d2, d3] => { results := [.lit (.bool true)], args := [d1, d2, d3] }
  | _ => none }
def totalTimesRow : OpenClaim := { program := "ytkofnmbkfaebcaa", sum := "7a5c9c946d740d870683015d3130edeb333eb8ea7050c2ded39a11dd195b1e50", func := "lacuna/lacunalaw23.TotalTimes", spec := "totalTimes", inPlace := ["math.Float64frombits", "math.Float64bits", "math.archTrunc"], unfollowed := true, recurses := true, apart := false }
def TotalTimesSaid : Prop := totalTimesRow.holds Try.pinned (OpenSpec.ofChange totalTimesSpec)

/-- ITS FALSE NEIGHBOUR: 'it returns false'. Refute it at one input. -/
def totalTimesWrong : ChangeSpec := { name := "totalTimes", fn := fun _ => fun
  | [d1, d2, d3] => { results := [.lit (.bool false)], args := [d1, d2, d3] }
  | _ => none }
def TotalTimesWrongFalsely : Prop := totalTimesRow.holds Try.pinned (OpenSpec.ofChange totalTimesWrong)

/-- 'lacunalaw23.TotalTells': WHATEVER THE INPUT: true; the input reads as it did. -/
def totalTellsSpec : ChangeSpec := { name := "totalTells", fn := fun _ => fun
  | [d1, d2] => { results := [.lit (.bool true)], args := [d1, d2] }
  | _ => none }
def totalTellsRow : OpenClaim := { program := "ytkofnmbkfaebcaa", sum := "7a5c9c946d740d870683015d3130edeb333eb8ea7050c2ded39a11dd195b1e50", func := "lacuna/lacunalaw23.TotalTells", spec := "totalTells", inPlace := ["math.Float64frombits", "math.Float64bits", "math.archTrunc"], unfollowed := true, recurses := true, apart := false }
def TotalTellsSaid : Prop := totalTellsRow.holds Try.pinned (OpenSpec.ofChange totalTellsSpec)

/-- ITS FALSE NEIGHBOUR: 'it returns false'. Refute it at one input. -/
def totalTellsWrong : ChangeSpec := { name := "totalTells", fn := fun _ => fun
  | [d1, d2] => { results := [.lit (.bool false)], args := [d1, d2] }
  | _ => none }
def TotalTellsWrongFalsely : Prop := totalTellsRow.holds Try.pinned (OpenSpec.ofChange totalTellsWrong)

/-- 'lacunalaw23.TotalOrder': WHATEVER THE INPUT: true; the input reads as it did. -/
def totalOrderSpec : ChangeSpec := { name := "totalOrder", fn := fun _ => fun
  | [d1, d2] => { results := [.lit (.bool true)], args := [d1, d2] }
  | _ => none }
def totalOrderRow : OpenClaim := { program := "ytkofnmbkfaebcaa", sum := "7a5c9c946d740d870683015d3130edeb333eb8ea7050c2ded39a11dd195b1e50", func := "lacuna/lacunalaw23.TotalOrder", spec := "totalOrder", inPlace := ["math.Float64frombits", "math.Float64bits", "math.archTrunc"], unfollowed := true, recurses := true, apart := false }
def TotalOrderSaid : Prop := totalOrderRow.holds Try.pinned (OpenSpec.ofChange totalOrderSpec)

/-- ITS FALSE NEIGHBOUR: 'it returns false'. Refute it at one input. -/
def totalOrderWrong : ChangeSpec := { name := "totalOrder", fn := fun _ => fun
  | [d1, d2] => { results := [.lit (.bool false)], args := [d1, d2] }
  | _ => none }
def TotalOrderWrongFalsely : Prop := totalOrderRow.holds Try.pinned (OpenSpec.ofChange totalOrderWrong)

/-- 'lacunalaw06.ValueTells': WHATEVER THE INPUT: true; the input reads as it did. -/
def valueTellsSpec : ChangeSpec := { name := "valueTells", fn := fun _ => fun
  | [d1, d2] => { results := [.lit (.bool true)], args := [d1, d2] }
  | _ => none }
def valueTellsRow : OpenClaim := { program := "ytkofnmbkfaebcaa", sum := "7a5c9c946d740d870683015d3130edeb333eb8ea7050c2ded39a11dd195b1e50", func := "lacuna/lacunalaw06.ValueTells", spec := "valueTells", inPlace := ["math.Float64frombits", "math.Float64bits"], apart := false }
def ValueTellsSaid : Prop := valueTellsRow.holds Try.pinned (OpenSpec.ofChange valueTellsSpec)

/-- ITS FALSE NEIGHBOUR: 'it returns false'. Refute it at one input. -/
def valueTellsWrong : ChangeSpec := { name := "valueTells", fn := fun _ => fun
  | [d1, d2] => { results := [.lit (.bool false)], args := [d1, d2] }
  | _ => none }
def ValueTellsWrongFalsely : Prop := valueTellsRow.holds Try.pinned (OpenSpec.ofChange valueTellsWrong)

/-- 'lacunalaw06.ValuePuts': WHATEVER THE INPUT: true; the input reads as it did. -/
def valuePutsSpec : ChangeSpec := { name := "valuePuts", fn := fun _ => fun
  | [d1, d2, d3] => { results := [.lit (.bool true)], args := [d1, d2, d3] }
  | _ => none }
def valuePutsRow : OpenClaim := { program := "ytkofnmbkfaebcaa", sum := "7a5c9c946d740d870683015d3130edeb333eb8ea7050c2ded39a11dd195b1e50", func := "lacuna/lacunalaw06.ValuePuts", spec := "valuePuts", inPlace := ["math.Float64frombits", "math.Float64bits"], apart := false }
def ValuePutsSaid : Prop := valuePutsRow.holds Try.pinned (OpenSpec.ofChange valuePutsSpec)

/-- ITS FALSE NEIGHBOUR: 'it returns false'. Refute it at one input. -/
def valuePutsWrong : ChangeSpec := { name := "valuePuts", fn := fun _ => fun
  | [d1, d2, d3] => { results := [.lit (.bool false)], args := [d1, d2, d3] }
  | _ => none }
def ValuePutsWrongFalsely : Prop := valuePutsRow.holds Try.pinned (OpenSpec.ofChange valuePutsWrong)

/-- 'lacunalaw06.ValueApart': WHATEVER THE INPUT: true; the input reads as it did. -/
def valueApartSpec : ChangeSpec := { name := "valueApart", fn := fun _ => fun
  | [d1, d2, d3] => { results := [.lit (.bool true)], args := [d1, d2, d3] }
  | _ => none }
def valueApartRow : OpenClaim := { program := "ytkofnmbkfaebcaa", sum := "7a5c9c946d740d870683015d3130edeb333eb8ea7050c2ded39a11dd195b1e50", func := "lacuna/lacunalaw06.ValueApart", spec := "valueApart", inPlace := ["math.Float64frombits", "math.Float64bits"], apart := false }
def ValueApartSaid : Prop := valueApartRow.holds Try.pinned (OpenSpec.ofChange valueApartSpec)

/-- ITS FALSE NEIGHBOUR: 'it returns false'. Refute it at one input. -/
def valueApartWrong : ChangeSpec := { name := "valueApart", fn := fun _ => fun
  | [d1, d2, d3] => { results := [.lit (.bool false)], args := [d1, d2, d3] }
  | _ => none }
def ValueApartWrongFalsely : Prop := valueApartRow.holds Try.pinned (OpenSpec.ofChange valueApartWrong)

/-- 'lacunalaw06.ValueSame': WHATEVER THE INPUT: true; the input reads as it did. -/
def valueSameSpec : ChangeSpec := { name := "valueSame", fn := fun _ => fun
  | [d1, d2, d3] => { results := [.lit (.bool true)], args := [d1, d2, d3] }
  | _ => none }
def valueSameRow : OpenClaim := { program := "ytkofnmbkfaebcaa", sum := "7a5c9c946d740d870683015d3130edeb333eb8ea7050c2ded39a11dd195b1e50", func := "lacuna/lacunalaw06.ValueSame", spec := "valueSame", inPlace := ["math.Float64frombits", "math.Float64bits"], apart := false }
def ValueSameSaid : Prop := valueSameRow.holds Try.pinned (OpenSpec.ofChange valueSameSpec)

/-- ITS FALSE NEIGHBOUR: 'it returns false'. Refute it at one input. -/
def valueSameWrong : ChangeSpec := { name := "valueSame", fn := fun _ => fun
  | [d1, d2, d3] => { results := [.lit (.bool false)], args := [d1, d2, d3] }
  | _ => none }
def ValueSameWrongFalsely : Prop := valueSameRow.holds Try.pinned (OpenSpec.ofChange valueSameWrong)

/-- 'lacunalaw23.TotalColumns': WHATEVER THE INPUT: true; the input reads as it did. -/
def totalColumnsSpec : ChangeSpec := { name := "totalColumns", fn := fun _ => fun
  | [d1, d2] => { results := [.lit (.bool true)], args := [d1, d2] }
  | _ => none }
def totalColumnsRow : OpenClaim := { program := "ytkofnmbkfaebcaa", sum := "7a5c9c946d740d870683015d3130edeb333eb8ea7050c2ded39a11dd195b1e50", func := "lacuna/lacunalaw23.TotalColumns", spec := "totalColumns", inPlace := ["math.Float64frombits", "math.Float64bits", "math.archTrunc"], unfollowed := true, recurses := true, apart := false }
def TotalColumnsSaid : Prop := totalColumnsRow.holds Try.pinned (OpenSpec.ofChange totalColumnsSpec)

/-- ITS FALSE NEIGHBOUR: 'it returns false'. Refute it at one input. -/
def totalColumnsWrong : ChangeSpec := { name := "totalColumns", fn := fun _ => fun
  | [d1, d2] => { results := [.lit (.bool false)], args := [d1, d2] }
  | _ => none }
def TotalColumnsWrongFalsely : Prop := totalColumnsRow.holds Try.pinned (OpenSpec.ofChange totalColumnsWrong)

/-- 'lacunalaw06.ValueCut': WHATEVER THE INPUT: true; the input reads as it did. -/
def valueCutSpec : ChangeSpec := { name := "valueCut", fn := fun _ => fun
  | [d1, d2, d3] => { results := [.lit (.bool true)], args := [d1, d2, d3] }
  | _ => none }
def valueCutRow : OpenClaim := { program := "ytkofnmbkfaebcaa", sum := "7a5c9c946d740d870683015d3130edeb333eb8ea7050c2ded39a11dd195b1e50", func := "lacuna/lacunalaw06.ValueCut", spec := "valueCut", inPlace := ["math.Float64frombits", "math.Float64bits"], apart := false }
def ValueCutSaid : Prop := valueCutRow.holds Try.pinned (OpenSpec.ofChange valueCutSpec)

/-- ITS FALSE NEIGHBOUR: 'it returns false'. Refute it at one input. -/
def valueCutWrong : ChangeSpec := { name := "valueCut", fn := fun _ => fun
  | [d1, d2, d3] => { results := [.lit (.bool false)], args := [d1, d2, d3] }
  | _ => none }
def ValueCutWrongFalsely : Prop := valueCutRow.holds Try.pinned (OpenSpec.ofChange valueCutWrong)

/-- 'lacunalaw06.ValueTakes': WHATEVER THE INPUT: true; the input reads as it did. -/
def valueTakesSpec : ChangeSpec := { name := "valueTakes", fn := fun _ => fun
  | [d1, d2, d3] => { results := [.lit (.bool true)], args := [d1, d2, d3] }
  | _ => none }
def valueTakesRow : OpenClaim := { program := "ytkofnmbkfaebcaa", sum := "7a5c9c946d740d870683015d3130edeb333eb8ea7050c2ded39a11dd195b1e50", func := "lacuna/lacunalaw06.ValueTakes", spec := "valueTakes", inPlace := ["math.Float64frombits", "math.Float64bits"], apart := false }
def ValueTakesSaid : Prop := valueTakesRow.holds Try.pinned (OpenSpec.ofChange valueTakesSpec)

/-- ITS FALSE NEIGHBOUR: 'it returns false'. Refute it at one input. -/
def valueTakesWrong : ChangeSpec := { name := "valueTakes", fn := fun _ => fun
  | [d1, d2, d3] => { results := [.lit (.bool false)], args := [d1, d2, d3] }
  | _ => none }
def ValueTakesWrongFalsely : Prop := valueTakesRow.holds Try.pinned (OpenSpec.ofChange valueTakesWrong)

/-- 'lacunalaw06.ValueBack': WHATEVER THE INPUT: true; the input reads as it did. -/
def valueBackSpec : ChangeSpec := { name := "valueBack", fn := fun _ => fun
  | [d1, d2, d3] => { results := [.lit (.bool true)], args := [d1, d2, d3] }
  | _ => none }
def valueBackRow : OpenClaim := { program := "ytkofnmbkfaebcaa", sum := "7a5c9c946d740d870683015d3130edeb333eb8ea7050c2ded39a11dd195b1e50", func := "lacuna/lacunalaw06.ValueBack", spec := "valueBack", inPlace := ["math.Float64frombits", "math.Float64bits"], apart := false }
def ValueBackSaid : Prop := valueBackRow.holds Try.pinned (OpenSpec.ofChange valueBackSpec)

/-- ITS FALSE NEIGHBOUR: 'it returns false'. Refute it at one input. -/
def valueBackWrong : ChangeSpec := { name := "valueBack", fn := fun _ => fun
  | [d1, d2, d3] => { results := [.lit (.bool false)], args := [d1, d2, d3] }
  | _ => none }
def ValueBackWrongFalsely : Prop := valueBackRow.holds Try.pinned (OpenSpec.ofChange valueBackWrong)

/- THE SECOND FORM. 'bulk': how many values and letters a reading holds, each counted each time it is reached (what is shared counts as often as it is met; a slice's spare places count too). A statement '..UptoSaid' is the law's where the arguments, and the package variables that the reading takes, are together of bulk at most 1048576: NARROWER than '..Said'. Prove '..Said' where nothing that the law and all that it calls make is longer than what came in: it says more and counts as full. Else prove '..UptoSaid'. A law counts once. -/
mutual
def uptoBulk {H : Type} : DataW H → Nat
  | .lit (.string bytes) => bytes.length + 1
  | .lit _ => 1
  | .nil => 1
  | .ptr d => uptoBulk d + 1
  | .slice elems spare => uptoBulkAll elems + uptoBulkAll spare + 1
  | .agg parts => uptoBulkAll parts + 1
  | .iface _ d => uptoBulk d + 1
  | .map entries => uptoBulkEntries entries + 1
  | .held _ => 1
def uptoBulkAll {H : Type} : List (DataW H) → Nat
  | [] => 0
  | d :: r => uptoBulk d + uptoBulkAll r
def uptoBulkEntries {H : Type} : List (Lit × DataW H) → Nat
  | [] => 0
  | x :: r => uptoBulkEntry x + uptoBulkEntries r
def uptoBulkEntry {H : Type} : Lit × DataW H → Nat
  | (.string bytes, d) => bytes.length + uptoBulk d + 1
  | (_, d) => uptoBulk d + 1
 end
def uptoSmall : (H : Type) → List (DataW H) → Bool := fun _ ds => decide (uptoBulkAll ds ≤ 1048576)
def OpenSpec.upto (s : _root_.Go.ChangeSpec) : _root_.Go.OpenSpec := { _root_.Go.OpenSpec.ofChange s with cond := some uptoSmall }

/-- 'lacunalaw23.TotalTurned', WHERE WHAT IT READS IS OF BULK AT MOST 1048576: true; the input reads as it did. -/
def totalTurnedUptoRow : OpenClaim := { program := "ytkofnmbkfaebcaa", sum := "7a5c9c946d740d870683015d3130edeb333eb8ea7050c2ded39a11dd195b1e50", func := "lacuna/lacunalaw23.TotalTurned", spec := "totalTurned", inPlace := ["math.Float64bits", "math.Float64frombits", "math.archTrunc"], unfollowed := true, recurses := true, apart := false, narrowed := true }
def TotalTurnedUptoSaid : Prop := totalTurnedUptoRow.holds Try.pinned (OpenSpec.upto totalTurnedSpec)

/-- 'lacunalaw23.TotalTimes', WHERE WHAT IT READS IS OF BULK AT MOST 1048576: true; the input reads as it did. -/
def totalTimesUptoRow : OpenClaim := { program := "ytkofnmbkfaebcaa", sum := "7a5c9c946d740d870683015d3130edeb333eb8ea7050c2ded39a11dd195b1e50", func := "lacuna/lacunalaw23.TotalTimes", spec := "totalTimes", inPlace := ["math.Float64frombits", "math.Float64bits", "math.archTrunc"], unfollowed := true, recurses := true, apart := false, narrowed := true }
def TotalTimesUptoSaid : Prop := totalTimesUptoRow.holds Try.pinned (OpenSpec.upto totalTimesSpec)

/-- 'lacunalaw23.TotalTells', WHERE WHAT IT READS IS OF BULK AT MOST 1048576: true; the input reads as it did. -/
def totalTellsUptoRow : OpenClaim := { program := "ytkofnmbkfaebcaa", sum := "7a5c9c946d740d870683015d3130edeb333eb8ea7050c2ded39a11dd195b1e50", func := "lacuna/lacunalaw23.TotalTells", spec := "totalTells", inPlace := ["math.Float64frombits", "math.Float64bits", "math.archTrunc"], unfollowed := true, recurses := true, apart := false, narrowed := true }
def TotalTellsUptoSaid : Prop := totalTellsUptoRow.holds Try.pinned (OpenSpec.upto totalTellsSpec)

/-- 'lacunalaw23.TotalOrder', WHERE WHAT IT READS IS OF BULK AT MOST 1048576: true; the input reads as it did. -/
def totalOrderUptoRow : OpenClaim := { program := "ytkofnmbkfaebcaa", sum := "7a5c9c946d740d870683015d3130edeb333eb8ea7050c2ded39a11dd195b1e50", func := "lacuna/lacunalaw23.TotalOrder", spec := "totalOrder", inPlace := ["math.Float64frombits", "math.Float64bits", "math.archTrunc"], unfollowed := true, recurses := true, apart := false, narrowed := true }
def TotalOrderUptoSaid : Prop := totalOrderUptoRow.holds Try.pinned (OpenSpec.upto totalOrderSpec)

/-- 'lacunalaw06.ValueTells', WHERE WHAT IT READS IS OF BULK AT MOST 1048576: true; the input reads as it did. -/
def valueTellsUptoRow : OpenClaim := { program := "ytkofnmbkfaebcaa", sum := "7a5c9c946d740d870683015d3130edeb333eb8ea7050c2ded39a11dd195b1e50", func := "lacuna/lacunalaw06.ValueTells", spec := "valueTells", inPlace := ["math.Float64frombits", "math.Float64bits"], apart := false, narrowed := true }
def ValueTellsUptoSaid : Prop := valueTellsUptoRow.holds Try.pinned (OpenSpec.upto valueTellsSpec)

/-- 'lacunalaw06.ValuePuts', WHERE WHAT IT READS IS OF BULK AT MOST 1048576: true; the input reads as it did. -/
def valuePutsUptoRow : OpenClaim := { program := "ytkofnmbkfaebcaa", sum := "7a5c9c946d740d870683015d3130edeb333eb8ea7050c2ded39a11dd195b1e50", func := "lacuna/lacunalaw06.ValuePuts", spec := "valuePuts", inPlace := ["math.Float64frombits", "math.Float64bits"], apart := false, narrowed := true }
def ValuePutsUptoSaid : Prop := valuePutsUptoRow.holds Try.pinned (OpenSpec.upto valuePutsSpec)

/-- 'lacunalaw06.ValueApart', WHERE WHAT IT READS IS OF BULK AT MOST 1048576: true; the input reads as it did. -/
def valueApartUptoRow : OpenClaim := { program := "ytkofnmbkfaebcaa", sum := "7a5c9c946d740d870683015d3130edeb333eb8ea7050c2ded39a11dd195b1e50", func := "lacuna/lacunalaw06.ValueApart", spec := "valueApart", inPlace := ["math.Float64frombits", "math.Float64bits"], apart := false, narrowed := true }
def ValueApartUptoSaid : Prop := valueApartUptoRow.holds Try.pinned (OpenSpec.upto valueApartSpec)

/-- 'lacunalaw06.ValueSame', WHERE WHAT IT READS IS OF BULK AT MOST 1048576: true; the input reads as it did. -/
def valueSameUptoRow : OpenClaim := { program := "ytkofnmbkfaebcaa", sum := "7a5c9c946d740d870683015d3130edeb333eb8ea7050c2ded39a11dd195b1e50", func := "lacuna/lacunalaw06.ValueSame", spec := "valueSame", inPlace := ["math.Float64frombits", "math.Float64bits"], apart := false, narrowed := true }
def ValueSameUptoSaid : Prop := valueSameUptoRow.holds Try.pinned (OpenSpec.upto valueSameSpec)

/-- 'lacunalaw23.TotalColumns', WHERE WHAT IT READS IS OF BULK AT MOST 1048576: true; the input reads as it did. -/
def totalColumnsUptoRow : OpenClaim := { program := "ytkofnmbkfaebcaa", sum := "7a5c9c946d740d870683015d3130edeb333eb8ea7050c2ded39a11dd195b1e50", func := "lacuna/lacunalaw23.TotalColumns", spec := "totalColumns", inPlace := ["math.Float64frombits", "math.Float64bits", "math.archTrunc"], unfollowed := true, recurses := true, apart := false, narrowed := true }
def TotalColumnsUptoSaid : Prop := totalColumnsUptoRow.holds Try.pinned (OpenSpec.upto totalColumnsSpec)

/-- 'lacunalaw06.ValueCut', WHERE WHAT IT READS IS OF BULK AT MOST 1048576: true; the input reads as it did. -/
def valueCutUptoRow : OpenClaim := { program := "ytkofnmbkfaebcaa", sum := "7a5c9c946d740d870683015d3130edeb333eb8ea7050c2ded39a11dd195b1e50", func := "lacuna/lacunalaw06.ValueCut", spec := "valueCut", inPlace := ["math.Float64frombits", "math.Float64bits"], apart := false, narrowed := true }
def ValueCutUptoSaid : Prop := valueCutUptoRow.holds Try.pinned (OpenSpec.upto valueCutSpec)

/-- 'lacunalaw06.ValueTakes', WHERE WHAT IT READS IS OF BULK AT MOST 1048576: true; the input reads as it did. -/
def valueTakesUptoRow : OpenClaim := { program := "ytkofnmbkfaebcaa", sum := "7a5c9c946d740d870683015d3130edeb333eb8ea7050c2ded39a11dd195b1e50", func := "lacuna/lacunalaw06.ValueTakes", spec := "valueTakes", inPlace := ["math.Float64frombits", "math.Float64bits"], apart := false, narrowed := true }
def ValueTakesUptoSaid : Prop := valueTakesUptoRow.holds Try.pinned (OpenSpec.upto valueTakesSpec)

/-- 'lacunalaw06.ValueBack', WHERE WHAT IT READS IS OF BULK AT MOST 1048576: true; the input reads as it did. -/
def valueBackUptoRow : OpenClaim := { program := "ytkofnmbkfaebcaa", sum := "7a5c9c946d740d870683015d3130edeb333eb8ea7050c2ded39a11dd195b1e50", func := "lacuna/lacunalaw06.ValueBack", spec := "valueBack", inPlace := ["math.Float64frombits", "math.Float64bits"], apart := false, narrowed := true }
def ValueBackUptoSaid : Prop := valueBackUptoRow.holds Try.pinned (OpenSpec.upto valueBackSpec)

end Rows
end Go.Proofs.Ytkofnmbkfaebcaa
