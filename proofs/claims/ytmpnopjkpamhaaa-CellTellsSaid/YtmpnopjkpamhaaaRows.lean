/-
  No cell of these rows narrows 'for every input' (looked for: loops, veiled, ifaces, maps, wideKeys, modest, calm, conditions, laid).
  DERIVED. THE GIVEN ROWS OF THIS SEAT. 5 by the template 'for every input the law returns true; each argument reads behind the call as it read before'; 0 by the template 'total and deterministic' (their statements: YtmpnopjkpamhaaaTotals.lean).
  GIVEN WITH THE SEED: the statements are not yours to turn. If you find one false, say at which input.
  Laid BY PROGRAM, IN A SANDBOX (cutbox-rows.mjs): the forced cells as the released guide's own fill.sh prints them over the translation 9d8fd12ef0e9ac47… (all of the seat's roots in one cut). By AI agents, Wed Nov 11 2026. No macro, syntax, notation, axiom, sorry.
-/
import Derived.Test.YtmpnopjkpamhaaaChecked
import GoSem.Claim
import GoSem.ClaimJoined
import GoSem.ClaimMapViews
import Derived.JoinedTies
import Derived.KernelRfl
namespace Go.Proofs.Ytmpnopjkpamhaaa
/- THE CELL 'sum', in the pinned program and in every row, IS THE sha256 OF THE DUMP (.gsa) THAT YtmpnopjkpamhaaaProg.lean LOADS. Nothing in Lean hashes anything: it is a label: what it is worth is what the hold of that sum in a sandbox is worth. -/
noncomputable def Try.pinned : Pinned := { name := "ytmpnopjkpamhaaa", sum := "9d8fd12ef0e9ac4758e2b963c4a6451eaefa925d0671dd4fa4af8c3d800f6d10", checked := Try.checked }
namespace Rows
def none {H : Type} : Left H := { results := [], args := [] }

/-- 'lacunalaw07.CellPuts': WHATEVER THE INPUT: true; the input reads as it did. -/
def cellPutsSpec : ChangeSpec := { name := "cellPuts", fn := fun _ => fun
  | [d1, d2, d3] => { results := [.lit (.bool true)], args := [d1, d2, d3] }
  | _ => none }
def cellPutsRow : OpenClaim := { program := "ytmpnopjkpamhaaa", sum := "9d8fd12ef0e9ac4758e2b963c4a6451eaefa925d0671dd4fa4af8c3d800f6d10", func := "lacuna/lacunalaw07.CellPuts", spec := "cellPuts", inPlace := ["math.Float64frombits", "math.Float64bits", "internal/abi.NoEscape", "internal/bytealg.MakeNoZero"], apart := false }
def CellPutsSaid : Prop := cellPutsRow.holds Try.pinned (OpenSpec.ofChange cellPutsSpec)

/-- ITS FALSE NEIGHBOUR: 'it returns false'. Refute it at one input. -/
def cellPutsWrong : ChangeSpec := { name := "cellPuts", fn := fun _ => fun
  | [d1, d2, d3] => { results := [.lit (.bool false)], args := [d1, d2, d3] }
  | _ => none }
def CellPutsWrongFalsely : Prop := cellPutsRow.holds Try.pinned (OpenSpec.ofChange cellPutsWrong)

/-- 'lacunalaw07.CellShort': WHATEVER THE INPUT: true; the input reads as it did. -/
def cellShortSpec : ChangeSpec := { name := "cellShort", fn := fun _ => fun
  | [d1, d2] => { results := [.lit (.bool true)], args := [d1, d2] }
  | _ => none }
def cellShortRow : OpenClaim := { program := "ytmpnopjkpamhaaa", sum := "9d8fd12ef0e9ac4758e2b963c4a6451eaefa925d0671dd4fa4af8c3d800f6d10", func := "lacuna/lacunalaw07.CellShort", spec := "cellShort", inPlace := ["math.Float64frombits", "math.Float64bits", "internal/abi.NoEscape", "internal/bytealg.MakeNoZero"], apart := false }
def CellShortSaid : Prop := cellShortRow.holds Try.pinned (OpenSpec.ofChange cellShortSpec)

/-- ITS FALSE NEIGHBOUR: 'it returns false'. Refute it at one input. -/
def cellShortWrong : ChangeSpec := { name := "cellShort", fn := fun _ => fun
  | [d1, d2] => { results := [.lit (.bool false)], args := [d1, d2] }
  | _ => none }
def CellShortWrongFalsely : Prop := cellShortRow.holds Try.pinned (OpenSpec.ofChange cellShortWrong)

/-- 'lacunalaw07.CellTells': WHATEVER THE INPUT: true; the input reads as it did. -/
def cellTellsSpec : ChangeSpec := { name := "cellTells", fn := fun _ => fun
  | [d1, d2, d3] => { results := [.lit (.bool true)], args := [d1, d2, d3] }
  | _ => none }
def cellTellsRow : OpenClaim := { program := "ytmpnopjkpamhaaa", sum := "9d8fd12ef0e9ac4758e2b963c4a6451eaefa925d0671dd4fa4af8c3d800f6d10", func := "lacuna/lacunalaw07.CellTells", spec := "cellTells", inPlace := ["math.Float64frombits", "math.Float64bits", "internal/abi.NoEscape", "internal/bytealg.MakeNoZero"], apart := false }
def CellTellsSaid : Prop := cellTellsRow.holds Try.pinned (OpenSpec.ofChange cellTellsSpec)

/-- ITS FALSE NEIGHBOUR: 'it returns false'. Refute it at one input. -/
def cellTellsWrong : ChangeSpec := { name := "cellTells", fn := fun _ => fun
  | [d1, d2, d3] => { results := [.lit (.bool false)], args := [d1, d2, d3] }
  | _ => none }
def CellTellsWrongFalsely : Prop := cellTellsRow.holds Try.pinned (OpenSpec.ofChange cellTellsWrong)

/-- 'lacunalaw07.CellTakes': WHATEVER THE INPUT: true; the input reads as it did. -/
def cellTakesSpec : ChangeSpec := { name := "cellTakes", fn := fun _ => fun
  | [d1, d2] => { results := [.lit (.bool true)], args := [d1, d2] }
  | _ => none }
def cellTakesRow : OpenClaim := { program := "ytmpnopjkpamhaaa", sum := "9d8fd12ef0e9ac4758e2b963c4a6451eaefa925d0671dd4fa4af8c3d800f6d10", func := "lacuna/lacunalaw07.CellTakes", spec := "cellTakes", inPlace := ["math.Float64frombits", "math.Float64bits", "internal/abi.NoEscape", "internal/bytealg.MakeNoZero"], apart := false }
def CellTakesSaid : Prop := cellTakesRow.holds Try.pinned (OpenSpec.ofChange cellTakesSpec)

/-- ITS FALSE NEIGHBOUR: 'it returns false'. Refute it at one input. -/
def cellTakesWrong : ChangeSpec := { name := "cellTakes", fn := fun _ => fun
  | [d1, d2] => { results := [.lit (.bool false)], args := [d1, d2] }
  | _ => none }
def CellTakesWrongFalsely : Prop := cellTakesRow.holds Try.pinned (OpenSpec.ofChange cellTakesWrong)

/-- 'lacunalaw07.CellBack': WHATEVER THE INPUT: true; the input reads as it did. -/
def cellBackSpec : ChangeSpec := { name := "cellBack", fn := fun _ => fun
  | [d1, d2, d3] => { results := [.lit (.bool true)], args := [d1, d2, d3] }
  | _ => none }
def cellBackRow : OpenClaim := { program := "ytmpnopjkpamhaaa", sum := "9d8fd12ef0e9ac4758e2b963c4a6451eaefa925d0671dd4fa4af8c3d800f6d10", func := "lacuna/lacunalaw07.CellBack", spec := "cellBack", inPlace := ["math.Float64frombits", "math.Float64bits", "internal/abi.NoEscape", "internal/bytealg.MakeNoZero"], apart := false }
def CellBackSaid : Prop := cellBackRow.holds Try.pinned (OpenSpec.ofChange cellBackSpec)

/-- ITS FALSE NEIGHBOUR: 'it returns false'. Refute it at one input. -/
def cellBackWrong : ChangeSpec := { name := "cellBack", fn := fun _ => fun
  | [d1, d2, d3] => { results := [.lit (.bool false)], args := [d1, d2, d3] }
  | _ => none }
def CellBackWrongFalsely : Prop := cellBackRow.holds Try.pinned (OpenSpec.ofChange cellBackWrong)

/- THE SECOND FORM. 'bulk': how many values and letters a reading holds, each counted each time it is reached (what is shared counts as often as it is met; a slice's spare places count too). A statement '..UptoSaid' is the law's where the arguments, and the package variables that the reading takes, are together of bulk at most 1048576: NARROWER than '..Said'. Prove '..Said' where nothing that the law and all that it calls make is longer than what came in: it says more and counts as full. Else prove '..UptoSaid'. A law counts once. -/
mutual
def uptoBulk {H : Type} : DataW H → Nat
  | .lit (.string bytes) => bytes.length + 1
  | .lit _ => 1
  | .nil => 1
  | .ptr d => uptoBulk d + 1
  | .slice elems spare => uptoBulkAll elems + uptoBulkAll spare + 1
  | .agg parts => uptoBulkAll parts + 1
  | .iface _ d => uptoBulk d + 1
  | .map entries => uptoBulkEntries entries + 1
  | .held _ => 1
def uptoBulkAll {H : Type} : List (DataW H) → Nat
  | [] => 0
  | d :: r => uptoBulk d + uptoBulkAll r
def uptoBulkEntries {H : Type} : List (Lit × DataW H) → Nat
  | [] => 0
  | x :: r => uptoBulkEntry x + uptoBulkEntries r
def uptoBulkEntry {H : Type} : Lit × DataW H → Nat
  | (.string bytes, d) => bytes.length + uptoBulk d + 1
  | (_, d) => uptoBulk d + 1
 end
def uptoSmall : (H : Type) → List (DataW H) → Bool := fun _ ds => decide (uptoBulkAll ds ≤ 1048576)
def OpenSpec.upto (s : _root_.Go.ChangeSpec) : _root_.Go.OpenSpec := { _root_.Go.OpenSpec.ofChange s with cond := some uptoSmall }

/-- 'lacunalaw07.CellPuts', WHERE WHAT IT READS IS OF BULK AT MOST 1048576: true; the input reads as it did. -/
def cellPutsUptoRow : OpenClaim := { program := "ytmpnopjkpamhaaa", sum := "9d8fd12ef0e9ac4758e2b963c4a6451eaefa925d0671dd4fa4af8c3d800f6d10", func := "lacuna/lacunalaw07.CellPuts", spec := "cellPuts", inPlace := ["math.Float64frombits", "math.Float64bits", "internal/abi.NoEscape", "internal/bytealg.MakeNoZero"], apart := false, narrowed := true }
def CellPutsUptoSaid : Prop := cellPutsUptoRow.holds Try.pinned (OpenSpec.upto cellPutsSpec)

/-- 'lacunalaw07.CellShort', WHERE WHAT IT READS IS OF BULK AT MOST 1048576: true; the input reads as it did. -/
def cellShortUptoRow : OpenClaim := { program := "ytmpnopjkpamhaaa", sum := "9d8fd12ef0e9ac4758e2b963c4a6451eaefa925d0671dd4fa4af8c3d800f6d10", func := "lacuna/lacunalaw07.CellShort", spec := "cellShort", inPlace := ["math.Float64frombits", "math.Float64bits", "internal/abi.NoEscape", "internal/bytealg.MakeNoZero"], apart := false, narrowed := true }
def CellShortUptoSaid : Prop := cellShortUptoRow.holds Try.pinned (OpenSpec.upto cellShortSpec)

/-- 'lacunalaw07.CellTells', WHERE WHAT IT READS IS OF BULK AT MOST 1048576: true; the input reads as it did. -/
def cellTellsUptoRow : OpenClaim := { program := "ytmpnopjkpamhaaa", sum := "9d8fd12ef0e9ac4758e2b963c4a6451eaefa925d0671dd4fa4af8c3d800f6d10", func := "lacuna/lacunalaw07.CellTells", spec := "cellTells", inPlace := ["math.Float64frombits", "math.Float64bits", "internal/abi.NoEscape", "internal/bytealg.MakeNoZero"], apart := false, narrowed := true }
def CellTellsUptoSaid : Prop := cellTellsUptoRow.holds Try.pinned (OpenSpec.upto cellTellsSpec)

/-- 'lacunalaw07.CellTakes', WHERE WHAT IT READS IS OF BULK AT MOST 1048576: true; the input reads as it did. -/
def cellTakesUptoRow : OpenClaim := { program := "ytmpnopjkpamhaaa", sum := "9d8fd12ef0e9ac4758e2b963c4a6451eaefa925d0671dd4fa4af8c3d800f6d10", func := "lacuna/lacunalaw07.CellTakes", spec := "cellTakes", inPlace := ["math.Float64frombits", "math.Float64bits", "internal/abi.NoEscape", "internal/bytealg.MakeNoZero"], apart := false, narrowed := true }
def CellTakesUptoSaid : Prop := cellTakesUptoRow.holds Try.pinned (OpenSpec.upto cellTakesSpec)

/-- 'lacunalaw07.CellBack', WHERE WHAT IT READS IS OF BULK AT MOST 1048576: true; the input reads as it did. -/
def cellBackUptoRow : OpenClaim := { program := "ytmpnopjkpamhaaa", sum := "9d8fd12ef0e9ac4758e2b963c4a6451eaefa925d0671dd4fa4af8c3d800f6d10", func := "lacuna/lacunalaw07.CellBack", spec := "cellBack", inPlace := ["math.Float64frombits", "math.Float64bits", "internal/abi.NoEscape", "internal/bytealg.MakeNoZero"], apart := false, narrowed := true }
def CellBackUptoSaid : Prop := cellBackUptoRow.holds Try.pinned (OpenSpec.upto cellBackSpec)

end Rows
end Go.Proofs.Ytmpnopjkpamhaaa
