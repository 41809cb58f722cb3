/-
  No cell of these rows narrows 'for every input' (looked for: loops, veiled, ifaces, maps, wideKeys, modest, calm, conditions, laid).
  DERIVED. THE GIVEN ROWS OF THIS SEAT. 11 by the template 'for every input the law returns true; each argument reads behind the call as it read before'; 0 by the template 'total and deterministic' (their statements: YtdbepkfblfhlhaaTotals.lean).
  GIVEN WITH THE SEED: the statements are not yours to turn. If you find one false, say at which input.
  Laid BY PROGRAM, IN A SANDBOX (cutbox-rows.mjs): the forced cells as the released guide's own fill.sh prints them over the translation 21faa421d9912c31… (all of the seat's roots in one cut). By AI agents, Wed Nov 11 2026. No macro, syntax, notation, axiom, sorry.
-/
import Derived.Test.YtdbepkfblfhlhaaChecked
import GoSem.Claim
import GoSem.ClaimJoined
import GoSem.ClaimMapViews
import Derived.JoinedTies
import Derived.KernelRfl
namespace Go.Proofs.Ytdbepkfblfhlhaa
/- THE CELL 'sum', in the pinned program and in every row, IS THE sha256 OF THE DUMP (.gsa) THAT YtdbepkfblfhlhaaProg.lean LOADS. Nothing in Lean hashes anything: it is a label: what it is worth is what the hold of that sum in a sandbox is worth. -/
noncomputable def Try.pinned : Pinned := { name := "ytdbepkfblfhlhaa", sum := "21faa421d9912c31de7ec3fd47e4b92888be2118d1e7819f66842ba772d7ecd0", checked := Try.checked }
namespace Rows
def none {H : Type} : Left H := { results := [], args := [] }

/-- 'lacunalaw23.TotalColumns': WHATEVER THE INPUT: true; the input reads as it did. -/
def totalColumnsSpec : ChangeSpec := { name := "totalColumns", fn := fun _ => fun
  | [d1, d2] => { results := [.lit (.bool true)], args := [d1, d2] }
  | _ => none }
def totalColumnsRow : OpenClaim := { program := "ytdbepkfblfhlhaa", sum := "21faa421d9912c31de7ec3fd47e4b92888be2118d1e7819f66842ba772d7ecd0", func := "lacuna/lacunalaw23.TotalColumns", spec := "totalColumns", inPlace := ["math.Float64frombits", "math.Float64bits", "math.archTrunc"], unfollowed := true, recurses := true, apart := false }
def TotalColumnsSaid : Prop := totalColumnsRow.holds Try.pinned (OpenSpec.ofChange totalColumnsSpec)

/-- ITS FALSE NEIGHBOUR: 'it returns false'. Refute it at one input. -/
def totalColumnsWrong : ChangeSpec := { name := "totalColumns", fn := fun _ => fun
  | [d1, d2] => { results := [.lit (.bool false)], args := [d1, d2] }
  | _ => none }
def TotalColumnsWrongFalsely : Prop := totalColumnsRow.holds Try.pinned (OpenSpec.ofChange totalColumnsWrong)

/-- 'lacunalaw12.ImageTells': WHATEVER THE INPUT: true; the input reads as it did. -/
def imageTellsSpec : ChangeSpec := { name := "imageTells", fn := fun _ => fun
  | [d1, d2] => { results := [.lit (.bool true)], args := [d1, d2] }
  | _ => none }
def imageTellsRow : OpenClaim := { program := "ytdbepkfblfhlhaa", sum := "21faa421d9912c31de7ec3fd47e4b92888be2118d1e7819f66842ba772d7ecd0", func := "lacuna/lacunalaw12.ImageTells", spec := "imageTells", inPlace := ["math.Float64frombits", "math.Float64bits"], unfollowed := true, recurses := true, apart := false }
def ImageTellsSaid : Prop := imageTellsRow.holds Try.pinned (OpenSpec.ofChange imageTellsSpec)

/-- ITS FALSE NEIGHBOUR: 'it returns false'. Refute it at one input. -/
def imageTellsWrong : ChangeSpec := { name := "imageTells", fn := fun _ => fun
  | [d1, d2] => { results := [.lit (.bool false)], args := [d1, d2] }
  | _ => none }
def ImageTellsWrongFalsely : Prop := imageTellsRow.holds Try.pinned (OpenSpec.ofChange imageTellsWrong)

/-- 'lacunalaw12.ImageKeys': WHATEVER THE INPUT: true; the input reads as it did. -/
def imageKeysSpec : ChangeSpec := { name := "imageKeys", fn := fun _ => fun
  | [d1, d2] => { results := [.lit (.bool true)], args := [d1, d2] }
  | _ => none }
def imageKeysRow : OpenClaim := { program := "ytdbepkfblfhlhaa", sum := "21faa421d9912c31de7ec3fd47e4b92888be2118d1e7819f66842ba772d7ecd0", func := "lacuna/lacunalaw12.ImageKeys", spec := "imageKeys", inPlace := ["math.Float64frombits", "math.Float64bits"], unfollowed := true, recurses := true, apart := false }
def ImageKeysSaid : Prop := imageKeysRow.holds Try.pinned (OpenSpec.ofChange imageKeysSpec)

/-- ITS FALSE NEIGHBOUR: 'it returns false'. Refute it at one input. -/
def imageKeysWrong : ChangeSpec := { name := "imageKeys", fn := fun _ => fun
  | [d1, d2] => { results := [.lit (.bool false)], args := [d1, d2] }
  | _ => none }
def ImageKeysWrongFalsely : Prop := imageKeysRow.holds Try.pinned (OpenSpec.ofChange imageKeysWrong)

/-- 'lacunalaw12.ImageStrict': WHATEVER THE INPUT: true; the input reads as it did. -/
def imageStrictSpec : ChangeSpec := { name := "imageStrict", fn := fun _ => fun
  | [d1, d2] => { results := [.lit (.bool true)], args := [d1, d2] }
  | _ => none }
def imageStrictRow : OpenClaim := { program := "ytdbepkfblfhlhaa", sum := "21faa421d9912c31de7ec3fd47e4b92888be2118d1e7819f66842ba772d7ecd0", func := "lacuna/lacunalaw12.ImageStrict", spec := "imageStrict", inPlace := ["math.Float64frombits", "math.Float64bits"], unfollowed := true, recurses := true, apart := false }
def ImageStrictSaid : Prop := imageStrictRow.holds Try.pinned (OpenSpec.ofChange imageStrictSpec)

/-- ITS FALSE NEIGHBOUR: 'it returns false'. Refute it at one input. -/
def imageStrictWrong : ChangeSpec := { name := "imageStrict", fn := fun _ => fun
  | [d1, d2] => { results := [.lit (.bool false)], args := [d1, d2] }
  | _ => none }
def ImageStrictWrongFalsely : Prop := imageStrictRow.holds Try.pinned (OpenSpec.ofChange imageStrictWrong)

/-- 'lacunalaw12.ImageRights': WHATEVER THE INPUT: true; the input reads as it did. -/
def imageRightsSpec : ChangeSpec := { name := "imageRights", fn := fun _ => fun
  | [d1, d2] => { results := [.lit (.bool true)], args := [d1, d2] }
  | _ => none }
def imageRightsRow : OpenClaim := { program := "ytdbepkfblfhlhaa", sum := "21faa421d9912c31de7ec3fd47e4b92888be2118d1e7819f66842ba772d7ecd0", func := "lacuna/lacunalaw12.ImageRights", spec := "imageRights", inPlace := ["math.Float64frombits", "math.Float64bits"], unfollowed := true, recurses := true, apart := false }
def ImageRightsSaid : Prop := imageRightsRow.holds Try.pinned (OpenSpec.ofChange imageRightsSpec)

/-- ITS FALSE NEIGHBOUR: 'it returns false'. Refute it at one input. -/
def imageRightsWrong : ChangeSpec := { name := "imageRights", fn := fun _ => fun
  | [d1, d2] => { results := [.lit (.bool false)], args := [d1, d2] }
  | _ => none }
def ImageRightsWrongFalsely : Prop := imageRightsRow.holds Try.pinned (OpenSpec.ofChange imageRightsWrong)

/-- 'lacunalaw12.ImageMerged': WHATEVER THE INPUT: true; the input reads as it did. -/
def imageMergedSpec : ChangeSpec := { name := "imageMerged", fn := fun _ => fun
  | [d1, d2] => { results := [.lit (.bool true)], args := [d1, d2] }
  | _ => none }
def imageMergedRow : OpenClaim := { program := "ytdbepkfblfhlhaa", sum := "21faa421d9912c31de7ec3fd47e4b92888be2118d1e7819f66842ba772d7ecd0", func := "lacuna/lacunalaw12.ImageMerged", spec := "imageMerged", inPlace := ["math.Float64frombits", "math.Float64bits"], unfollowed := true, recurses := true, apart := false }
def ImageMergedSaid : Prop := imageMergedRow.holds Try.pinned (OpenSpec.ofChange imageMergedSpec)

/-- ITS FALSE NEIGHBOUR: 'it returns false'. Refute it at one input. -/
def imageMergedWrong : ChangeSpec := { name := "imageMerged", fn := fun _ => fun
  | [d1, d2] => { results := [.lit (.bool false)], args := [d1, d2] }
  | _ => none }
def ImageMergedWrongFalsely : Prop := imageMergedRow.holds Try.pinned (OpenSpec.ofChange imageMergedWrong)

/-- 'lacunalaw10.RowEncodes': WHATEVER THE INPUT: true; the input reads as it did. -/
def rowEncodesSpec : ChangeSpec := { name := "rowEncodes", fn := fun _ => fun
  | [d1, d2, d3] => { results := [.lit (.bool true)], args := [d1, d2, d3] }
  | _ => none }
def rowEncodesRow : OpenClaim := { program := "ytdbepkfblfhlhaa", sum := "21faa421d9912c31de7ec3fd47e4b92888be2118d1e7819f66842ba772d7ecd0", func := "lacuna/lacunalaw10.RowEncodes", spec := "rowEncodes", inPlace := ["math.Float64frombits", "math.Float64bits"], unfollowed := true, recurses := true, apart := false }
def RowEncodesSaid : Prop := rowEncodesRow.holds Try.pinned (OpenSpec.ofChange rowEncodesSpec)

/-- ITS FALSE NEIGHBOUR: 'it returns false'. Refute it at one input. -/
def rowEncodesWrong : ChangeSpec := { name := "rowEncodes", fn := fun _ => fun
  | [d1, d2, d3] => { results := [.lit (.bool false)], args := [d1, d2, d3] }
  | _ => none }
def RowEncodesWrongFalsely : Prop := rowEncodesRow.holds Try.pinned (OpenSpec.ofChange rowEncodesWrong)

/-- 'lacunalaw10.RowFills': WHATEVER THE INPUT: true; the input reads as it did. -/
def rowFillsSpec : ChangeSpec := { name := "rowFills", fn := fun _ => fun
  | [d1, d2, d3] => { results := [.lit (.bool true)], args := [d1, d2, d3] }
  | _ => none }
def rowFillsRow : OpenClaim := { program := "ytdbepkfblfhlhaa", sum := "21faa421d9912c31de7ec3fd47e4b92888be2118d1e7819f66842ba772d7ecd0", func := "lacuna/lacunalaw10.RowFills", spec := "rowFills", inPlace := ["math.Float64frombits", "math.Float64bits"], unfollowed := true, recurses := true, apart := false }
def RowFillsSaid : Prop := rowFillsRow.holds Try.pinned (OpenSpec.ofChange rowFillsSpec)

/-- ITS FALSE NEIGHBOUR: 'it returns false'. Refute it at one input. -/
def rowFillsWrong : ChangeSpec := { name := "rowFills", fn := fun _ => fun
  | [d1, d2, d3] => { results := [.lit (.bool false)], args := [d1, d2, d3] }
  | _ => none }
def RowFillsWrongFalsely : Prop := rowFillsRow.holds Try.pinned (OpenSpec.ofChange rowFillsWrong)

/-- 'lacunalaw10.RowTakes': WHATEVER THE INPUT: true; the input reads as it did. -/
def rowTakesSpec : ChangeSpec := { name := "rowTakes", fn := fun _ => fun
  | [d1, d2, d3] => { results := [.lit (.bool true)], args := [d1, d2, d3] }
  | _ => none }
def rowTakesRow : OpenClaim := { program := "ytdbepkfblfhlhaa", sum := "21faa421d9912c31de7ec3fd47e4b92888be2118d1e7819f66842ba772d7ecd0", func := "lacuna/lacunalaw10.RowTakes", spec := "rowTakes", inPlace := ["math.Float64frombits", "math.Float64bits"], unfollowed := true, recurses := true, apart := false }
def RowTakesSaid : Prop := rowTakesRow.holds Try.pinned (OpenSpec.ofChange rowTakesSpec)

/-- ITS FALSE NEIGHBOUR: 'it returns false'. Refute it at one input. -/
def rowTakesWrong : ChangeSpec := { name := "rowTakes", fn := fun _ => fun
  | [d1, d2, d3] => { results := [.lit (.bool false)], args := [d1, d2, d3] }
  | _ => none }
def RowTakesWrongFalsely : Prop := rowTakesRow.holds Try.pinned (OpenSpec.ofChange rowTakesWrong)

/-- 'lacunalaw10.RowBack': WHATEVER THE INPUT: true; the input reads as it did. -/
def rowBackSpec : ChangeSpec := { name := "rowBack", fn := fun _ => fun
  | [d1, d2, d3] => { results := [.lit (.bool true)], args := [d1, d2, d3] }
  | _ => none }
def rowBackRow : OpenClaim := { program := "ytdbepkfblfhlhaa", sum := "21faa421d9912c31de7ec3fd47e4b92888be2118d1e7819f66842ba772d7ecd0", func := "lacuna/lacunalaw10.RowBack", spec := "rowBack", inPlace := ["math.Float64frombits", "math.Float64bits"], unfollowed := true, recurses := true, apart := false }
def RowBackSaid : Prop := rowBackRow.holds Try.pinned (OpenSpec.ofChange rowBackSpec)

/-- ITS FALSE NEIGHBOUR: 'it returns false'. Refute it at one input. -/
def rowBackWrong : ChangeSpec := { name := "rowBack", fn := fun _ => fun
  | [d1, d2, d3] => { results := [.lit (.bool false)], args := [d1, d2, d3] }
  | _ => none }
def RowBackWrongFalsely : Prop := rowBackRow.holds Try.pinned (OpenSpec.ofChange rowBackWrong)

/-- 'lacunalaw10.RowVersions': WHATEVER THE INPUT: true; the input reads as it did. -/
def rowVersionsSpec : ChangeSpec := { name := "rowVersions", fn := fun _ => fun
  | [d1, d2] => { results := [.lit (.bool true)], args := [d1, d2] }
  | _ => none }
def rowVersionsRow : OpenClaim := { program := "ytdbepkfblfhlhaa", sum := "21faa421d9912c31de7ec3fd47e4b92888be2118d1e7819f66842ba772d7ecd0", func := "lacuna/lacunalaw10.RowVersions", spec := "rowVersions", inPlace := ["math.Float64frombits", "math.Float64bits"], unfollowed := true, recurses := true, apart := false }
def RowVersionsSaid : Prop := rowVersionsRow.holds Try.pinned (OpenSpec.ofChange rowVersionsSpec)

/-- ITS FALSE NEIGHBOUR: 'it returns false'. Refute it at one input. -/
def rowVersionsWrong : ChangeSpec := { name := "rowVersions", fn := fun _ => fun
  | [d1, d2] => { results := [.lit (.bool false)], args := [d1, d2] }
  | _ => none }
def RowVersionsWrongFalsely : Prop := rowVersionsRow.holds Try.pinned (OpenSpec.ofChange rowVersionsWrong)

/- THE SECOND FORM. 'bulk': how many values and letters a reading holds, each counted each time it is reached (what is shared counts as often as it is met; a slice's spare places count too). A statement '..UptoSaid' is the law's where the arguments, and the package variables that the reading takes, are together of bulk at most 1048576: NARROWER than '..Said'. Prove '..Said' where nothing that the law and all that it calls make is longer than what came in: it says more and counts as full. Else prove '..UptoSaid'. A law counts once. -/
mutual
def uptoBulk {H : Type} : DataW H → Nat
  | .lit (.string bytes) => bytes.length + 1
  | .lit _ => 1
  | .nil => 1
  | .ptr d => uptoBulk d + 1
  | .slice elems spare => uptoBulkAll elems + uptoBulkAll spare + 1
  | .agg parts => uptoBulkAll parts + 1
  | .iface _ d => uptoBulk d + 1
  | .map entries => uptoBulkEntries entries + 1
  | .held _ => 1
def uptoBulkAll {H : Type} : List (DataW H) → Nat
  | [] => 0
  | d :: r => uptoBulk d + uptoBulkAll r
def uptoBulkEntries {H : Type} : List (Lit × DataW H) → Nat
  | [] => 0
  | x :: r => uptoBulkEntry x + uptoBulkEntries r
def uptoBulkEntry {H : Type} : Lit × DataW H → Nat
  | (.string bytes, d) => bytes.length + uptoBulk d + 1
  | (_, d) => uptoBulk d + 1
 end
def uptoSmall : (H : Type) → List (DataW H) → Bool := fun _ ds => decide (uptoBulkAll ds ≤ 1048576)
def OpenSpec.upto (s : _root_.Go.ChangeSpec) : _root_.Go.OpenSpec := { _root_.Go.OpenSpec.ofChange s with cond := some uptoSmall }

/-- 'lacunalaw23.TotalColumns', WHERE WHAT IT READS IS OF BULK AT MOST 1048576: true; the input reads as it did. -/
def totalColumnsUptoRow : OpenClaim := { program := "ytdbepkfblfhlhaa", sum := "21faa421d9912c31de7ec3fd47e4b92888be2118d1e7819f66842ba772d7ecd0", func := "lacuna/lacunalaw23.TotalColumns", spec := "totalColumns", inPlace := ["math.Float64frombits", "math.Float64bits", "math.archTrunc"], unfollowed := true, recurses := true, apart := false, narrowed := true }
def TotalColumnsUptoSaid : Prop := totalColumnsUptoRow.holds Try.pinned (OpenSpec.upto totalColumnsSpec)

/-- 'lacunalaw12.ImageTells', WHERE WHAT IT READS IS OF BULK AT MOST 1048576: true; the input reads as it did. -/
def imageTellsUptoRow : OpenClaim := { program := "ytdbepkfblfhlhaa", sum := "21faa421d9912c31de7ec3fd47e4b92888be2118d1e7819f66842ba772d7ecd0", func := "lacuna/lacunalaw12.ImageTells", spec := "imageTells", inPlace := ["math.Float64frombits", "math.Float64bits"], unfollowed := true, recurses := true, apart := false, narrowed := true }
def ImageTellsUptoSaid : Prop := imageTellsUptoRow.holds Try.pinned (OpenSpec.upto imageTellsSpec)

/-- 'lacunalaw12.ImageKeys', WHERE WHAT IT READS IS OF BULK AT MOST 1048576: true; the input reads as it did. -/
def imageKeysUptoRow : OpenClaim := { program := "ytdbepkfblfhlhaa", sum := "21faa421d9912c31de7ec3fd47e4b92888be2118d1e7819f66842ba772d7ecd0", func := "lacuna/lacunalaw12.ImageKeys", spec := "imageKeys", inPlace := ["math.Float64frombits", "math.Float64bits"], unfollowed := true, recurses := true, apart := false, narrowed := true }
def ImageKeysUptoSaid : Prop := imageKeysUptoRow.holds Try.pinned (OpenSpec.upto imageKeysSpec)

/-- 'lacunalaw12.ImageStrict', WHERE WHAT IT READS IS OF BULK AT MOST 1048576: true; the input reads as it did. -/
def imageStrictUptoRow : OpenClaim := { program := "ytdbepkfblfhlhaa", sum := "21faa421d9912c31de7ec3fd47e4b92888be2118d1e7819f66842ba772d7ecd0", func := "lacuna/lacunalaw12.ImageStrict", spec := "imageStrict", inPlace := ["math.Float64frombits", "math.Float64bits"], unfollowed := true, recurses := true, apart := false, narrowed := true }
def ImageStrictUptoSaid : Prop := imageStrictUptoRow.holds Try.pinned (OpenSpec.upto imageStrictSpec)

/-- 'lacunalaw12.ImageRights', WHERE WHAT IT READS IS OF BULK AT MOST 1048576: true; the input reads as it did. -/
def imageRightsUptoRow : OpenClaim := { program := "ytdbepkfblfhlhaa", sum := "21faa421d9912c31de7ec3fd47e4b92888be2118d1e7819f66842ba772d7ecd0", func := "lacuna/lacunalaw12.ImageRights", spec := "imageRights", inPlace := ["math.Float64frombits", "math.Float64bits"], unfollowed := true, recurses := true, apart := false, narrowed := true }
def ImageRightsUptoSaid : Prop := imageRightsUptoRow.holds Try.pinned (OpenSpec.upto imageRightsSpec)

/-- 'lacunalaw12.ImageMerged', WHERE WHAT IT READS IS OF BULK AT MOST 1048576: true; the input reads as it did. -/
def imageMergedUptoRow : OpenClaim := { program := "ytdbepkfblfhlhaa", sum := "21faa421d9912c31de7ec3fd47e4b92888be2118d1e7819f66842ba772d7ecd0", func := "lacuna/lacunalaw12.ImageMerged", spec := "imageMerged", inPlace := ["math.Float64frombits", "math.Float64bits"], unfollowed := true, recurses := true, apart := false, narrowed := true }
def ImageMergedUptoSaid : Prop := imageMergedUptoRow.holds Try.pinned (OpenSpec.upto imageMergedSpec)

/-- 'lacunalaw10.RowEncodes', WHERE WHAT IT READS IS OF BULK AT MOST 1048576: true; the input reads as it did. -/
def rowEncodesUptoRow : OpenClaim := { program := "ytdbepkfblfhlhaa", sum := "21faa421d9912c31de7ec3fd47e4b92888be2118d1e7819f66842ba772d7ecd0", func := "lacuna/lacunalaw10.RowEncodes", spec := "rowEncodes", inPlace := ["math.Float64frombits", "math.Float64bits"], unfollowed := true, recurses := true, apart := false, narrowed := true }
def RowEncodesUptoSaid : Prop := rowEncodesUptoRow.holds Try.pinned (OpenSpec.upto rowEncodesSpec)

/-- 'lacunalaw10.RowFills', WHERE WHAT IT READS IS OF BULK AT MOST 1048576: true; the input reads as it did. -/
def rowFillsUptoRow : OpenClaim := { program := "ytdbepkfblfhlhaa", sum := "21faa421d9912c31de7ec3fd47e4b92888be2118d1e7819f66842ba772d7ecd0", func := "lacuna/lacunalaw10.RowFills", spec := "rowFills", inPlace := ["math.Float64frombits", "math.Float64bits"], unfollowed := true, recurses := true, apart := false, narrowed := true }
def RowFillsUptoSaid : Prop := rowFillsUptoRow.holds Try.pinned (OpenSpec.upto rowFillsSpec)

/-- 'lacunalaw10.RowTakes', WHERE WHAT IT READS IS OF BULK AT MOST 1048576: true; the input reads as it did. -/
def rowTakesUptoRow : OpenClaim := { program := "ytdbepkfblfhlhaa", sum := "21faa421d9912c31de7ec3fd47e4b92888be2118d1e7819f66842ba772d7ecd0", func := "lacuna/lacunalaw10.RowTakes", spec := "rowTakes", inPlace := ["math.Float64frombits", "math.Float64bits"], unfollowed := true, recurses := true, apart := false, narrowed := true }
def RowTakesUptoSaid : Prop := rowTakesUptoRow.holds Try.pinned (OpenSpec.upto rowTakesSpec)

/-- 'lacunalaw10.RowBack', WHERE WHAT IT READS IS OF BULK AT MOST 1048576: true; the input reads as it did. -/
def rowBackUptoRow : OpenClaim := { program := "ytdbepkfblfhlhaa", sum := "21faa421d9912c31de7ec3fd47e4b92888be2118d1e7819f66842ba772d7ecd0", func := "lacuna/lacunalaw10.RowBack", spec := "rowBack", inPlace := ["math.Float64frombits", "math.Float64bits"], unfollowed := true, recurses := true, apart := false, narrowed := true }
def RowBackUptoSaid : Prop := rowBackUptoRow.holds Try.pinned (OpenSpec.upto rowBackSpec)

/-- 'lacunalaw10.RowVersions', WHERE WHAT IT READS IS OF BULK AT MOST 1048576: true; the input reads as it did. -/
def rowVersionsUptoRow : OpenClaim := { program := "ytdbepkfblfhlhaa", sum := "21faa421d9912c31de7ec3fd47e4b92888be2118d1e7819f66842ba772d7ecd0", func := "lacuna/lacunalaw10.RowVersions", spec := "rowVersions", inPlace := ["math.Float64frombits", "math.Float64bits"], unfollowed := true, recurses := true, apart := false, narrowed := true }
def RowVersionsUptoSaid : Prop := rowVersionsUptoRow.holds Try.pinned (OpenSpec.upto rowVersionsSpec)

end Rows
end Go.Proofs.Ytdbepkfblfhlhaa
