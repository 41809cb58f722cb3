/-
  No cell of these rows narrows 'for every input' (looked for: loops, veiled, ifaces, maps, wideKeys, modest, calm, conditions, laid).
  DERIVED. THE GIVEN ROWS OF THIS SEAT. 6 by the template 'for every input the law returns true; each argument reads behind the call as it read before'; 0 by the template 'total and deterministic' (their statements: YtlobghojjfkchaaGreatTotals.lean).
  GIVEN WITH THE SEED: the statements are not yours to turn. If you find one false, say at which input.
  Laid BY PROGRAM, IN A SANDBOX (cutbox-rows.mjs): the forced cells as the released guide's own fill.sh prints them over the translation fb905eaa88bdf74d… (all of the seat's roots in one cut). By AI agents, Wed Nov 11 2026. No macro, syntax, notation, axiom, sorry.
-/
import Derived.Test.YtlobghojjfkchaaGreatChecked
import GoSem.Claim
import GoSem.ClaimJoined
import GoSem.ClaimMapViews
import Derived.JoinedTies
import Derived.KernelRfl
namespace Go.Proofs.YtlobghojjfkchaaGreat
/- THE CELL 'sum', in the pinned program and in every row, IS THE sha256 OF THE DUMP (.gsa) THAT YtlobghojjfkchaaGreatProg.lean LOADS. Nothing in Lean hashes anything: it is a label: what it is worth is what the hold of that sum in a sandbox is worth. -/
noncomputable def Tryz.pinned : Pinned := { name := "ytlobghojjfkchaagreat", sum := "fb905eaa88bdf74d4ac639502919a729750895bf1325119e7c4d73182bddde24", checked := Tryz.checked }
namespace Rows
def none {H : Type} : Left H := { results := [], args := [] }

/-- 'lacunalaw15.RecordPuts': WHATEVER THE INPUT: true; the input reads as it did. -/
def recordPutsSpec : ChangeSpec := { name := "recordPuts", fn := fun _ => fun
  | [d1, d2, d3] => { results := [.lit (.bool true)], args := [d1, d2, d3] }
  | _ => none }
def recordPutsRow : OpenClaim := { program := "ytlobghojjfkchaagreat", sum := "fb905eaa88bdf74d4ac639502919a729750895bf1325119e7c4d73182bddde24", func := "lacuna/lacunalaw15.RecordPuts", spec := "recordPuts", inPlace := ["slices.overlaps[lacuna/rel.Rel]", "math.Float64frombits", "math.Float64bits"], unfollowed := true, recurses := true, apart := false }
def RecordPutsSaid : Prop := recordPutsRow.holds Tryz.pinned (OpenSpec.ofChange recordPutsSpec)

/-- ITS FALSE NEIGHBOUR: 'it returns false'. Refute it at one input. -/
def recordPutsWrong : ChangeSpec := { name := "recordPuts", fn := fun _ => fun
  | [d1, d2, d3] => { results := [.lit (.bool false)], args := [d1, d2, d3] }
  | _ => none }
def RecordPutsWrongFalsely : Prop := recordPutsRow.holds Tryz.pinned (OpenSpec.ofChange recordPutsWrong)

/-- 'lacunalaw15.RecordShort': WHATEVER THE INPUT: true; the input reads as it did. -/
def recordShortSpec : ChangeSpec := { name := "recordShort", fn := fun _ => fun
  | [d1, d2, d3] => { results := [.lit (.bool true)], args := [d1, d2, d3] }
  | _ => none }
def recordShortRow : OpenClaim := { program := "ytlobghojjfkchaagreat", sum := "fb905eaa88bdf74d4ac639502919a729750895bf1325119e7c4d73182bddde24", func := "lacuna/lacunalaw15.RecordShort", spec := "recordShort", inPlace := ["slices.overlaps[lacuna/rel.Rel]", "math.Float64frombits", "math.Float64bits"], unfollowed := true, recurses := true, apart := false }
def RecordShortSaid : Prop := recordShortRow.holds Tryz.pinned (OpenSpec.ofChange recordShortSpec)

/-- ITS FALSE NEIGHBOUR: 'it returns false'. Refute it at one input. -/
def recordShortWrong : ChangeSpec := { name := "recordShort", fn := fun _ => fun
  | [d1, d2, d3] => { results := [.lit (.bool false)], args := [d1, d2, d3] }
  | _ => none }
def RecordShortWrongFalsely : Prop := recordShortRow.holds Tryz.pinned (OpenSpec.ofChange recordShortWrong)

/-- 'lacunalaw15.RecordEnds': WHATEVER THE INPUT: true; the input reads as it did. -/
def recordEndsSpec : ChangeSpec := { name := "recordEnds", fn := fun _ => fun
  | [d1, d2, d3] => { results := [.lit (.bool true)], args := [d1, d2, d3] }
  | _ => none }
def recordEndsRow : OpenClaim := { program := "ytlobghojjfkchaagreat", sum := "fb905eaa88bdf74d4ac639502919a729750895bf1325119e7c4d73182bddde24", func := "lacuna/lacunalaw15.RecordEnds", spec := "recordEnds", inPlace := ["slices.overlaps[lacuna/rel.Rel]", "math.Float64bits", "math.Float64frombits"], unfollowed := true, recurses := true, apart := false }
def RecordEndsSaid : Prop := recordEndsRow.holds Tryz.pinned (OpenSpec.ofChange recordEndsSpec)

/-- ITS FALSE NEIGHBOUR: 'it returns false'. Refute it at one input. -/
def recordEndsWrong : ChangeSpec := { name := "recordEnds", fn := fun _ => fun
  | [d1, d2, d3] => { results := [.lit (.bool false)], args := [d1, d2, d3] }
  | _ => none }
def RecordEndsWrongFalsely : Prop := recordEndsRow.holds Tryz.pinned (OpenSpec.ofChange recordEndsWrong)

/-- 'lacunalaw15.RecordVersions': WHATEVER THE INPUT: true; the input reads as it did. -/
def recordVersionsSpec : ChangeSpec := { name := "recordVersions", fn := fun _ => fun
  | [d1, d2, d3] => { results := [.lit (.bool true)], args := [d1, d2, d3] }
  | _ => none }
def recordVersionsRow : OpenClaim := { program := "ytlobghojjfkchaagreat", sum := "fb905eaa88bdf74d4ac639502919a729750895bf1325119e7c4d73182bddde24", func := "lacuna/lacunalaw15.RecordVersions", spec := "recordVersions", inPlace := ["slices.overlaps[lacuna/rel.Rel]", "math.Float64frombits", "math.Float64bits", "internal/abi.NoEscape"], unfollowed := true, recurses := true, apart := false }
def RecordVersionsSaid : Prop := recordVersionsRow.holds Tryz.pinned (OpenSpec.ofChange recordVersionsSpec)

/-- ITS FALSE NEIGHBOUR: 'it returns false'. Refute it at one input. -/
def recordVersionsWrong : ChangeSpec := { name := "recordVersions", fn := fun _ => fun
  | [d1, d2, d3] => { results := [.lit (.bool false)], args := [d1, d2, d3] }
  | _ => none }
def RecordVersionsWrongFalsely : Prop := recordVersionsRow.holds Tryz.pinned (OpenSpec.ofChange recordVersionsWrong)

/-- 'lacunalaw15.RecordTakes': WHATEVER THE INPUT: true; the input reads as it did. -/
def recordTakesSpec : ChangeSpec := { name := "recordTakes", fn := fun _ => fun
  | [d1, d2] => { results := [.lit (.bool true)], args := [d1, d2] }
  | _ => none }
def recordTakesRow : OpenClaim := { program := "ytlobghojjfkchaagreat", sum := "fb905eaa88bdf74d4ac639502919a729750895bf1325119e7c4d73182bddde24", func := "lacuna/lacunalaw15.RecordTakes", spec := "recordTakes", inPlace := ["slices.overlaps[lacuna/rel.Rel]", "math.Float64frombits", "math.Float64bits", "internal/abi.NoEscape"], unfollowed := true, recurses := true, apart := false }
def RecordTakesSaid : Prop := recordTakesRow.holds Tryz.pinned (OpenSpec.ofChange recordTakesSpec)

/-- ITS FALSE NEIGHBOUR: 'it returns false'. Refute it at one input. -/
def recordTakesWrong : ChangeSpec := { name := "recordTakes", fn := fun _ => fun
  | [d1, d2] => { results := [.lit (.bool false)], args := [d1, d2] }
  | _ => none }
def RecordTakesWrongFalsely : Prop := recordTakesRow.holds Tryz.pinned (OpenSpec.ofChange recordTakesWrong)

/-- 'lacunalaw15.RecordBack': WHATEVER THE INPUT: true; the input reads as it did. -/
def recordBackSpec : ChangeSpec := { name := "recordBack", fn := fun _ => fun
  | [d1, d2, d3] => { results := [.lit (.bool true)], args := [d1, d2, d3] }
  | _ => none }
def recordBackRow : OpenClaim := { program := "ytlobghojjfkchaagreat", sum := "fb905eaa88bdf74d4ac639502919a729750895bf1325119e7c4d73182bddde24", func := "lacuna/lacunalaw15.RecordBack", spec := "recordBack", inPlace := ["slices.overlaps[lacuna/rel.Rel]", "math.Float64frombits", "math.Float64bits", "internal/abi.NoEscape"], unfollowed := true, recurses := true, apart := false }
def RecordBackSaid : Prop := recordBackRow.holds Tryz.pinned (OpenSpec.ofChange recordBackSpec)

/-- ITS FALSE NEIGHBOUR: 'it returns false'. Refute it at one input. -/
def recordBackWrong : ChangeSpec := { name := "recordBack", fn := fun _ => fun
  | [d1, d2, d3] => { results := [.lit (.bool false)], args := [d1, d2, d3] }
  | _ => none }
def RecordBackWrongFalsely : Prop := recordBackRow.holds Tryz.pinned (OpenSpec.ofChange recordBackWrong)

/- THE SECOND FORM. 'bulk': how many values and letters a reading holds, each counted each time it is reached (what is shared counts as often as it is met; a slice's spare places count too). A statement '..UptoSaid' is the law's where the arguments, and the package variables that the reading takes, are together of bulk at most 1048576: NARROWER than '..Said'. Prove '..Said' where nothing that the law and all that it calls make is longer than what came in: it says more and counts as full. Else prove '..UptoSaid'. A law counts once. -/
mutual
def uptoBulk {H : Type} : DataW H → Nat
  | .lit (.string bytes) => bytes.length + 1
  | .lit _ => 1
  | .nil => 1
  | .ptr d => uptoBulk d + 1
  | .slice elems spare => uptoBulkAll elems + uptoBulkAll spare + 1
  | .agg parts => uptoBulkAll parts + 1
  | .iface _ d => uptoBulk d + 1
  | .map entries => uptoBulkEntries entries + 1
  | .held _ => 1
def uptoBulkAll {H : Type} : List (DataW H) → Nat
  | [] => 0
  | d :: r => uptoBulk d + uptoBulkAll r
def uptoBulkEntries {H : Type} : List (Lit × DataW H) → Nat
  | [] => 0
  | x :: r => uptoBulkEntry x + uptoBulkEntries r
def uptoBulkEntry {H : Type} : Lit × DataW H → Nat
  | (.string bytes, d) => bytes.length + uptoBulk d + 1
  | (_, d) => uptoBulk d + 1
 end
def uptoSmall : (H : Type) → List (DataW H) → Bool := fun _ ds => decide (uptoBulkAll ds ≤ 1048576)
def OpenSpec.upto (s : _root_.Go.ChangeSpec) : _root_.Go.OpenSpec := { _root_.Go.OpenSpec.ofChange s with cond := some uptoSmall }

/-- 'lacunalaw15.RecordPuts', WHERE WHAT IT READS IS OF BULK AT MOST 1048576: true; the input reads as it did. -/
def recordPutsUptoRow : OpenClaim := { program := "ytlobghojjfkchaagreat", sum := "fb905eaa88bdf74d4ac639502919a729750895bf1325119e7c4d73182bddde24", func := "lacuna/lacunalaw15.RecordPuts", spec := "recordPuts", inPlace := ["slices.overlaps[lacuna/rel.Rel]", "math.Float64frombits", "math.Float64bits"], unfollowed := true, recurses := true, apart := false, narrowed := true }
def RecordPutsUptoSaid : Prop := recordPutsUptoRow.holds Tryz.pinned (OpenSpec.upto recordPutsSpec)

/-- 'lacunalaw15.RecordShort', WHERE WHAT IT READS IS OF BULK AT MOST 1048576: true; the input reads as it did. -/
def recordShortUptoRow : OpenClaim := { program := "ytlobghojjfkchaagreat", sum := "fb905eaa88bdf74d4ac639502919a729750895bf1325119e7c4d73182bddde24", func := "lacuna/lacunalaw15.RecordShort", spec := "recordShort", inPlace := ["slices.overlaps[lacuna/rel.Rel]", "math.Float64frombits", "math.Float64bits"], unfollowed := true, recurses := true, apart := false, narrowed := true }
def RecordShortUptoSaid : Prop := recordShortUptoRow.holds Tryz.pinned (OpenSpec.upto recordShortSpec)

/-- 'lacunalaw15.RecordEnds', WHERE WHAT IT READS IS OF BULK AT MOST 1048576: true; the input reads as it did. -/
def recordEndsUptoRow : OpenClaim := { program := "ytlobghojjfkchaagreat", sum := "fb905eaa88bdf74d4ac639502919a729750895bf1325119e7c4d73182bddde24", func := "lacuna/lacunalaw15.RecordEnds", spec := "recordEnds", inPlace := ["slices.overlaps[lacuna/rel.Rel]", "math.Float64bits", "math.Float64frombits"], unfollowed := true, recurses := true, apart := false, narrowed := true }
def RecordEndsUptoSaid : Prop := recordEndsUptoRow.holds Tryz.pinned (OpenSpec.upto recordEndsSpec)

/-- 'lacunalaw15.RecordVersions', WHERE WHAT IT READS IS OF BULK AT MOST 1048576: true; the input reads as it did. -/
def recordVersionsUptoRow : OpenClaim := { program := "ytlobghojjfkchaagreat", sum := "fb905eaa88bdf74d4ac639502919a729750895bf1325119e7c4d73182bddde24", func := "lacuna/lacunalaw15.RecordVersions", spec := "recordVersions", inPlace := ["slices.overlaps[lacuna/rel.Rel]", "math.Float64frombits", "math.Float64bits", "internal/abi.NoEscape"], unfollowed := true, recurses := true, apart := false, narrowed := true }
def RecordVersionsUptoSaid : Prop := recordVersionsUptoRow.holds Tryz.pinned (OpenSpec.upto recordVersionsSpec)

/-- 'lacunalaw15.RecordTakes', WHERE WHAT IT READS IS OF BULK AT MOST 1048576: true; the input reads as it did. -/
def recordTakesUptoRow : OpenClaim := { program := "ytlobghojjfkchaagreat", sum := "fb905eaa88bdf74d4ac639502919a729750895bf1325119e7c4d73182bddde24", func := "lacuna/lacunalaw15.RecordTakes", spec := "recordTakes", inPlace := ["slices.overlaps[lacuna/rel.Rel]", "math.Float64frombits", "math.Float64bits", "internal/abi.NoEscape"], unfollowed := true, recurses := true, apart := false, narrowed := true }
def RecordTakesUptoSaid : Prop := recordTakesUptoRow.holds Tryz.pinned (OpenSpec.upto recordTakesSpec)

/-- 'lacunalaw15.RecordBack', WHERE WHAT IT READS IS OF BULK AT MOST 1048576: true; the input reads as it did. -/
def recordBackUptoRow : OpenClaim := { program := "ytlobghojjfkchaagreat", sum := "fb905eaa88bdf74d4ac639502919a729750895bf1325119e7c4d73182bddde24", func := "lacuna/lacunalaw15.RecordBack", spec := "recordBack", inPlace := ["slices.overlaps[lacuna/rel.Rel]", "math.Float64frombits", "math.Float64bits", "internal/abi.NoEscape"], unfollowed := true, recurses := true, apart := false, narrowed := true }
def RecordBackUptoSaid : Prop := recordBackUptoRow.holds Tryz.pinned (OpenSpec.upto recordBackSpec)

end Rows
end Go.Proofs.YtlobghojjfkchaaGreat
