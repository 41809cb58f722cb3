/-
What strings.Repeat returns, laid at this program's numbers (by the kit's tools lay-shelf and lay-plain).
-/
import Derived.Shelf.Strings.Repeat
import Derived.Test.YtmpnopjkpamhaaaBase
namespace Go.Proofs.Ytmpnopjkpamhaaa
open Go.Shelf Go.RowKit
def Try.lays105_ren : Go.Shelf.Ren := ⟨fun | 105 => 35 | 212 => 58 | 99 => 59 | 165 => 60 | 166 => 61 | 170 => 62 | 169 => 63 | 263 => 87 | 264 => 88 | 206 => 89 | 240 => 90 | 241 => 91 | 276 => 98 | 277 => 99 | n => n, fun | 9 => 9 | 3 => 3 | 4 => 4 | 20 => 20 | 0 => 0 | 46 => 83 | 109 => 94 | 5 => 5 | 72 => 99 | 76 => 103 | 51 => 122 | 146 => 123 | 53 => 22 | 148 => 84 | 70 => 97 | 37 => 29 | 75 => 102 | 127 => 126 | 164 => 133 | 80 => 105 | n => n, fun | n => n⟩
theorem Try.lays105 : Go.Proofs.Lays.n105 Try.prog Try.lays105_ren := {
  mixed := by kernel_rfl
  f99 := Try.func59.trans (congrArg some (by kernel_rfl))
  f105 := Try.func35.trans (congrArg some (by kernel_rfl))
  f165 := Try.func60.trans (congrArg some (by kernel_rfl))
  f166 := Try.func61.trans (congrArg some (by kernel_rfl))
  f169 := Try.func63.trans (congrArg some (by kernel_rfl))
  f170 := Try.func62.trans (congrArg some (by kernel_rfl))
  f206 := Try.func89.trans (congrArg some (by kernel_rfl))
  f212 := Try.func58.trans (congrArg some (by kernel_rfl))
  f240 := Try.func90.trans (congrArg some (by kernel_rfl))
  f241 := Try.func91.trans (congrArg some (by kernel_rfl))
  f263 := Try.func87.trans (congrArg some (by kernel_rfl))
  f264 := Try.func88.trans (congrArg some (by kernel_rfl))
  f276 := Try.func98.trans (congrArg some (by kernel_rfl))
  f277 := Try.func99.trans (congrArg some (by kernel_rfl))
  t0 := Try.underlying0
  a0 := Try.isAgg0
  z0 := Try.sizeOf0
  v0 := Try.zeroValue0
  t3 := Try.underlying3
  a3 := Try.isAgg3
  z3 := Try.sizeOf3
  v3 := Try.zeroValue3
  t4 := Try.underlying4
  a4 := Try.isAgg4
  z4 := Try.sizeOf4
  v4 := Try.zeroValue4
  t5 := Try.underlying5
  a5 := Try.isAgg5
  z5 := Try.sizeOf5
  v5 := Try.zeroValue5
  t9 := Try.underlying9
  a9 := Try.isAgg9
  z9 := Try.sizeOf9
  v9 := Try.zeroValue9
  t20 := Try.underlying20
  a20 := Try.isAgg20
  z20 := Try.sizeOf20
  v20 := Try.zeroValue20
  t37 := Try.underlying29
  a37 := Try.isAgg29
  z37 := Try.sizeOf29
  v37 := Try.zeroValue29
  t46 := Try.underlying83
  a46 := Try.isAgg83
  z46 := Try.sizeOf83
  v46 := Try.zeroValue83
  t51 := Try.underlying122
  a51 := Try.isAgg122
  z51 := Try.sizeOf122
  v51 := Try.zeroValue122
  t53 := Try.underlying22
  a53 := Try.isAgg22
  z53 := Try.sizeOf22
  v53 := Try.zeroValue22
  t70 := Try.underlying97
  a70 := Try.isAgg97
  z70 := Try.sizeOf97
  v70 := Try.zeroValue97
  t72 := Try.underlying99
  a72 := Try.isAgg99
  z72 := Try.sizeOf99
  v72 := Try.zeroValue99
  t75 := Try.underlying102
  a75 := Try.isAgg102
  z75 := Try.sizeOf102
  v75 := Try.zeroValue102
  t76 := Try.underlying103
  a76 := Try.isAgg103
  z76 := Try.sizeOf103
  v76 := Try.zeroValue103
  t109 := Try.underlying94
  a109 := Try.isAgg94
  z109 := Try.sizeOf94
  v109 := Try.zeroValue94
  t127 := Try.underlying126
  a127 := Try.isAgg126
  z127 := Try.sizeOf126
  v127 := Try.zeroValue126
  t146 := Try.underlying123
  a146 := Try.isAgg123
  z146 := Try.sizeOf123
  v146 := Try.zeroValue123
  t148 := Try.underlying84
  a148 := Try.isAgg84
  z148 := Try.sizeOf84
  v148 := Try.zeroValue84
  t164 := Try.underlying133
  a164 := Try.isAgg133
  z164 := Try.sizeOf133
  v164 := Try.zeroValue133 }
theorem Try.Builder_Extra_105 : Builder.Extra Try.prog Try.lays105_ren := {
  sizeBuilder := by kernel_rfl
  liesBuilder := by kernel_rfl
  t5 := Try.underlying5
  a5 := Try.isAgg5
  z5 := Try.sizeOf5
  v5 := Try.zeroValue5
  infoByte := by kernel_rfl
  cellsByte := by kernel_rfl
  sizeByte := by kernel_rfl
  neB5 := by decide }
theorem Try.strings_Repeat (s : ByteArray) (c : Nat) (w : World) (hc : c ≤ 9223372036854775807) (hlen : s.size * c ≤ 140737488355328) :
    Calls Try.prog 35 #[.string s, .int .i64 c] w fun e w' => e = .returned (.string ⟨(Lib.repeatL s.data.toList c).toArray⟩) ∧ Below w.heap.size w w' := Any.strings_Repeat Try.lays105 Try.Builder_Extra_105 s c w hc hlen

end Go.Proofs.Ytmpnopjkpamhaaa
