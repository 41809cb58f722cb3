/-
The reference's reader: numbers by sevens.
-/
import Derived.Deep.CutBlock
import Derived.IntWalk
import Derived.Test.YtjnafppkbhldlaaGreatP19
namespace Go.Proofs.YtjnafppkbhldlaaGreat
open Go.RowKit

end Go.Proofs.YtjnafppkbhldlaaGreat

/-
The reference's reader: numbers with a sign, texts, bytes, words.
-/
namespace Go.Proofs.YtjnafppkbhldlaaGreat
open Go.RowKit

end Go.Proofs.YtjnafppkbhldlaaGreat

/-
The reference's reader: words; floats and parts.
-/
namespace Go.Proofs.YtjnafppkbhldlaaGreat
open Go.RowKit

end Go.Proofs.YtjnafppkbhldlaaGreat

/-
What a begin's, a commit's payload tells: the program's answer, the reference's.
-/
namespace Go.Proofs.YtjnafppkbhldlaaGreat
open Go.RowKit

set_option maxRecDepth 100000 in set_option maxHeartbeats 1600000 in
theorem number_any (g d : Nat) (st : RS) (w : World) (h : RD w g d st) :
    Calls Tryz.prog 257 #[.pointer (some ⟨g, 0, none⟩)] w (RPost g d w (.int .u32 (uintR 4294967295 st).1) (uintR 4294967295 st).2) := by
  have HU := Hid.mk' (ruint2_any g d st 4294967295 w h (by decide))
  have hle := uintR_le (st := st) 4294967295
  have hwr : IntKind.u32.wrap ((uintR 4294967295 st).1 : Int) = ((uintR 4294967295 st).1 : Int) := by
    simp [IntKind.wrap, IntKind.signed, IntKind.bits]; omega
  unfold RPost at HU ⊢
  obtain ⟨X, hX⟩ : ∃ X, X = (uintR 4294967295 st).1 := ⟨_, rfl⟩
  rw [← hX] at HU hwr hle ⊢
  clear hX
  go_enter Tryz.func257, Tryz.ntmps257
  go_wp2_with (go_at_call 198; refine HU.out.mono ?_; rintro e w1 ⟨rfl, h1, h2⟩; have H1 := Hid.mk' h1; have H2 := Hid.mk' h2; clear h1 h2)
  go_ret
  exact ⟨ret_int (by first | rfl | exact hwr), H1.out, H2.out⟩

end Go.Proofs.YtjnafppkbhldlaaGreat

/-
The laws' Back of an event.
-/
namespace Go.Proofs.YtjnafppkbhldlaaGreat
open Go.RowKit

end Go.Proofs.YtjnafppkbhldlaaGreat
