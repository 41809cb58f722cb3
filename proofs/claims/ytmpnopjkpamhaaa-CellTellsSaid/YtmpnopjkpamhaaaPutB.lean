/-
What is put are bytes; two values of one type are the same just if their bytes are.
-/
import Derived.Test.YtmpnopjkpamhaaaTakeV
import Derived.Test.YtmpnopjkpamhaaaPutOk
import Derived.Test.YtmpnopjkpamhaaaEqVal
import Derived.Test.YtmpnopjkpamhaaaConv
namespace Go.Proofs.Ytmpnopjkpamhaaa
open Go.RowKit

theorem isB_sevens : ∀ (k x : Nat), x ≤ k → isB (sevens x) := by
  intro k
  induction k using Nat.strongRecOn with
  | _ k ih =>
    intro x hx b hb
    by_cases h : x < 128
    · rw [sevens_lt h] at hb; simp at hb; omega
    · rw [sevens_ge h] at hb
      rcases List.mem_cons.1 hb with rfl | hb
      · omega
      · exact ih (x / 128) (by omega) _ (Nat.le_refl _) b hb
theorem isB_float (x : Nat) (ver : Int) : isB (floatL x ver) := by
  unfold floatL; split
  · exact isB_word _
  · exact isB_sevens _ _ (Nat.le_refl _)
theorem isB_mark (x y : Nat) : isB [markOf x y] := by
  intro b hb
  simp only [List.mem_singleton] at hb
  subst hb; unfold markOf; split <;> split <;> omega
theorem isB_if {p : Prop} [Decidable p] {l : List Int} (h : isB l) : isB (if p then [] else l) := by split; exact isB.nil; exact h
theorem isB_complex (x y : Nat) (ver : Int) : isB (complexL x y ver) := by
  by_cases h : ver = 2
  · unfold complexL; rw [if_pos h]
    exact isB.append (isB.append (isB_mark _ _) (isB_if (isB_float _ _))) (isB_if (isB_float _ _))
  · unfold complexL; rw [if_neg h]
    exact isB.append (isB_float _ _) (isB_float _ _)
theorem isB_putL {ty n : Int} {x y : Nat} {s : ByteArray} {ver : Int} (h : rightV ty n x y s = 0) : isB (putL ty n x y s ver) := by
  have hz := right_zero h
  unfold putL
  (repeat' split)
  · intro b hb
    simp only [List.mem_singleton] at hb
    subst hb
    rcases hz.2.2.2.1 (by assumption) with h1 | h1 <;> omega
  · exact isB_word _
  · exact isB_sevens _ _ (Nat.le_refl _)
  · exact isB_float _ _
  · exact isB_complex _ _ _
  · exact isB.append (isB_sevens _ _ (Nat.le_refl _)) (isB_strL _)
theorem strOf_inj {l m : List Int} (hl : isB l) (hm : isB m) (h : strOfNums l = strOfNums m) : l = m := by
  rw [← strL_strOf hl, ← strL_strOf hm, h]
theorem str_cmp {l m : List Int} (hl : isB l) (hm : isB m) : ((strOfNums l).toList == (strOfNums m).toList) = decide (l = m) := by
  rw [str_beq]
  exact decide_eq_decide.2 ⟨strOf_inj hl hm, fun h => by rw [h]⟩

theorem put_same {ty na nb : Int} {xa ya xb yb : Nat} {sa sb : ByteArray} {ver : Int} (hv : ver = 1 ∨ ver = 2) (ha : rightV ty na xa ya sa = 0) (hb : rightV ty nb xb yb sb = 0)
    (hna : -9223372036854775808 ≤ na ∧ na < 9223372036854775808) (hxa : xa < 2 ^ 64) (hya : ya < 2 ^ 64) (hnb : -9223372036854775808 ≤ nb ∧ nb < 9223372036854775808) (hxb : xb < 2 ^ 64) (hyb : yb < 2 ^ 64) :
    decide (putL ty na xa ya sa ver = putL ty nb xb yb sb ver) = sameB ty na xa ya sa ty nb xb yb sb := by
  unfold sameB
  refine decide_eq_decide.2 ⟨fun h => ?_, ?_⟩
  · have := put_inj (a := ⟨ty, na, xa, ya, sa⟩) (b := ⟨ty, nb, xb, yb, sb⟩) hv ha hb ⟨hna, hxa, hya⟩ ⟨hnb, hxb, hyb⟩ rfl h
    simp only [V.mk.injEq] at this
    exact ⟨rfl, this.2⟩
  · rintro ⟨-, rfl, rfl, rfl, rfl⟩; rfl

end Go.Proofs.Ytmpnopjkpamhaaa
