/-
A reader that gave up stays as it is, in plain words.
-/
import Derived.Test.YtmpnopjkpamhaaaCellI
namespace Go.Proofs.Ytmpnopjkpamhaaa
open Go.RowKit

theorem gave_form {st : RS} (h : st.ok) (he : st.e ≠ 0) : st = ⟨[], st.e⟩ := by
  cases st; simp only at he; have := h.1 he; simp only at this; subst this; rfl
theorem uintR_gave {m : Nat} {e : Int} (he : e ≠ 0) : uintR m ⟨[], e⟩ = (0, ⟨[], e⟩) := by
  have h : giveS ⟨[], e⟩ 1 = ⟨[], e⟩ := giveS_gave 1 he
  unfold uintR
  have hd : digs ([] : List Int) 0 0 = (0, 0, 1) := rfl
  simp only [hd]
  exact (if_pos (by decide)).trans (congrArg (Prod.mk 0) h)
theorem bytesR_gave {n : Nat} {e : Int} (he : e ≠ 0) : bytesR n ⟨[], e⟩ = ([], ⟨[], e⟩) := by
  unfold bytesR
  split
  · rw [giveS_gave 1 he]
  · simp
theorem byteR_gave {e : Int} (he : e ≠ 0) : byteR ⟨[], e⟩ = (0, ⟨[], e⟩) := by unfold byteR; rw [bytesR_gave he]; rfl
theorem wordR_gave {e : Int} (he : e ≠ 0) : wordR ⟨[], e⟩ = (0, ⟨[], e⟩) := by unfold wordR; rw [bytesR_gave he]; rfl
theorem floatR_gave {ver : Int} {e : Int} (he : e ≠ 0) : (floatR ver ⟨[], e⟩).2 = ⟨[], e⟩ := by
  unfold floatR; split
  · rw [wordR_gave he]
  · simp only; rw [uintR_gave he]
theorem failS_gave {e x : Int} (he : e ≠ 0) : failS ⟨[], e⟩ x = ⟨[], e⟩ := by
  unfold failS; split
  · exact giveS_gave x he
  · rfl
theorem partR_gave {t : Bool} {e : Int} (he : e ≠ 0) : (partR t ⟨[], e⟩).2 = ⟨[], e⟩ := by
  unfold partR; split
  · simp only
    have h := floatR_gave (ver := 2) he
    rw [h]
    split
    · exact giveS_gave 3 he
    · rfl
  · rfl
theorem complexR_gave {ver : Int} {e : Int} (he : e ≠ 0) : (complexR ver ⟨[], e⟩).2 = ⟨[], e⟩ := by
  unfold complexR; split
  · simp only; rw [wordR_gave he]; simp only; rw [wordR_gave he]
  · simp only; rw [byteR_gave he]; simp only
    rw [if_neg (by decide), partR_gave he, partR_gave he]
theorem textR_gave {m : Nat} {e : Int} (he : e ≠ 0) : textR m ⟨[], e⟩ = ([], ⟨[], e⟩) := by
  unfold textR; simp only; rw [uintR_gave he]; simp only; rw [bytesR_gave he]
theorem bodyR_gave {kind ver : Int} {e : Int} (he : e ≠ 0) : (bodyR kind ver ⟨[], e⟩).2 = ⟨[], e⟩ := by
  unfold bodyR
  (repeat' split)
  · simp only; rw [byteR_gave he]
  · simp only; rw [wordR_gave he]
  · simp only [intR]; rw [uintR_gave he]
  · simp only; rw [floatR_gave he]
  · simp only; rw [complexR_gave he]
  · simp only; rw [textR_gave he]
  · rfl
theorem takeV_gave {kind ver : Int} {e : Int} (he : e ≠ 0) : (takeV kind ver ⟨[], e⟩).2 = ⟨[], e⟩ := by
  unfold takeV
  split
  · simp only
    rw [bodyR_gave he, failS_gave he, if_pos he]
  · exact giveS_gave 18 he

/-- What a first cell does behind its tag. -/
def tailC (kind : Int) (S : RS) : (K × Nat) × RS := if kind = 5 ∨ kind = 6 then textK kind (textR 64 S) else ((⟨2, (takeV kind 1 S).1⟩, 0), (takeV kind 1 S).2)
theorem tailC_gave {kind : Int} {e : Int} (he : e ≠ 0) : (tailC kind ⟨[], e⟩).2 = ⟨[], e⟩ := by
  unfold tailC
  split
  · rw [textR_gave he]; exact failS_gave he
  · exact takeV_gave he
theorem largeR_ok {st : RS} (h : st.ok) : (largeR st).2.ok := by
  unfold largeR; simp only; split
  · exact giveS_ok (uintR_ok h _) _
  · exact uintR_ok h _
theorem largeR_le {st : RS} : (largeR st).1 ≤ 2048 := by unfold largeR; exact uintR_le 2048
theorem textK_ok {kind : Int} {q : List Int × RS} (h : q.2.ok) : (textK kind q).2.ok := failS_ok h _
theorem firstC_ok {kind : Int} {st : RS} (h : st.ok) : (firstC kind st).2.ok := by
  have h1 := byteR_ok h
  unfold firstC
  simp only
  (repeat' split)
  · exact h1
  · exact giveS_ok h1 _
  · exact h1
  · exact largeR_ok h1
  · exact textK_ok (textR_ok h1 _)
  · exact takeV_ok h1 _ _
theorem secondC_ok {kind : Int} {st : RS} (h : st.ok) : (secondC kind st).2.ok := by
  have h1 := uintR_ok h 66
  unfold secondC
  simp only
  (repeat' split)
  · exact h1
  · exact h1
  · exact largeR_ok h1
  · exact textK_ok (bytesR_ok h1 _)
theorem preC_ok {kind ver : Int} {st : RS} (h : st.ok) : (preC kind ver st).2.ok := by
  unfold preC
  (repeat' split)
  · exact giveS_ok h _
  · exact giveS_ok h _
  · exact firstC_ok h
  · exact secondC_ok h
  · exact takeV_ok h _ _
theorem takeC_ok {kind ver : Int} {st : RS} (h : st.ok) : (takeC kind ver st).2.ok := by
  unfold takeC finC
  split
  · exact preC_ok h
  · exact preC_ok h
theorem giveS_nil {st : RS} {x : Int} (hx : x ≠ 0) (h : st.ok) : ∃ e, e ≠ 0 ∧ giveS st x = ⟨[], e⟩ := by
  unfold giveS
  split
  · exact ⟨x, hx, rfl⟩
  · rename_i he; exact ⟨st.e, he, gave_form h he⟩

end Go.Proofs.Ytmpnopjkpamhaaa
