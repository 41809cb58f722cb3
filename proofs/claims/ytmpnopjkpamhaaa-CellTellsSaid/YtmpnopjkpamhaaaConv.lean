/-
Bytes as strings.
-/
import Derived.Test.YtmpnopjkpamhaaaPut
namespace Go.Proofs.Ytmpnopjkpamhaaa
open Go.RowKit

/-- A row of bytes as a string. -/
theorem conv_Sl {w : World} {v : Value} {l : List Int} (h : Sl w v 1 (l.map bcell)) : (convert 29 9 v).run Try.prog w = .ok (.string (strOfNums l)) w := by
  have h0 := h
  obtain ⟨a, cap, rfl, hs⟩ := h
  rcases hs with hn | ⟨b, o, rfl, hb, hc⟩
  · have hl : l = [] := by simpa using hn
    subst hl
    cases a with
    | none => exact run_convert_bytes_nil w _ _ Try.underlying29 Try.underlying5 _ _ _ Try.underlying9
    | some ad =>
      rw [run_convert_bytes_string w _ _ _ _ _ _ Try.underlying29 Try.underlying5 Try.underlying9]
      have hl : (loadCells ad 0).run Try.prog w = .ok (([] : List Int).map (Value.int .u8)).toArray w := by
        have := run_loadCells_list (P := Try.prog) w ad [] (fun j v hj => by simp at hj)
        simpa using this
      exact run_bytesToString w ad 0 cap [] hl
  · simp only [List.length_map] at *
    refine run_convert_bytes_arg w _ _ Try.underlying29 Try.underlying5 b o _ cap l rfl (fun i hi => ?_) _ Try.underlying9
    exact (Sl.bytes h0 (by omega)).2.2 i hi

theorem fresh_bytes (w : World) (l : List Int) (n : Nat) (hn : n = l.length) : Sl (w.alloc (.cells (bs l).toArray 5)) (.slice (some ⟨w.heap.size, 0, none⟩) n n) 1 (l.map bcell) := by
  subst hn
  have := Sl.new w (bs l).toArray 5 1 l.length l.length (l.map bcell) (by rw [bs_flat]) (by intro xs hxs; simp at hxs; obtain ⟨x, _, rfl⟩ := hxs; rfl) (by simp)
  exact this

theorem nilSl (w : World) : Sl w (.slice none 0 0) 1 (([] : List Int).map bcell) := ⟨none, 0, rfl, .inl rfl⟩
theorem empty_small : ByteArray.empty.size ≤ 9223372036854775807 := Nat.zero_le _

end Go.Proofs.Ytmpnopjkpamhaaa
