/-
The program's reader: what it tells; its digits.
-/
import Derived.Test.YtmpnopjkpamhaaaRdr
import Derived.Test.YtmpnopjkpamhaaaScope
import Derived.Test.YtmpnopjkpamhaaaTakeV
namespace Go.Proofs.Ytmpnopjkpamhaaa
open Go.RowKit

set_option maxRecDepth 100000 in set_option maxHeartbeats 1600000 in
theorem fail_any (g d : Nat) (st : RS) (x : Int) (w : World) (h : RD w g d st) :
    Calls Try.prog 41 #[.pointer (some ⟨g, 0, none⟩), .int .i64 x] w (RPost g d w (.tuple #[]) (failS st x)) := by
  have H := Hid.mk' h
  clear h
  by_cases hx : x = 0
  · subst hx
    go_enter Try.func41, Try.ntmps41
    go_wp2
    go_end0
    exact ⟨rfl, by unfold failS; rw [if_neg (by decide)]; exact H.out, Tch.refl g w⟩
  · have hx2 : (x != 0) = true := by simpa using hx
    have HX := Hid.mk' hx
    clear hx
    go_enter Try.func41, Try.ntmps41
    go_wp2_with (go_at_call 67; refine (giveUp_any g d st x _ H.out HX.out).mono ?_; rintro e w1 ⟨rfl, hr, ht⟩; have HR := Hid.mk' hr; have HT := Hid.mk' ht; clear hr ht)
    go_end0
    exact ⟨rfl, by unfold failS; rw [if_pos HX.out]; exact HR.out, HT.out⟩

set_option maxRecDepth 100000 in set_option maxHeartbeats 1600000 in
theorem rerr_any (g d : Nat) (st : RS) (w : World) (h : RD w g d st) :
    Calls Try.prog 22 #[.pointer (some ⟨g, 0, none⟩)] w fun e w' => e = .returned (.int .i64 st.e) ∧ w = w' := by
  obtain ⟨v, hb, hsb, hok, hlen⟩ := h
  have hc := hb.cell
  clear hb
  go_enter Try.func22, Try.ntmps22
  go_wp2
  go_ret
  exact ⟨rfl, rfl⟩

set_option maxRecDepth 100000 in set_option maxHeartbeats 1600000 in
theorem rleft_any (g d : Nat) (st : RS) (w : World) (h : RD w g d st) :
    Calls Try.prog 23 #[.pointer (some ⟨g, 0, none⟩)] w fun e w' => e = .returned (.int .i64 st.l.length) ∧ w = w' := by
  obtain ⟨v, hb, ⟨a, cap, rfl, hlc, hnc, hs⟩, hok, hlen⟩ := h
  have hc := hb.cell
  clear hb hlc hnc
  go_enter Try.func23, Try.ntmps23
  go_wp2
  go_ret
  exact ⟨rfl, rfl⟩

set_option maxRecDepth 100000 in set_option maxHeartbeats 1600000 in
theorem rend_any (g d : Nat) (st : RS) (w : World) (h : RD w g d st) :
    Calls Try.prog 25 #[.pointer (some ⟨g, 0, none⟩)] w fun e w' => e = .returned (.int .i64 (endE st)) ∧ w = w' := by
  obtain ⟨v, hb, ⟨a, cap, rfl, hlc, hnc, hs⟩, hok, hlen⟩ := h
  have hc := hb.cell
  clear hb hlc hnc
  obtain ⟨L, E⟩ := st
  simp only at *
  go_enter Try.func25, Try.ntmps25
  by_cases hE : E = 0
  · subst hE
    cases L with
    | nil =>
      go_wp2
      go_ret
      exact ⟨rfl, rfl⟩
    | cons x L =>
      have hpos : (0 : Int) < ((L.length + 1 : Nat) : Int) := by omega
      simp only [List.length_cons] at *
      go_wp2
      go_ret
      exact ⟨rfl, rfl⟩
  · have HE : Hid (endE ⟨L, E⟩ = E) := Hid.mk' (by unfold endE; rw [if_neg (fun h => hE h.1)])
    have hE1 : (E == 0) = false := by simpa using hE
    go_wp2
    go_ret
    exact ⟨ret_int HE.out.symm, rfl⟩

set_option maxRecDepth 100000 in set_option maxHeartbeats 1600000 in
theorem read_any (v : Value) (l : List Int) (w : World) (hl : Sl w v 1 (l.map bcell)) (hlen : l.length ≤ 1000000) (hb : isB l) :
    Calls Try.prog 19 #[v] w fun e w' => ∃ g, e = .returned (.pointer (some ⟨g, 0, none⟩)) ∧ w.heap.size ≤ g ∧ RD w' g w.heap.size ⟨l, 0⟩ ∧ Ext w w' := by
  have HL := Hid.mk' hl
  have HB := Hid.mk' hb
  clear hl hb
  go_enter Try.func19, Try.ntmps19
  go_wp2_with (go_at_call 26; refine (clone_any v l _ HL.out hlen).mono ?_; rintro e w1 ⟨v1, rfl, ho1, hb1⟩; obtain ⟨a1, cap1, rfl⟩ := ho1.shape; have HO1 := Hid.mk' ho1; have HE1 := Hid.mk' hb1; clear ho1 hb1)
  go_ret
  exact ⟨_, rfl, HE1.out.size, ⟨_, Blk.new _ _ _, (SB.of_own HO1.out (Nat.le_refl _)).ext ((Ext.refl w1).alloc _), ⟨fun h => absurd rfl h, HB.out⟩, hlen⟩, HE1.out.alloc _⟩

end Go.Proofs.Ytmpnopjkpamhaaa
