/-
The reference's reader: words; floats and parts.
-/
import Derived.Test.YtmpnopjkpamhaaaRfrD
import Derived.Test.YtmpnopjkpamhaaaRefPutB
namespace Go.Proofs.Ytmpnopjkpamhaaa
open Go.RowKit

theorem ofBytes_drop_le : ∀ (k : Nat) (l : List Int), ofBytes (l.drop k) ≤ ofBytes l := by
  intro k
  induction k with
  | zero => intro l; simp
  | succ k ih =>
    intro l
    cases l with
    | nil => simp
    | cons x l => rw [List.drop_succ_cons, ofBytes]; have := ih l; omega

set_option maxRecDepth 100000 in set_option maxHeartbeats 1600000 in
theorem fword_any (g d : Nat) (st : RS) (w : World) (h : RF w g d st) :
    Calls Try.prog 94 #[.pointer (some ⟨g, 0, none⟩)] w (FPost g d w (.int .u64 (wordR st).1) (wordR st).2) := by
  have H := Hid.mk' h
  have hok := h.ok
  have HB := Hid.mk' (fun w h => fbytes_any g d st 8 w h (by omega))
  have hib := bytesR_isB hok 8
  have hln : (bytesR 8 st).1.length ≤ 8 := by unfold bytesR; split <;> simp <;> omega
  have hlt := ofBytes_lt64 hib hln
  unfold wordR
  simp only
  generalize bytesR 8 st = U at *
  obtain ⟨L, st1⟩ := U
  simp only at *
  obtain ⟨s, hs⟩ : ∃ s, s = strOfNums L := ⟨_, rfl⟩
  have hsz : s.size = L.length := by rw [hs, strOfNums_size]
  have HG : Hid (∀ (k : Nat) (h : k < s.size), (s[k].toNat : Int) = L.getD k 0) := Hid.mk' (by subst hs; exact fun k h => strOf_get hib h)
  rw [← hs] at HB
  have HSZ := Hid.mk' hsz
  have HIB := Hid.mk' hib
  have hs8 : s.size ≤ 8 := by omega
  have HLT := Hid.mk' hlt
  clear h hok hs hib hsz hlt
  go_enter Try.func94, Try.ntmps94
  go_wp2_with (go_at_call 82; refine (HB.out _ H.out).mono ?_; rintro e w2 ⟨rfl, hr2, ht2⟩; have HR2 := Hid.mk' hr2; have HT2 := Hid.mk' ht2; clear hr2 ht2)
  go_loop [4, 5] (fun v i => ∃ j : Nat, j ≤ s.size ∧ i = .int .i64 ((j : Int) - 1) ∧ v = .int .u64 (ofBytes (L.drop j))) (fun _ i => (intOf i + 1).toNat)
  case atStart => exact ⟨s.size, Nat.le_refl _, rfl, by rw [HSZ.out, List.drop_length]; rfl⟩
  case round =>
    obtain ⟨j, hj, rfl, rfl⟩ := hrel
    cases j with
    | succ k =>
      have e : (((k + 1 : Nat) : Int) - 1) = (k : Int) := by omega
      rw [e]
      clear e
      have hks : k < s.size := by omega
      have hkl : k < L.length := by rw [← HSZ.out]; exact hks
      have hx := HG.out k hks
      have hx0 := HIB.out (L.getD k 0) (by rw [List.getD_eq_getElem?_getD, List.getElem?_eq_getElem hkl]; exact List.getElem_mem hkl)
      have hd : L.drop k = L.getD k 0 :: L.drop (k + 1) := by
        rw [List.drop_eq_getElem_cons hkl]; simp [List.getD, List.getElem?_eq_getElem hkl]
      have hle := ofBytes_drop_le k L
      have hM := HLT.out
      have HN : Hid ((ofBytes (L.drop k) : Int) = 256 * (ofBytes (L.drop (k + 1)) : Int) + (s[k].toNat : Int)) := Hid.mk' (by rw [hx, hd, ofBytes]; push_cast; omega)
      have hbd : 256 * (ofBytes (L.drop (k + 1)) : Int) + (s[k].toNat : Int) < 18446744073709551616 := by rw [← HN.out]; omega
      clear hx hx0 hd hle hM hkl
      generalize ofBytes (L.drop (k + 1)) = vv at *
      have hb0 : (s[k].toNat : Int) < 256 := by have := s[k].toNat_lt; omega
      go_wp2
      go_round
      case rel => exact ⟨k, by omega, rfl, by rw [HN.out]⟩
      case measure => simp [intOf]
    | zero =>
      have e : (((0 : Nat) : Int) - 1) = -1 := by omega
      rw [e]
      clear e
      simp only [List.drop_zero]
      go_wp2
      go_ret
      exact ⟨rfl, HR2.out, HT2.out⟩

set_option maxRecDepth 100000 in set_option maxHeartbeats 1600000 in
theorem ftf_any (g d : Nat) (st : RS) (ver : Int) (w : World) (h : RF w g d st) :
    Calls Try.prog 96 #[.pointer (some ⟨g, 0, none⟩), .int .u8 ver] w (FPost g d w (.int .u64 (floatR ver st).1) (floatR ver st).2) := by
  have H := Hid.mk' h
  by_cases h1 : ver = 1
  · have HW := Hid.mk' (fun w h => fword_any g d st w h)
    subst h1
    unfold floatR
    rw [if_pos rfl]
    clear h
    go_enter Try.func96, Try.ntmps96
    go_wp2_with (go_at_call 94; refine (HW.out _ H.out).mono ?_; rintro e w1 ⟨rfl, hr, ht⟩; have HR := Hid.mk' hr; have HT := Hid.mk' ht; clear hr ht)
    go_ret
    exact ⟨rfl, HR.out, HT.out⟩
  · have HU := Hid.mk' (fun w h => fuint_any g d st 18446744073709551615 w h (by omega))
    have hle := uintR_le (st := st) 18446744073709551615
    unfold floatR
    rw [if_neg h1]
    simp only
    generalize uintR 18446744073709551615 st = U at *
    obtain ⟨n, st1⟩ := U
    simp only at *
    have HL : Hid (n < 2 ^ 64) := Hid.mk' (by omega)
    clear h
    go_enter Try.func96, Try.ntmps96
    go_wp2_with (first
      | (go_at_call 81; refine (HU.out _ H.out).mono ?_; rintro e w1 ⟨rfl, hr, ht⟩; have HR := Hid.mk' hr; have HT := Hid.mk' ht; clear hr ht)
      | (go_at_call 86; refine (rturned_any n _ HL.out).mono ?_; rintro e w2 ⟨rfl, hb2⟩; have HR2 := Hid.mk' (HR.out.ext hb2); have HT2 := Hid.mk' (HT.out.trans (Tch.of_ext hb2)); clear hb2))
    go_ret
    exact ⟨rfl, HR2.out, HT2.out⟩

set_option maxRecDepth 100000 in set_option maxHeartbeats 1600000 in
theorem fpart_any (g d : Nat) (st : RS) (t : Bool) (w : World) (h : RF w g d st) :
    Calls Try.prog 97 #[.pointer (some ⟨g, 0, none⟩), .bool t] w (FPost g d w (.int .u64 (partR t st).1) (partR t st).2) := by
  have H := Hid.mk' h
  clear h
  cases t with
  | false =>
    go_enter Try.func97, Try.ntmps97
    go_wp2
    go_ret
    exact ⟨rfl, H.out, Tch.refl g w⟩
  | true =>
    have HF := Hid.mk' (fun w h => ftf_any g d st 2 w h)
    unfold partR
    rw [if_pos rfl]
    simp only
    generalize floatR 2 st = U at *
    obtain ⟨x, st1⟩ := U
    simp only at *
    have HG := Hid.mk' (fun w h => fgive_any g d st1 3 w h (by decide))
    by_cases x0 : x = 0
    · subst x0
      go_enter Try.func97, Try.ntmps97
      go_wp2_with (first
        | (go_at_call 96; refine (HF.out _ H.out).mono ?_; rintro e w1 ⟨rfl, hr, ht⟩; have HR := Hid.mk' hr; have HT := Hid.mk' ht; clear hr ht)
        | (go_at_call 76; refine (HG.out _ HR.out).mono ?_; rintro e w2 ⟨rfl, hr2, ht2⟩; have HR2 := Hid.mk' hr2; have HT2 := Hid.mk' ht2; clear hr2 ht2))
      go_ret
      exact ⟨rfl, HR2.out, HT.out.trans HT2.out⟩
    · have x1 : ((x : Int) == 0) = false := by simpa using x0
      have X0 := Hid.mk' x0
      clear x0
      go_enter Try.func97, Try.ntmps97
      go_wp2_with (first
        | (go_at_call 96; refine (HF.out _ H.out).mono ?_; rintro e w1 ⟨rfl, hr, ht⟩; have HR := Hid.mk' hr; have HT := Hid.mk' ht; clear hr ht))
      go_ret
      exact ⟨rfl, by first | exact HR.out | (rw [if_neg X0.out]; exact HR.out), HT.out⟩

end Go.Proofs.Ytmpnopjkpamhaaa
