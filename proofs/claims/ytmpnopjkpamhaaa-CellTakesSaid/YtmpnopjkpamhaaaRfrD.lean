/-
The reference's reader: numbers with a sign, texts, bytes, words.
-/
import Derived.Test.YtmpnopjkpamhaaaRfrC
namespace Go.Proofs.Ytmpnopjkpamhaaa
open Go.RowKit

set_option maxRecDepth 100000 in set_option maxHeartbeats 1600000 in
theorem zag_any (n : Nat) (w : World) (hn : n < 2 ^ 64) :
    Calls Try.prog 100 #[.int .u64 n] w fun e w' => e = .returned (.int .i64 (zag n)) ∧ w = w' := by
  by_cases h : n % 2 = 1
  · have HZ : Hid (zag n = -((n : Int) / 2) - 1) := Hid.mk' (by unfold zag; rw [if_pos h]; omega)
    have h1 : (n : Int) % 2 = 1 := by omega
    go_enter Try.func100, Try.ntmps100
    go_wp2
    go_ret
    exact ⟨ret_int (by rw [HZ.out]), rfl⟩
  · have HZ : Hid (zag n = (n : Int) / 2) := Hid.mk' (by unfold zag; rw [if_neg h]; omega)
    have h1 : (n : Int) % 2 = 0 := by omega
    go_enter Try.func100, Try.ntmps100
    go_wp2
    go_ret
    exact ⟨ret_int (by rw [HZ.out]), rfl⟩

set_option maxRecDepth 100000 in set_option maxHeartbeats 1600000 in
theorem fint_any (g d : Nat) (st : RS) (w : World) (h : RF w g d st) :
    Calls Try.prog 95 #[.pointer (some ⟨g, 0, none⟩)] w (FPost g d w (.int .i64 (intR st).1) (intR st).2) := by
  have H := Hid.mk' h
  have HU := Hid.mk' (fun w h => fuint_any g d st 18446744073709551615 w h (by omega))
  have hle := uintR_le (st := st) 18446744073709551615
  unfold intR
  simp only
  generalize uintR 18446744073709551615 st = U at *
  obtain ⟨n, st1⟩ := U
  simp only at *
  have HL : Hid (n < 2 ^ 64) := Hid.mk' (by omega)
  clear h
  go_enter Try.func95, Try.ntmps95
  go_wp2_with (first
    | (go_at_call 81; refine (HU.out _ H.out).mono ?_; rintro e w1 ⟨rfl, hr, ht⟩; have HR := Hid.mk' hr; have HT := Hid.mk' ht; clear hr ht)
    | (go_at_call 100; refine (zag_any n _ HL.out).mono ?_; rintro e w2 ⟨rfl, rfl⟩))
  go_ret
  exact ⟨rfl, HR.out, HT.out⟩

set_option maxRecDepth 100000 in set_option maxHeartbeats 1600000 in
theorem ftext_any (g d : Nat) (st : RS) (m : Nat) (w : World) (h : RF w g d st) (hm : m ≤ 1000000) :
    Calls Try.prog 80 #[.pointer (some ⟨g, 0, none⟩), .int .i64 m] w (FPost g d w (.string (strOfNums (textR m st).1)) (textR m st).2) := by
  have H := Hid.mk' h
  have HU := Hid.mk' (fun w h => fuint_any g d st m w h (by omega))
  have hle := uintR_le (st := st) m
  unfold textR
  simp only
  generalize uintR m st = U at *
  obtain ⟨n, st1⟩ := U
  simp only at *
  have HB := Hid.mk' (fun w h => fbytes_any g d st1 n w h (by omega))
  have hm0 : (0 : Int) ≤ (m : Int) := by omega
  clear h
  go_enter Try.func80, Try.ntmps80
  go_wp2_with (first
    | (go_at_call 81; refine (HU.out _ H.out).mono ?_; rintro e w1 ⟨rfl, hr, ht⟩; have HR := Hid.mk' hr; have HT := Hid.mk' ht; clear hr ht)
    | (go_at_call 82; refine (HB.out _ HR.out).mono ?_; rintro e w2 ⟨rfl, hr2, ht2⟩; have HR2 := Hid.mk' hr2; have HT2 := Hid.mk' ht2; clear hr2 ht2))
  go_ret
  exact ⟨rfl, HR2.out, HT.out.trans HT2.out⟩

theorem strOf_get {l : List Int} (hb : isB l) {k : Nat} (hk : k < (strOfNums l).size) : ((strOfNums l)[k].toNat : Int) = l.getD k 0 := by
  have hk2 : k < l.length := by rwa [strOfNums_size] at hk
  have h : (strOfNums l)[k] = UInt8.ofNat (l[k]).toNat := by
    show (strOfNums l).data[k] = _
    simp [strOfNums]
  rw [h]
  have := hb l[k] (List.getElem_mem hk2)
  simp only [UInt8.toNat_ofNat', List.getD, List.getElem?_eq_getElem hk2, Option.getD_some]
  omega

set_option maxRecDepth 100000 in set_option maxHeartbeats 1600000 in
theorem fbyte_any (g d : Nat) (st : RS) (w : World) (h : RF w g d st) :
    Calls Try.prog 77 #[.pointer (some ⟨g, 0, none⟩)] w (FPost g d w (.int .u8 (byteR st).1) (byteR st).2) := by
  have H := Hid.mk' h
  have hok := h.ok
  have HB := Hid.mk' (fun w h => fbytes_any g d st 1 w h (by omega))
  have hib := bytesR_isB hok 1
  have hln : (bytesR 1 st).1.length ≤ 1 := by unfold bytesR; split <;> simp; omega
  unfold byteR
  simp only
  generalize bytesR 1 st = U at *
  obtain ⟨L, st1⟩ := U
  simp only at *
  clear h hok
  cases L with
  | nil =>
    have e : strOfNums [] = ByteArray.empty := rfl
    rw [e] at HB
    clear e
    go_enter Try.func77, Try.ntmps77
    go_wp2_with (go_at_call 82; refine (HB.out _ H.out).mono ?_; rintro e w2 ⟨rfl, hr2, ht2⟩; have HR2 := Hid.mk' hr2; have HT2 := Hid.mk' ht2; clear hr2 ht2)
    go_ret
    exact ⟨rfl, HR2.out, HT2.out⟩
  | cons x L =>
    have hL : L = [] := by cases L with | nil => rfl | cons y L => simp at hln
    subst hL
    have h0 := hib.head
    obtain ⟨s, hs⟩ : ∃ s, s = strOfNums [x] := ⟨_, rfl⟩
    have h1 : s.size = 1 := by rw [hs, strOfNums_size]; rfl
    have h2 : (s[0].toNat : Int) = x := by
      have hh : ∀ (t : ByteArray) (h : 0 < t.size), t = strOfNums [x] → (t[0].toNat : Int) = x := by
        rintro t h rfl; exact strOf_get hib h
      exact hh s (by omega) hs
    have h3 : s.toList ≠ [] := by
      intro h
      have : s.data.toList = [] := by rw [← ByteArray.toList_eq]; exact h
      have h4 : s.data.toList.length = s.size := by simp
      rw [this] at h4; simp at h4; omega
    rw [← hs] at HB
    clear hs hib hln
    have h5 : s.toList.isEmpty = false := by cases h : s.toList with | nil => exact absurd h h3 | cons a b => rfl
    have h6 : (s.toList == []) = false := by cases h : s.toList with | nil => exact absurd h h3 | cons a b => rfl
    clear h3
    go_enter Try.func77, Try.ntmps77
    go_wp2_with (go_at_call 82; refine (HB.out _ H.out).mono ?_; rintro e w2 ⟨rfl, hr2, ht2⟩; have HR2 := Hid.mk' hr2; have HT2 := Hid.mk' ht2; clear hr2 ht2)
    go_ret
    exact ⟨ret_int (by first | exact h2 | simp | rfl), HR2.out, HT2.out⟩

end Go.Proofs.Ytmpnopjkpamhaaa
