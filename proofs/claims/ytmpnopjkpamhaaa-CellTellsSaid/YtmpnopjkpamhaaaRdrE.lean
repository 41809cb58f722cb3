/-
The program's reader: texts, bytes, words, numbers with a sign.
-/
import Derived.Test.YtmpnopjkpamhaaaRdrD
namespace Go.Proofs.Ytmpnopjkpamhaaa
open Go.RowKit

theorem i64_wrap (n : Int) : IntKind.i64.wrap n = (n + 9223372036854775808) % 18446744073709551616 - 9223372036854775808 := by
  simp [IntKind.wrap, IntKind.signed, IntKind.bits]; split <;> omega
theorem zag_bits {n : Nat} (h : n ≤ 18446744073709551615) : bits BinOp.xor IntKind.i64 ((n : Int) / 2) (wrap64 (-wrap64 (bits BinOp.and IntKind.u64 (n : Int) 1))) = zag n := by
  have e1 : bits BinOp.and IntKind.u64 (n : Int) 1 = ((n % 2 : Nat) : Int) := by
    have := bits_and_u64_nat n 1 (by omega) (by decide)
    rw [Nat.and_one_is_mod] at this; exact this
  have ha : (BitVec.ofInt 64 ((n : Int) / 2)).toNat = n / 2 := by
    rw [show ((n : Int) / 2) = ((n / 2 : Nat) : Int) by omega, BitVec.ofInt_natCast, BitVec.toNat_ofNat]; exact Nat.mod_eq_of_lt (by omega)
  rw [e1]
  unfold zag
  by_cases hn : n % 2 = 1
  · rw [if_pos hn, hn]
    have e2 : wrap64 (-wrap64 ((1 : Nat) : Int)) = -1 := by unfold wrap64; decide
    rw [e2]
    show IntKind.i64.wrap ((BitVec.ofInt 64 ((n : Int) / 2) ^^^ BitVec.ofInt 64 (-1)).toNat : Int) = _
    have e3 : BitVec.ofInt 64 (-1) = BitVec.allOnes 64 := by decide
    rw [e3, BitVec.xor_allOnes, BitVec.toNat_not, ha, i64_wrap]
    omega
  · rw [if_neg hn, show n % 2 = 0 by omega]
    have e2 : wrap64 (-wrap64 ((0 : Nat) : Int)) = 0 := by unfold wrap64; decide
    rw [e2]
    show IntKind.i64.wrap ((BitVec.ofInt 64 ((n : Int) / 2) ^^^ BitVec.ofInt 64 0).toNat : Int) = _
    have e3 : BitVec.ofInt 64 0 = 0#64 := by decide
    rw [e3, BitVec.xor_zero, ha, i64_wrap]
    omega
theorem or_eight (v x n : Nat) (hv : v < 256 ^ n) : v ||| x * 256 ^ n = v + x * 256 ^ n := by
  have e : x * 256 ^ n = 2 ^ (8 * n) * x := by rw [Nat.pow_mul, Nat.mul_comm]
  have hv' : v < 2 ^ (8 * n) := by rw [Nat.pow_mul]; exact hv
  rw [e, or_apart (8 * n) x v hv', Nat.add_comm]
theorem ofBytes_snoc : ∀ (l : List Int) (x : Int), ofBytes (l ++ [x]) = ofBytes l + x.toNat * 256 ^ l.length := by
  intro l
  induction l with
  | nil => intro x; simp [ofBytes]
  | cons y l ih => intro x; rw [List.cons_append, ofBytes, ih, ofBytes, List.length_cons, Nat.pow_succ, Nat.mul_add, ← Nat.mul_assoc, Nat.mul_comm 256 (x.toNat), Nat.mul_assoc, Nat.mul_comm 256 (256 ^ l.length)]; omega
theorem word_or {v n : Nat} {x : Int} (hv : v < 256 ^ n) (hn : n < 8) (hx : 0 ≤ x) (hx1 : x < 256) :
    bits BinOp.or IntKind.u64 (v : Int) (IntKind.u64.wrap (x * 2 ^ (8 * n))) = ((v + x.toNat * 256 ^ n : Nat) : Int) := by
  have h1 : 256 ^ n ≤ 256 ^ 7 := Nat.pow_le_pow_right (by decide) (by omega)
  have h2 : (256 : Nat) ^ 7 = 72057594037927936 := by decide
  have e : x * 2 ^ (8 * n) = ((x.toNat * 256 ^ n : Nat) : Int) := by
    have h1 : ((2 : Int) ^ (8 * n)) = ((256 ^ n : Nat) : Int) := by rw [show (256 : Nat) = 2 ^ 8 from rfl, ← Nat.pow_mul, Int.natCast_pow]; rfl
    rw [h1, Int.natCast_mul]; congr 1; omega
  have h3 : x.toNat * 256 ^ n ≤ 255 * 256 ^ n := Nat.mul_le_mul_right _ (by omega)
  rw [e, u64_wrap', Int.emod_eq_of_lt (by omega) (by omega), bits_or_u64_nat _ _ (by omega) (by omega), or_eight _ _ _ hv]

set_option maxRecDepth 100000 in set_option maxHeartbeats 1600000 in
theorem rtxt_any (g d : Nat) (st : RS) (m : Nat) (w : World) (h : RD w g d st) (hm0 : 0 < m) (hm : m ≤ 1000000) :
    Calls Try.prog 70 #[.pointer (some ⟨g, 0, none⟩), .int .i64 m] w (RPost g d w (.string (strOfNums (textR m st).1)) (textR m st).2) := by
  have H := Hid.mk' h
  have HU := Hid.mk' (fun w h => ruint2_any g d st m w h (by omega))
  have hle := uintR_le (st := st) m
  unfold textR
  simp only
  generalize uintR m st = U at *
  obtain ⟨n, st1⟩ := U
  simp only at *
  have hn : n ≤ 1000000 := by omega
  have HB := Hid.mk' (fun w h => rbytes_any g d st1 n w h (by omega))
  by_cases hk : st1.l.length < n
  · have hE : Hid (bytesR n st1 = ([], giveS st1 1)) := Hid.mk' (by unfold bytesR; rw [if_pos hk])
    go_enter Try.func70, Try.ntmps70
    go_wp2_with (first
      | (go_at_call 71; refine (HU.out _ H.out).mono ?_; rintro e w1 ⟨rfl, hr, ht⟩; have HR := Hid.mk' hr; have HT := Hid.mk' ht; obtain ⟨v1, hb1, ⟨a1, cap1, rfl, -, -, -⟩, -, hlen1⟩ := hr; have hc1 := hb1.cell; clear ht hb1)
      | (go_at_call 67; refine (giveUp_any g d st1 1 _ HR.out (by decide)).mono ?_; rintro e w2 ⟨rfl, hr2, ht2⟩; have HR2 := Hid.mk' hr2; have HT2 := Hid.mk' ht2; clear hr2 ht2))
    go_ret
    refine ⟨?_, by rw [hE.out]; exact HR2.out, HT.out.trans HT2.out⟩
    rw [hE.out]; rfl
  · have hk' : n ≤ st1.l.length := by omega
    go_enter Try.func70, Try.ntmps70
    go_wp2_with (first
      | (go_at_call 71; refine (HU.out _ H.out).mono ?_; rintro e w1 ⟨rfl, hr, ht⟩; have HR := Hid.mk' hr; have HT := Hid.mk' ht; obtain ⟨v1, hb1, ⟨a1, cap1, rfl, -, -, -⟩, -, hlen1⟩ := hr; have hc1 := hb1.cell; clear ht hb1)
      | (go_at_call 92; refine (HB.out _ HR.out).mono ?_; rintro e w2 ⟨v2, rfl, hsb, hr2, ht2⟩; have hcv := conv_Sl hsb.sl; have HR2 := Hid.mk' hr2; have HT2 := Hid.mk' ht2; clear hr2 ht2 hsb))
    go_ret
    exact ⟨rfl, HR2.out, HT.out.trans HT2.out⟩

set_option maxRecDepth 100000 in set_option maxHeartbeats 1600000 in
theorem rbyte_any (g d : Nat) (st : RS) (w : World) (h : RD w g d st) :
    Calls Try.prog 68 #[.pointer (some ⟨g, 0, none⟩)] w (RPost g d w (.int .u8 (byteR st).1) (byteR st).2) := by
  have H := Hid.mk' h
  have HB := Hid.mk' (fun w h => rbytes_any g d st 1 w h (by omega))
  unfold byteR
  simp only
  by_cases hk : st.l.length < 1
  · have hE : bytesR 1 st = ([], giveS st 1) := by unfold bytesR; rw [if_pos hk]
    rw [hE] at HB ⊢
    clear hE h hk
    go_enter Try.func68, Try.ntmps68
    go_wp2_with (first
      | (go_at_call 92; refine (HB.out _ H.out).mono ?_; rintro e w2 ⟨v2, rfl, ⟨a2, cap2, rfl, -, -, -⟩, hr2, ht2⟩; have HR2 := Hid.mk' hr2; have HT2 := Hid.mk' ht2; clear hr2 ht2))
    go_ret
    exact ⟨rfl, HR2.out, HT2.out⟩
  · have hE : bytesR 1 st = (st.l.take 1, ⟨st.l.drop 1, st.e⟩) := by unfold bytesR; rw [if_neg hk]
    obtain ⟨x, L, hx⟩ : ∃ x L, st.l = x :: L := by
      cases hL : st.l with
      | nil => rw [hL] at hk; simp at hk
      | cons x L => exact ⟨x, L, rfl⟩
    have hE2 : bytesR 1 st = ([x], ⟨L, st.e⟩) := by rw [hE, hx]; rfl
    rw [hE2] at HB ⊢
    clear hE hE2 h hk hx
    go_enter Try.func68, Try.ntmps68
    go_wp2_with (first
      | (go_at_call 92; refine (HB.out _ H.out).mono ?_; rintro e w2 ⟨v2, rfl, ⟨a2, cap2, rfl, -, -, hs2⟩, hr2, ht2⟩; obtain ⟨b2, o2, rfl, hcx⟩ : ∃ b o, a2 = some ⟨b, o, none⟩ ∧ w2.cell? ⟨b, o, none⟩ = some (.int .u8 x) := (by rcases hs2 with h0 | ⟨b, o, ha, hb, hne, hc⟩; (cases h0); exact ⟨b, o, ha, hc 0 Nat.one_pos⟩); have HR2 := Hid.mk' hr2; have HT2 := Hid.mk' ht2; clear hr2 ht2 hs2))
    go_ret
    exact ⟨rfl, HR2.out, HT2.out⟩

set_option maxRecDepth 100000 in set_option maxHeartbeats 1600000 in
theorem rint_any (g d : Nat) (st : RS) (w : World) (h : RD w g d st) :
    Calls Try.prog 73 #[.pointer (some ⟨g, 0, none⟩)] w (RPost g d w (.int .i64 (intR st).1) (intR st).2) := by
  have H := Hid.mk' h
  have HU := Hid.mk' (fun w h => ruint2_any g d st 18446744073709551615 w h (by omega))
  have hle := uintR_le (st := st) 18446744073709551615
  unfold intR
  simp only
  generalize uintR 18446744073709551615 st = U at *
  obtain ⟨n, st1⟩ := U
  simp only at *
  clear h
  go_enter Try.func73, Try.ntmps73
  go_wp2_with (go_at_call 71; refine (HU.out _ H.out).mono ?_; rintro e w1 ⟨rfl, hr, ht⟩; have HR := Hid.mk' hr; have HT := Hid.mk' ht; clear hr ht)
  go_ret
  exact ⟨ret_int (zag_bits hle), HR.out, HT.out⟩

set_option maxRecDepth 100000 in set_option maxHeartbeats 1600000 in
theorem rword2_any (g d : Nat) (st : RS) (w : World) (h : RD w g d st) :
    Calls Try.prog 72 #[.pointer (some ⟨g, 0, none⟩)] w (RPost g d w (.int .u64 (wordR st).1) (wordR st).2) := by
  have H := Hid.mk' h
  have HB := Hid.mk' (fun w h => rbytes_any g d st 8 w h (by omega))
  have hib : isB (bytesR 8 st).1 := by obtain ⟨_, _, _, hok, _⟩ := h; exact bytesR_isB hok 8
  have hl8 : (bytesR 8 st).1.length ≤ 8 := by unfold bytesR; split <;> simp <;> omega
  unfold wordR
  simp only
  generalize bytesR 8 st = U at *
  obtain ⟨L, st1⟩ := U
  simp only at *
  have HIB := Hid.mk' hib
  clear h hib
  go_enter Try.func72, Try.ntmps72
  go_wp2_with (go_at_call 92; refine (HB.out _ H.out).mono ?_; rintro e w2 ⟨v2, rfl, ⟨a2, cap2, rfl, -, -, hs2⟩, hr2, ht2⟩; have HCX : Hid (∀ k, k < L.length → ∃ b o, a2 = some ⟨b, o, none⟩ ∧ w2.cell? ⟨b, o + k, none⟩ = some (.int .u8 (L.getD k 0))) := Hid.mk' (fun k hk => by rcases hs2 with h0 | ⟨b, o, ha, hb, hne, hc⟩; (subst h0; cases hk); exact ⟨b, o, ha, hc k hk⟩); have HR2 := Hid.mk' hr2; have HT2 := Hid.mk' ht2; clear hr2 ht2 hs2)
  go_loop [3, 9] (fun v i => ∃ k : Nat, k ≤ L.length ∧ i = .int .i64 k ∧ v = .int .u64 (ofBytes (L.take k))) (fun _ i => L.length - (intOf i).toNat)
  case atStart => exact ⟨0, Nat.zero_le _, rfl, rfl⟩
  case round =>
    obtain ⟨k, hk, rfl, rfl⟩ := hrel
    by_cases hlt : k < L.length
    · obtain ⟨b, o, rfl, hx⟩ := HCX.out k hlt
      have hxr : 0 ≤ L.getD k 0 ∧ L.getD k 0 < 256 := HIB.out _ (by rw [List.getD_eq_getElem?_getD, List.getElem?_eq_getElem hlt]; exact List.getElem_mem hlt)
      have hT : L.take (k + 1) = L.take k ++ [L.getD k 0] := by
        rw [List.take_succ_eq_append_getElem hlt]; simp [List.getD, List.getElem?_eq_getElem hlt]
      have hlk : (L.take k).length = k := by simp; omega
      have hO := ofBytes_snoc (L.take k) (L.getD k 0)
      rw [← hT, hlk] at hO
      have hv := ofBytes_lt (L.take k) (HIB.out.take k)
      rw [hlk] at hv
      have hW := word_or (x := L.getD k 0) hv (by omega) hxr.1 hxr.2
      rw [← hO] at hW
      clear hT hlk hO hv
      generalize L.getD k 0 = x at *
      generalize ofBytes (L.take k) = v at *
      generalize hv2 : ofBytes (L.take (k + 1)) = v2 at *
      have HV2 := Hid.mk' hv2
      have HW := Hid.mk' hW
      clear hv2 hW
      obtain ⟨hx0, hx1⟩ := hxr
      go_wp2
      go_round
      case rel => exact ⟨k + 1, by omega, by go_num, by rw [HV2.out, ← HW.out]⟩
      case measure => simp [intOf]; omega
    · obtain rfl : k = L.length := by omega
      have HO : Hid (L.take L.length = L) := Hid.mk' (List.take_length)
      go_wp2
      go_ret
      exact ⟨ret_int (by first | rfl | rw [HO.out]), HR2.out, HT2.out⟩

end Go.Proofs.Ytmpnopjkpamhaaa
