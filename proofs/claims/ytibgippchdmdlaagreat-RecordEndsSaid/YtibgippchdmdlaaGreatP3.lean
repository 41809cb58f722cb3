/-
The program's reader: texts, bytes, words, numbers with a sign.
-/
import Derived.Lib.ConvBytes
import Derived.Deep.AppendLies
import Derived.Laws.AppendOwnNone
import Derived.Test.YtibgippchdmdlaaGreatP2
namespace Go.Proofs.YtibgippchdmdlaaGreat
open Go.RowKit

theorem i64_wrap (n : Int) : IntKind.i64.wrap n = (n + 9223372036854775808) % 18446744073709551616 - 9223372036854775808 := by
  simp [IntKind.wrap, IntKind.signed, IntKind.bits]; split <;> omega
theorem zag_bits {n : Nat} (h : n ≤ 18446744073709551615) : bits BinOp.xor IntKind.i64 ((n : Int) / 2) (wrap64 (-wrap64 (bits BinOp.and IntKind.u64 (n : Int) 1))) = zag n := by
  have e1 : bits BinOp.and IntKind.u64 (n : Int) 1 = ((n % 2 : Nat) : Int) := by
    have := bits_and_u64_nat n 1 (by omega) (by decide)
    rw [Nat.and_one_is_mod] at this; exact this
  have ha : (BitVec.ofInt 64 ((n : Int) / 2)).toNat = n / 2 := by
    rw [show ((n : Int) / 2) = ((n / 2 : Nat) : Int) by omega, BitVec.ofInt_natCast, BitVec.toNat_ofNat]; exact Nat.mod_eq_of_lt (by omega)
  rw [e1]
  unfold zag
  by_cases hn : n % 2 = 1
  · rw [if_pos hn, hn]
    have e2 : wrap64 (-wrap64 ((1 : Nat) : Int)) = -1 := by unfold wrap64; decide
    rw [e2]
    show IntKind.i64.wrap ((BitVec.ofInt 64 ((n : Int) / 2) ^^^ BitVec.ofInt 64 (-1)).toNat : Int) = _
    have e3 : BitVec.ofInt 64 (-1) = BitVec.allOnes 64 := by decide
    rw [e3, BitVec.xor_allOnes, BitVec.toNat_not, ha, i64_wrap]
    omega
  · rw [if_neg hn, show n % 2 = 0 by omega]
    have e2 : wrap64 (-wrap64 ((0 : Nat) : Int)) = 0 := by unfold wrap64; decide
    rw [e2]
    show IntKind.i64.wrap ((BitVec.ofInt 64 ((n : Int) / 2) ^^^ BitVec.ofInt 64 0).toNat : Int) = _
    have e3 : BitVec.ofInt 64 0 = 0#64 := by decide
    rw [e3, BitVec.xor_zero, ha, i64_wrap]
    omega
theorem or_eight (v x n : Nat) (hv : v < 256 ^ n) : v ||| x * 256 ^ n = v + x * 256 ^ n := by
  have e : x * 256 ^ n = 2 ^ (8 * n) * x := by rw [Nat.pow_mul, Nat.mul_comm]
  have hv' : v < 2 ^ (8 * n) := by rw [Nat.pow_mul]; exact hv
  rw [e, or_apart (8 * n) x v hv', Nat.add_comm]
theorem ofBytes_snoc : ∀ (l : List Int) (x : Int), ofBytes (l ++ [x]) = ofBytes l + x.toNat * 256 ^ l.length := by
  intro l
  induction l with
  | nil => intro x; simp [ofBytes]
  | cons y l ih => intro x; rw [List.cons_append, ofBytes, ih, ofBytes, List.length_cons, Nat.pow_succ, Nat.mul_add, ← Nat.mul_assoc, Nat.mul_comm 256 (x.toNat), Nat.mul_assoc, Nat.mul_comm 256 (256 ^ l.length)]; omega
theorem word_or {v n : Nat} {x : Int} (hv : v < 256 ^ n) (hn : n < 8) (hx : 0 ≤ x) (hx1 : x < 256) :
    bits BinOp.or IntKind.u64 (v : Int) (IntKind.u64.wrap (x * 2 ^ (8 * n))) = ((v + x.toNat * 256 ^ n : Nat) : Int) := by
  have h1 : 256 ^ n ≤ 256 ^ 7 := Nat.pow_le_pow_right (by decide) (by omega)
  have h2 : (256 : Nat) ^ 7 = 72057594037927936 := by decide
  have e : x * 2 ^ (8 * n) = ((x.toNat * 256 ^ n : Nat) : Int) := by
    have h1 : ((2 : Int) ^ (8 * n)) = ((256 ^ n : Nat) : Int) := by rw [show (256 : Nat) = 2 ^ 8 from rfl, ← Nat.pow_mul, Int.natCast_pow]; rfl
    rw [h1, Int.natCast_mul]; congr 1; omega
  have h3 : x.toNat * 256 ^ n ≤ 255 * 256 ^ n := Nat.mul_le_mul_right _ (by omega)
  rw [e, u64_wrap', Int.emod_eq_of_lt (by omega) (by omega), bits_or_u64_nat _ _ (by omega) (by omega), or_eight _ _ _ hv]

set_option maxRecDepth 100000 in set_option maxHeartbeats 1600000 in
theorem rtxt_any (g d : Nat) (st : RS) (m : Nat) (w : World) (h : RD w g d st) (hm0 : 0 < m) (hm : m ≤ 1000000) :
    Calls Tryz.prog 211 #[.pointer (some ⟨g, 0, none⟩), .int .i64 m] w (RPost g d w (.string (strOfNums (textR m st).1)) (textR m st).2) := by
  have H := Hid.mk' h
  have HU := Hid.mk' (fun w h => ruint2_any g d st m w h (by omega))
  have hle := uintR_le (st := st) m
  unfold textR
  simp only
  generalize uintR m st = U at *
  obtain ⟨n, st1⟩ := U
  simp only at *
  have hn : n ≤ 1000000 := by omega
  have HB := Hid.mk' (fun w h => rbytes_any g d st1 n w h (by omega))
  by_cases hk : st1.l.length < n
  · have hE : Hid (bytesR n st1 = ([], giveS st1 1)) := Hid.mk' (by unfold bytesR; rw [if_pos hk])
    go_enter Tryz.func211, Tryz.ntmps211
    go_wp2_with (first
      | (go_at_call 60; refine (HU.out _ H.out).mono ?_; rintro e w1 ⟨rfl, hr, ht⟩; have HR := Hid.mk' hr; have HT := Hid.mk' ht; obtain ⟨v1, hb1, ⟨a1, cap1, rfl, -, -, -⟩, -, hlen1⟩ := hr; have hc1 := hb1.cell; clear ht hb1)
      | (go_at_call 104; refine (giveUp_any g d st1 1 _ HR.out (by decide)).mono ?_; rintro e w2 ⟨rfl, hr2, ht2⟩; have HR2 := Hid.mk' hr2; have HT2 := Hid.mk' ht2; clear hr2 ht2))
    go_ret
    refine ⟨?_, by rw [hE.out]; exact HR2.out, HT.out.trans HT2.out⟩
    rw [hE.out]; rfl
  · have hk' : n ≤ st1.l.length := by omega
    go_enter Tryz.func211, Tryz.ntmps211
    go_wp2_with (first
      | (go_at_call 60; refine (HU.out _ H.out).mono ?_; rintro e w1 ⟨rfl, hr, ht⟩; have HR := Hid.mk' hr; have HT := Hid.mk' ht; obtain ⟨v1, hb1, ⟨a1, cap1, rfl, -, -, -⟩, -, hlen1⟩ := hr; have hc1 := hb1.cell; clear ht hb1)
      | (go_at_call 150; refine (HB.out _ HR.out).mono ?_; rintro e w2 ⟨v2, rfl, hsb, hr2, ht2⟩; have hcv := conv_Sl hsb.sl; have HR2 := Hid.mk' hr2; have HT2 := Hid.mk' ht2; clear hr2 ht2 hsb))
    go_ret
    exact ⟨rfl, HR2.out, HT.out.trans HT2.out⟩

set_option maxRecDepth 100000 in set_option maxHeartbeats 1600000 in
theorem rbyte_any (g d : Nat) (st : RS) (w : World) (h : RD w g d st) :
    Calls Tryz.prog 106 #[.pointer (some ⟨g, 0, none⟩)] w (RPost g d w (.int .u8 (byteR st).1) (byteR st).2) := by
  have H := Hid.mk' h
  have HB := Hid.mk' (fun w h => rbytes_any g d st 1 w h (by omega))
  unfold byteR
  simp only
  by_cases hk : st.l.length < 1
  · have hE : bytesR 1 st = ([], giveS st 1) := by unfold bytesR; rw [if_pos hk]
    rw [hE] at HB ⊢
    clear hE h hk
    go_enter Tryz.func106, Tryz.ntmps106
    go_wp2_with (first
      | (go_at_call 150; refine (HB.out _ H.out).mono ?_; rintro e w2 ⟨v2, rfl, ⟨a2, cap2, rfl, -, -, -⟩, hr2, ht2⟩; have HR2 := Hid.mk' hr2; have HT2 := Hid.mk' ht2; clear hr2 ht2))
    go_ret
    exact ⟨rfl, HR2.out, HT2.out⟩
  · have hE : bytesR 1 st = (st.l.take 1, ⟨st.l.drop 1, st.e⟩) := by unfold bytesR; rw [if_neg hk]
    obtain ⟨x, L, hx⟩ : ∃ x L, st.l = x :: L := by
      cases hL : st.l with
      | nil => rw [hL] at hk; simp at hk
      | cons x L => exact ⟨x, L, rfl⟩
    have hE2 : bytesR 1 st = ([x], ⟨L, st.e⟩) := by rw [hE, hx]; rfl
    rw [hE2] at HB ⊢
    clear hE hE2 h hk hx
    go_enter Tryz.func106, Tryz.ntmps106
    go_wp2_with (first
      | (go_at_call 150; refine (HB.out _ H.out).mono ?_; rintro e w2 ⟨v2, rfl, ⟨a2, cap2, rfl, -, -, hs2⟩, hr2, ht2⟩; obtain ⟨b2, o2, rfl, hcx⟩ : ∃ b o, a2 = some ⟨b, o, none⟩ ∧ w2.cell? ⟨b, o, none⟩ = some (.int .u8 x) := (by rcases hs2 with h0 | ⟨b, o, ha, hb, hne, hc⟩; (cases h0); exact ⟨b, o, ha, hc 0 Nat.one_pos⟩); have HR2 := Hid.mk' hr2; have HT2 := Hid.mk' ht2; clear hr2 ht2 hs2))
    go_ret
    exact ⟨rfl, HR2.out, HT2.out⟩

set_option maxRecDepth 100000 in set_option maxHeartbeats 1600000 in
theorem rint_any (g d : Nat) (st : RS) (w : World) (h : RD w g d st) :
    Calls Tryz.prog 213 #[.pointer (some ⟨g, 0, none⟩)] w (RPost g d w (.int .i64 (intR st).1) (intR st).2) := by
  have H := Hid.mk' h
  have HU := Hid.mk' (fun w h => ruint2_any g d st 18446744073709551615 w h (by omega))
  have hle := uintR_le (st := st) 18446744073709551615
  unfold intR
  simp only
  generalize uintR 18446744073709551615 st = U at *
  obtain ⟨n, st1⟩ := U
  simp only at *
  clear h
  go_enter Tryz.func213, Tryz.ntmps213
  go_wp2_with (go_at_call 60; refine (HU.out _ H.out).mono ?_; rintro e w1 ⟨rfl, hr, ht⟩; have HR := Hid.mk' hr; have HT := Hid.mk' ht; clear hr ht)
  go_ret
  exact ⟨ret_int (zag_bits hle), HR.out, HT.out⟩

set_option maxRecDepth 100000 in set_option maxHeartbeats 1600000 in
theorem rword2_any (g d : Nat) (st : RS) (w : World) (h : RD w g d st) :
    Calls Tryz.prog 212 #[.pointer (some ⟨g, 0, none⟩)] w (RPost g d w (.int .u64 (wordR st).1) (wordR st).2) := by
  have H := Hid.mk' h
  have HB := Hid.mk' (fun w h => rbytes_any g d st 8 w h (by omega))
  have hib : isB (bytesR 8 st).1 := by obtain ⟨_, _, _, hok, _⟩ := h; exact bytesR_isB hok 8
  have hl8 : (bytesR 8 st).1.length ≤ 8 := by unfold bytesR; split <;> simp <;> omega
  unfold wordR
  simp only
  generalize bytesR 8 st = U at *
  obtain ⟨L, st1⟩ := U
  simp only at *
  have HIB := Hid.mk' hib
  clear h hib
  go_enter Tryz.func212, Tryz.ntmps212
  go_wp2_with (go_at_call 150; refine (HB.out _ H.out).mono ?_; rintro e w2 ⟨v2, rfl, ⟨a2, cap2, rfl, -, -, hs2⟩, hr2, ht2⟩; have HCX : Hid (∀ k, k < L.length → ∃ b o, a2 = some ⟨b, o, none⟩ ∧ w2.cell? ⟨b, o + k, none⟩ = some (.int .u8 (L.getD k 0))) := Hid.mk' (fun k hk => by rcases hs2 with h0 | ⟨b, o, ha, hb, hne, hc⟩; (subst h0; cases hk); exact ⟨b, o, ha, hc k hk⟩); have HR2 := Hid.mk' hr2; have HT2 := Hid.mk' ht2; clear hr2 ht2 hs2)
  go_loop [3, 9] (fun v i => ∃ k : Nat, k ≤ L.length ∧ i = .int .i64 k ∧ v = .int .u64 (ofBytes (L.take k))) (fun _ i => L.length - (intOf i).toNat)
  case atStart => exact ⟨0, Nat.zero_le _, rfl, rfl⟩
  case round =>
    obtain ⟨k, hk, rfl, rfl⟩ := hrel
    by_cases hlt : k < L.length
    · obtain ⟨b, o, rfl, hx⟩ := HCX.out k hlt
      have hxr : 0 ≤ L.getD k 0 ∧ L.getD k 0 < 256 := HIB.out _ (by rw [List.getD_eq_getElem?_getD, List.getElem?_eq_getElem hlt]; exact List.getElem_mem hlt)
      have hT : L.take (k + 1) = L.take k ++ [L.getD k 0] := by
        rw [List.take_succ_eq_append_getElem hlt]; simp [List.getD, List.getElem?_eq_getElem hlt]
      have hlk : (L.take k).length = k := by simp; omega
      have hO := ofBytes_snoc (L.take k) (L.getD k 0)
      rw [← hT, hlk] at hO
      have hv := ofBytes_lt (L.take k) (HIB.out.take k)
      rw [hlk] at hv
      have hW := word_or (x := L.getD k 0) hv (by omega) hxr.1 hxr.2
      rw [← hO] at hW
      clear hT hlk hO hv
      generalize L.getD k 0 = x at *
      generalize ofBytes (L.take k) = v at *
      generalize hv2 : ofBytes (L.take (k + 1)) = v2 at *
      have HV2 := Hid.mk' hv2
      have HW := Hid.mk' hW
      clear hv2 hW
      obtain ⟨hx0, hx1⟩ := hxr
      go_wp2
      go_round
      case rel => exact ⟨k + 1, by omega, by go_num, by rw [HV2.out, ← HW.out]⟩
      case measure => simp [intOf]; omega
    · obtain rfl : k = L.length := by omega
      have HO : Hid (L.take L.length = L) := Hid.mk' (List.take_length)
      go_wp2
      go_ret
      exact ⟨ret_int (by first | rfl | rw [HO.out]), HR2.out, HT2.out⟩

end Go.Proofs.YtibgippchdmdlaaGreat

/-
The program's takeFloat and takeComplex.
-/
namespace Go.Proofs.YtibgippchdmdlaaGreat
open Go.RowKit

theorem wordR_lt {st : RS} (h : st.ok) : (wordR st).1 < 2 ^ 64 := ofBytes_lt64 (bytesR_isB h 8) (by unfold bytesR; split <;> simp <;> omega)
theorem floatR_lt {st : RS} (h : st.ok) (ver : Int) : (floatR ver st).1 < 2 ^ 64 := by
  unfold floatR; split
  · exact wordR_lt h
  · exact rev_lt

set_option maxRecDepth 100000 in set_option maxHeartbeats 1600000 in
theorem vtf_any (g d : Nat) (st : RS) (ver : Int) (w : World) (h : RD w g d st) :
    Calls Tryz.prog 214 #[.pointer (some ⟨g, 0, none⟩), .int .u8 ver] w (RPost g d w (.int .u64 (floatR ver st).1) (floatR ver st).2) := by
  have H := Hid.mk' h
  by_cases h1 : ver = 1
  · have HW := Hid.mk' (fun w h => rword2_any g d st w h)
    subst h1
    unfold floatR
    rw [if_pos rfl]
    clear h
    go_enter Tryz.func214, Tryz.ntmps214
    go_wp2_with (go_at_call 212; refine (HW.out _ H.out).mono ?_; rintro e w1 ⟨rfl, hr, ht⟩; have HR := Hid.mk' hr; have HT := Hid.mk' ht; clear hr ht)
    go_ret
    exact ⟨rfl, HR.out, HT.out⟩
  · have HU := Hid.mk' (fun w h => ruint2_any g d st 18446744073709551615 w h (by omega))
    have hle := uintR_le (st := st) 18446744073709551615
    unfold floatR
    rw [if_neg h1]
    simp only
    generalize uintR 18446744073709551615 st = U at *
    obtain ⟨n, st1⟩ := U
    simp only at *
    have HL : Hid (n < 2 ^ 64) := Hid.mk' (by omega)
    clear h
    go_enter Tryz.func214, Tryz.ntmps214
    go_wp2_with (first
      | (go_at_call 60; refine (HU.out _ H.out).mono ?_; rintro e w1 ⟨rfl, hr, ht⟩; have HR := Hid.mk' hr; have HT := Hid.mk' ht; clear hr ht)
      | (go_at_call 225; refine (rev_any n _ HL.out).mono ?_; rintro e w2 ⟨rfl, rfl⟩))
    go_ret
    exact ⟨rfl, HR.out, HT.out⟩

theorem floatR_ne {ver : Int} (h : ver ≠ 1) (st : RS) : floatR ver st = floatR 2 st := by unfold floatR; rw [if_neg h, if_neg (by decide)]
theorem Tch.trans' {g : Nat} {a b c : World} (h : Tch g a b) (k : Below a.heap.size b c) : Tch g a c :=
  ⟨k.os.trans h.os, k.tape.trans h.tape, k.output.trans h.output, Nat.le_trans h.size k.size, fun i hi hg => (k.block i hi).trans (h.block i hi hg)⟩
theorem Tch.setNew {g h : Nat} {w w' : World} (ht : Tch g w w') (hh : w.heap.size ≤ h) (i : Nat) (v : Value) : Tch g w (w'.setCell ⟨h, i, none⟩ v) :=
  ht.trans' ⟨rfl, rfl, rfl, by simp [World.setCell], fun k hk => Below.heap_setCell _ _ _ _ (by simp; omega)⟩
theorem and1_u8 (m : Int) (h0 : 0 ≤ m) (h1 : m < 256) : bits BinOp.and IntKind.u8 m 1 = m % 2 := by
  have h : ∀ r : Nat, r < 256 → bits BinOp.and IntKind.u8 (r : Int) 1 = (r : Int) % 2 := by decide +kernel
  have := h m.toNat (by omega)
  rw [show ((m.toNat : Nat) : Int) = m by omega] at this
  exact this

def CxRel (g d h : Nat) (m : Int) (st : RS) (w : World) (i : Value) (wx : World) : Prop :=
  (i = .int .i64 0 ∧ Blk wx h #[.int .u64 0, .int .u64 0] 317 ∧ RD wx g d st ∧ Tch g w wx) ∨
  (i = .int .i64 1 ∧ Blk wx h #[.int .u64 (partR (decide (m % 2 = 1)) st).1, .int .u64 0] 317 ∧ RD wx g d (partR (decide (m % 2 = 1)) st).2 ∧ Tch g w wx) ∨
  (i = .int .i64 2 ∧ Blk wx h #[.int .u64 (partR (decide (m % 2 = 1)) st).1, .int .u64 (partR (decide (m / 2 % 2 = 1)) (partR (decide (m % 2 = 1)) st).2).1] 317 ∧ RD wx g d (partR (decide (m / 2 % 2 = 1)) (partR (decide (m % 2 = 1)) st).2).2 ∧ Tch g w wx)

set_option maxRecDepth 100000 in set_option maxHeartbeats 1600000 in
theorem vtc_any (g d : Nat) (st : RS) (ver : Int) (w : World) (h : RD w g d st) :
    Calls Tryz.prog 215 #[.pointer (some ⟨g, 0, none⟩), .int .u8 ver] w (RPost g d w (.complex .f64 (complexR ver st).1.1 (complexR ver st).1.2) (complexR ver st).2) := by
  have H := Hid.mk' h
  have hok : st.ok := by obtain ⟨_, _, _, hok, _⟩ := h; exact hok
  clear h
  by_cases h1 : ver = 1
  · subst h1
    have HW := Hid.mk' (fun w h => rword2_any g d st w h)
    unfold complexR
    rw [if_pos rfl]
    simp only
    generalize wordR st = U at *
    obtain ⟨x, st1⟩ := U
    simp only at *
    have HW2 := Hid.mk' (fun w h => rword2_any g d st1 w h)
    generalize wordR st1 = U at *
    obtain ⟨y, st2⟩ := U
    simp only at *
    go_enter Tryz.func215, Tryz.ntmps215
    go_upto_region 3 with (go_at_call 212; refine (HW.out _ H.out).mono ?_; rintro e w1 ⟨rfl, hr, ht⟩; have HR := Hid.mk' hr; have HT := Hid.mk' ht; clear hr ht)
    go_wp2_with (first
      | (go_at_call 212; refine (HW2.out _ HR.out).mono ?_; rintro e w2 ⟨rfl, hr, ht⟩; have HR2 := Hid.mk' hr; have HT2 := Hid.mk' ht; clear hr ht)
      | (go_at_call 176; refine (vof_any x y _).mono ?_; rintro e w3 ⟨rfl, rfl⟩))
    go_ret
    exact ⟨by first | rfl | simp, HR2.out, HT.out.trans HT2.out⟩
  · have HBy := Hid.mk' (fun w h => rbyte_any g d st w h)
    unfold complexR
    rw [if_neg h1]
    simp only
    have hm : 0 ≤ (byteR st).1 ∧ (byteR st).1 < 256 := by
      have := bytesR_isB hok 1
      unfold byteR
      simp only
      cases hL : (bytesR 1 st).1 with
      | nil => simp
      | cons x L => rw [hL] at this; exact this.head
    generalize byteR st = U at *
    obtain ⟨m, st1⟩ := U
    simp only at *
    obtain ⟨hm0, hm1⟩ := hm
    generalize hST : (if 3 < m then giveS st1 4 else st1) = st2
    have HST := Hid.mk' hST
    clear hST
    have hand := and1_u8
    go_enter Tryz.func215, Tryz.ntmps215
    go_upto_if 20 with (first
      | (go_at_call 106; refine (HBy.out _ H.out).mono ?_; rintro e w1 ⟨rfl, hr, ht⟩; have HR := Hid.mk' hr; have HT := Hid.mk' ht; clear hr ht))
    go_cut [] (fun wx => Hid (RD wx g d st2) ∧ Hid (Tch g w wx))
    case first =>
      by_cases h3 : 3 < m
      · go_wp2_with (go_at_call 108; refine (fail_any g d st1 4 _ HR.out).mono ?_; rintro e w2 ⟨rfl, hr, ht⟩; have HR2 := Hid.mk' hr; have HT2 := Hid.mk' ht; clear hr ht)
        go_meet
        case rel => exact ⟨by rw [← HST.out, if_pos h3]; exact HR2.out, HT.out.trans HT2.out⟩
      · go_wp2
        go_meet
        case rel => exact ⟨by rw [← HST.out, if_neg (by omega)]; exact HR.out, HT.out⟩
    case rest =>
      obtain ⟨HR2, HT2⟩ := hcut
      clear HR HT HST HBy H
      go_wp2
      go_loopw [23] (fun i wx => CxRel g d wc.heap.size m st2 w i wx) (fun i _ => 2 - (intOf i).toNat)
      case atStart =>
        have hgh := HR2.out.lt
        exact .inl ⟨rfl, Blk.new _ _ _, HR2.out.ext ((Ext.refl wc).alloc _), HT2.out.alloc _⟩
      case round =>
        have hgh : g < wc.heap.size := HR2.out.lt
        have hne : g ≠ wc.heap.size := by omega
        have hwh : w.heap.size ≤ wc.heap.size := HT2.out.size
        have hA0 := and1_u8 m hm0 hm1
        have hA1 := and1_u8 (m / 2) (by omega) (by omega)
        clear hand
        rcases hrel with ⟨rfl, hb, hr, ht⟩ | ⟨rfl, hb, hr, ht⟩ | ⟨rfl, hb, hr, ht⟩
        · have HBr := Hid.mk' hb
          have HRr := Hid.mk' hr
          have HTr := Hid.mk' ht
          clear hb hr ht
          by_cases b0 : m % 2 = 1
          · obtain ⟨x, S', hF⟩ : ∃ x S', floatR ver st2 = (x, S') := ⟨_, _, rfl⟩
            have HTF := Hid.mk' (fun w h => vtf_any g d st2 ver w h)
            rw [hF] at HTF
            simp only at HTF
            have HP : Hid (partR (decide (m % 2 = 1)) st2 = (x, if x = 0 then giveS S' 3 else S')) := Hid.mk' (by unfold partR; rw [decide_eq_true b0, if_pos rfl, ← floatR_ne h1, hF])
            have HF3 := Hid.mk' (fun w h => fail_any g d S' 3 w h)
            clear hF
            by_cases x0 : x = 0
            · have hx : (x : Int) = 0 := by omega
              rw [hx] at HTF
              have HX := Hid.mk' hx
              have HX0 := Hid.mk' x0
              clear hx x0
              go_wp2_with (first
                | (go_at_call 214; refine (HTF.out _ HRr.out).mono ?_; rintro e w1 ⟨rfl, hr1, ht1⟩; have HB1 := Hid.mk' (HBr.out.tch ht1 hne.symm); have k1 := HB1.out.cell; have f1 := HB1.out.frozen; have z1 := HB1.out.lt; have HR1 := Hid.mk' (hr1.tch ((Tch.refl wc.heap.size w1).set 0 (.int .u64 0)) hne.symm (.inr (Nat.le_of_lt hgh))); have HT1 := Hid.mk' ht1; clear hr1 ht1)
                | (go_at_call 108; refine (HF3.out _ HR1.out).mono ?_; rintro e w3 ⟨rfl, hr3, ht3⟩; have HR3 := Hid.mk' hr3; have HT3 := Hid.mk' ht3; clear hr3 ht3))
              go_roundw
              case rel =>
                refine .inr (.inl ⟨rfl, ?_, ?_, ?_⟩)
                · rw [HP.out, HX.out]; exact (HB1.out.set 0 _).tch HT3.out hne.symm
                · rw [HP.out, if_pos HX0.out]; exact HR3.out
                · exact ((HTr.out.trans HT1.out).setNew hwh _ _).trans HT3.out
              case measure => simp [intOf]
            · have x1 : ((x : Int) == 0) = false := by simpa using x0
              go_wp2_with (first
                | (go_at_call 214; refine (HTF.out _ HRr.out).mono ?_; rintro e w1 ⟨rfl, hr1, ht1⟩; have HB1 := Hid.mk' (HBr.out.tch ht1 hne.symm); have k1 := HB1.out.cell; have f1 := HB1.out.frozen; have z1 := HB1.out.lt; have HR1 := Hid.mk' (hr1.tch ((Tch.refl wc.heap.size w1).set 0 (.int .u64 x)) hne.symm (.inr (Nat.le_of_lt hgh))); have HT1 := Hid.mk' ht1; clear hr1 ht1))
              go_roundw
              case rel =>
                refine .inr (.inl ⟨rfl, ?_, ?_, ?_⟩)
                · rw [HP.out]; exact HB1.out.set 0 _
                · rw [HP.out, if_neg x0]; exact HR1.out
                · exact (HTr.out.trans HT1.out).setNew hwh _ _
              case measure => simp [intOf]
          · have HP : Hid (partR (decide (m % 2 = 1)) st2 = (0, st2)) := Hid.mk' (by unfold partR; rw [decide_eq_false b0]; rfl)
            have b1 : m % 2 = 0 := by omega
            clear b0
            go_wp2
            go_roundw
            case rel =>
              refine .inr (.inl ⟨rfl, ?_, ?_, ?_⟩)
              · rw [HP.out]; exact HBr.out
              · rw [HP.out]; exact HRr.out
              · exact HTr.out
            case measure => simp [intOf]
        · obtain ⟨P0, hP0⟩ : ∃ P0, P0 = partR (decide (m % 2 = 1)) st2 := ⟨_, rfl⟩
          have HPP := Hid.mk' hP0
          rw [← hP0] at hb hr
          clear hP0
          obtain ⟨p0, S0⟩ := P0
          simp only at hb hr
          have HBr := Hid.mk' hb
          have HRr := Hid.mk' hr
          have HTr := Hid.mk' ht
          clear hb hr ht
          by_cases b0 : m / 2 % 2 = 1
          · obtain ⟨x, S', hF⟩ : ∃ x S', floatR ver S0 = (x, S') := ⟨_, _, rfl⟩
            have HTF := Hid.mk' (fun w h => vtf_any g d S0 ver w h)
            rw [hF] at HTF
            simp only at HTF
            have HP : Hid (partR (decide (m / 2 % 2 = 1)) S0 = (x, if x = 0 then giveS S' 3 else S')) := Hid.mk' (by unfold partR; rw [decide_eq_true b0, if_pos rfl, ← floatR_ne h1, hF])
            have HF3 := Hid.mk' (fun w h => fail_any g d S' 3 w h)
            clear hF
            by_cases x0 : x = 0
            · have hx : (x : Int) = 0 := by omega
              rw [hx] at HTF
              have HX := Hid.mk' hx
              have HX0 := Hid.mk' x0
              clear hx x0
              go_wp2_with (first
                | (go_at_call 214; refine (HTF.out _ HRr.out).mono ?_; rintro e w1 ⟨rfl, hr1, ht1⟩; have HB1 := Hid.mk' (HBr.out.tch ht1 hne.symm); have k1 := HB1.out.cell; have f1 := HB1.out.frozen; have z1 := HB1.out.lt; have HR1 := Hid.mk' (hr1.tch ((Tch.refl wc.heap.size w1).set 1 (.int .u64 0)) hne.symm (.inr (Nat.le_of_lt hgh))); have HT1 := Hid.mk' ht1; clear hr1 ht1)
                | (go_at_call 108; refine (HF3.out _ HR1.out).mono ?_; rintro e w3 ⟨rfl, hr3, ht3⟩; have HR3 := Hid.mk' hr3; have HT3 := Hid.mk' ht3; clear hr3 ht3))
              go_roundw
              case rel =>
                refine .inr (.inr ⟨rfl, ?_, ?_, ?_⟩)
                · rw [← HPP.out, HP.out, HX.out]; exact (HB1.out.set 1 _).tch HT3.out hne.symm
                · rw [← HPP.out, HP.out, if_pos HX0.out]; exact HR3.out
                · exact ((HTr.out.trans HT1.out).setNew hwh _ _).trans HT3.out
              case measure => simp [intOf]
            · have x1 : ((x : Int) == 0) = false := by simpa using x0
              go_wp2_with (first
                | (go_at_call 214; refine (HTF.out _ HRr.out).mono ?_; rintro e w1 ⟨rfl, hr1, ht1⟩; have HB1 := Hid.mk' (HBr.out.tch ht1 hne.symm); have k1 := HB1.out.cell; have f1 := HB1.out.frozen; have z1 := HB1.out.lt; have HR1 := Hid.mk' (hr1.tch ((Tch.refl wc.heap.size w1).set 1 (.int .u64 x)) hne.symm (.inr (Nat.le_of_lt hgh))); have HT1 := Hid.mk' ht1; clear hr1 ht1))
              go_roundw
              case rel =>
                refine .inr (.inr ⟨rfl, ?_, ?_, ?_⟩)
                · rw [← HPP.out, HP.out]; exact HB1.out.set 1 _
                · rw [← HPP.out, HP.out, if_neg x0]; exact HR1.out
                · exact (HTr.out.trans HT1.out).setNew hwh _ _
              case measure => simp [intOf]
          · have HP : Hid (partR (decide (m / 2 % 2 = 1)) S0 = (0, S0)) := Hid.mk' (by unfold partR; rw [decide_eq_false b0]; rfl)
            have b1 : m / 2 % 2 = 0 := by omega
            clear b0
            go_wp2
            go_roundw
            case rel =>
              refine .inr (.inr ⟨rfl, ?_, ?_, ?_⟩)
              · rw [← HPP.out, HP.out]; exact HBr.out
              · rw [← HPP.out, HP.out]; exact HRr.out
              · exact HTr.out
            case measure => simp [intOf]
        · have HRr := Hid.mk' hr
          have HTr := Hid.mk' ht
          generalize partR (decide (m % 2 = 1)) st2 = P0 at *
          obtain ⟨p0, S0⟩ := P0
          simp only at *
          generalize partR (decide (m / 2 % 2 = 1)) S0 = P1 at *
          obtain ⟨p1, S1⟩ := P1
          simp only at *
          have k1 := hb.cell
          clear hr ht hb
          go_wp2_with (go_at_call 176; refine (vof_any p0 p1 _).mono ?_; rintro e w3 ⟨rfl, rfl⟩)
          go_ret
          exact ⟨by first | rfl | simp, HRr.out, HTr.out⟩

end Go.Proofs.YtibgippchdmdlaaGreat

/-
The reference's reader: what it tells; giving up; bytes.
-/
namespace Go.Proofs.YtibgippchdmdlaaGreat
open Go.RowKit

/-- The reference's reader in block g, its bytes in a block from d on, below g. -/
def RF (w : World) (g d : Nat) (st : RS) : Prop := ∃ v L at', Blk w g #[v, .int .i64 (at' : Nat), .int .i64 st.e] 139 ∧ SB w g d v L ∧ at' ≤ L.length ∧ st.l = (if st.e = 0 then L.drop at' else []) ∧ isB L ∧ L.length ≤ 1000000
theorem RF.ext {w w1 : World} {g d : Nat} {st : RS} (hr : RF w g d st) (he : Ext w w1) : RF w1 g d st := by
  obtain ⟨v, L, a, h1, h2, h3⟩ := hr
  exact ⟨v, L, a, h1.ext he, h2.ext he, h3⟩
theorem RF.drewN {w : World} {g d : Nat} {st : RS} (hr : RF w g d st) (n : Nat) : RF (w.drewN n) g d st := hr.ext ((Ext.refl w).drewN n)
theorem RF.tch {w w1 : World} {g d h : Nat} {st : RS} (hr : RF w g d st) (he : Tch h w w1) (hg : h ≠ g) (hd : h < d ∨ g ≤ h) : RF w1 g d st := by
  obtain ⟨v, L, a, h1, h2, h3⟩ := hr
  exact ⟨v, L, a, h1.tch he hg.symm, h2.tch he hd, h3⟩
theorem RF.lt {w : World} {g d : Nat} {st : RS} (hr : RF w g d st) : g < w.heap.size := by obtain ⟨v, L, a, h1, _⟩ := hr; exact h1.lt
theorem RF.ok {w : World} {g d : Nat} {st : RS} (hr : RF w g d st) : st.ok := by
  obtain ⟨v, L, a, _, _, _, hl, hb, _⟩ := hr
  refine ⟨fun h => by rw [hl, if_neg h], ?_⟩
  rw [hl]; split; exact hb.drop _; exact isB.nil
def FPost (g d : Nat) (w : World) (r : Value) (st : RS) (e : Ending) (w' : World) : Prop := e = .returned r ∧ RF w' g d st ∧ Tch g w w'

set_option maxRecDepth 100000 in set_option maxHeartbeats 1600000 in
theorem fgive_any (g d : Nat) (st : RS) (x : Int) (w : World) (h : RF w g d st) (hx : x ≠ 0) :
    Calls Tryz.prog 75 #[.pointer (some ⟨g, 0, none⟩), .int .i64 x] w (FPost g d w (.tuple #[]) (giveS st x)) := by
  obtain ⟨v, L, a, hb, hsb, hat, hl, hB, hlen⟩ := h
  have hc := hb.cell
  have hf := hb.frozen
  have hlt := hb.lt
  have HB := Hid.mk' hb
  have HS := Hid.mk' hsb
  have HL := Hid.mk' hl
  clear hb hsb hl
  by_cases he : st.e = 0
  · rw [he] at hc HB
    have HE := Hid.mk' he
    clear he
    go_enter Tryz.func75, Tryz.ntmps75
    go_wp2
    go_end0
    refine ⟨rfl, ?_, (Tch.refl g w).set 2 _⟩
    unfold giveS; rw [if_pos HE.out]
    exact ⟨_, L, a, HB.out.set 2 _, HS.out.tch ((Tch.refl g w).set 2 _) (.inr (Nat.le_refl _)), hat, by simp [hx], hB, hlen⟩
  · have he2 : (st.e == 0) = false := by simpa using he
    have HE := Hid.mk' he
    clear he
    go_enter Tryz.func75, Tryz.ntmps75
    go_wp2
    go_end0
    exact ⟨rfl, by unfold giveS; rw [if_neg HE.out]; exact ⟨_, L, a, HB.out, HS.out, hat, HL.out, hB, hlen⟩, Tch.refl g w⟩

set_option maxRecDepth 100000 in set_option maxHeartbeats 1600000 in
theorem fleft_any (g d : Nat) (st : RS) (w : World) (h : RF w g d st) :
    Calls Tryz.prog 105 #[.pointer (some ⟨g, 0, none⟩)] w fun e w' => e = .returned (.int .i64 st.l.length) ∧ ∃ m, w' = w.drewN m := by
  obtain ⟨v, L, a, hb, ⟨ad, cap, rfl, -, -, -⟩, hat, hl, hB, hlen⟩ := h
  have hc := hb.cell
  clear hb
  by_cases he : st.e = 0
  · rw [he] at hc
    have hll : st.l.length = L.length - a := by rw [hl, if_pos he, List.length_drop]
    have HLL : Hid ((st.l.length : Int) = (L.length : Int) - (a : Int)) := Hid.mk' (by rw [hll]; omega)
    clear he hl hll
    go_enter Tryz.func105, Tryz.ntmps105
    go_wp2
    go_quiet (fail)
    go_wp2
    go_ret
    exact ⟨ret_int (by rw [HLL.out]), nq, rfl⟩
  · have he2 : (st.e != 0) = true := by simpa using he
    have HL : Hid (st.l.length = 0) := Hid.mk' (by rw [hl, if_neg he]; rfl)
    clear he hl
    go_enter Tryz.func105, Tryz.ntmps105
    go_wp2
    go_ret
    exact ⟨ret_int (by rw [HL.out]; rfl), 0, rfl⟩

end Go.Proofs.YtibgippchdmdlaaGreat

/-
The reference's Word, Uint, Zig, Text, turned, float.
-/
namespace Go.Proofs.YtibgippchdmdlaaGreat
open Go.RowKit

theorem byte_step (x : Int) (k : Nat) : x / 2 ^ (8 * k) / 256 = x / 2 ^ (8 * (k + 1)) := by
  rw [Nat.mul_succ, Int.pow_add, Int.ediv_ediv_of_nonneg (Int.pow_nonneg (by decide))]; rfl

set_option maxRecDepth 100000 in set_option maxHeartbeats 1600000 in
theorem rword_any (x : Int) (w : World) (h0 : 0 ≤ x) (h1 : x < 18446744073709551616) :
    Calls Tryz.prog 178 #[.int .u64 x] w fun e w' => ∃ v', e = .returned v' ∧ OB w' w.heap.size v' (wordL x) ∧ Ext w w' := by
  obtain ⟨i0, hi, hz0, hz1, hz2⟩ := info_parts Tryz.infoU8
  go_enter Tryz.func178, Tryz.ntmps178
  go_wp2
  go_loopw [0, 3, 4] (fun t v i wr => ∃ (k : Nat) (m : Int), k ≤ 8 ∧ t = .int .u64 m ∧ 0 ≤ m ∧ m < 18446744073709551616 ∧ i = .int .i64 k ∧ Hid (m = x / 2 ^ (8 * k)) ∧ Hid (OB wr w.heap.size v ((List.range k).map (byteAt x))) ∧ Hid (Ext w wr)) (fun _ _ i _ => 8 - (intOf i).toNat)
  case atStart => exact ⟨0, x, by omega, rfl, h0, h1, rfl, Hid.mk' (by simp), Hid.mk' (OB.nil _ _), Hid.mk' (Ext.refl _)⟩
  case round =>
    obtain ⟨k, m, hk, rfl, hm0, hm1, rfl, hm, hown, hE⟩ := hrel
    by_cases hlt : k < 8
    · go_wp2_with (at_builtin; refine wpList_append_own _ rfl _ _ 40 rfl w.heap.size 5 i0 _ 1 1 Tryz.underlying40 hi hz0 hz1 hz2 rfl (by decide) _ _ _ rfl (hown.out.alloc _) ⟨_, 0, none⟩ 1 1 (bs [m % 256]) rfl rfl ?c1 ?c2 ?c3 ?c4 ?c5 ?_)
      case c1 => exact cells_one _ _
      case c2 => exact bs_one _
      case c3 => unfold maxLen; simp; omega
      case c4 => simp; omega
      case c5 => have := hE.out.size; simp; omega
      intro v' w2 hown' hgrow _
      have hE2 := OB.grown (hE.out.alloc _) (hown.out.alloc _) hgrow
      have HO := Hid.mk' (OB.push hown' (by simp))
      have HE2 := Hid.mk' hE2
      clear hown' hgrow hE2
      go_wp2
      go_roundw
      case rel => exact ⟨k + 1, m / 256, by omega, rfl, by omega, by omega, by go_num, Hid.mk' (by rw [hm.out]; exact byte_step x k), Hid.mk' (by rw [List.range_succ, List.map_append]; have h := HO.out; rw [hm.out] at h; exact h), HE2⟩
      case measure => simp [intOf]; omega
    · have hkk : k = 8 := by omega
      subst hkk
      go_wp2
      go_ret
      exact ⟨_, rfl, hown.out, hE.out⟩

set_option maxRecDepth 100000 in set_option maxHeartbeats 1600000 in
theorem ruint_any (x : Nat) (w : World) (hx : x < 2 ^ 64) :
    Calls Tryz.prog 64 #[.int .u64 x] w fun e w' => ∃ v', e = .returned v' ∧ OB w' w.heap.size v' (sevens x) ∧ Ext w w' := by
  obtain ⟨i0, hi, hz0, hz1, hz2⟩ := info_parts Tryz.infoU8
  have HX := Hid.mk' (sevens_len10 hx)
  go_enter Tryz.func64, Tryz.ntmps64
  go_wp2
  go_loopw [0, 3] (fun t v wr => ∃ (m : Nat) (l : List Int), t = .int .u64 m ∧ m < 2 ^ 64 ∧ Hid (l ++ sevens m = sevens x) ∧ Hid (OB wr w.heap.size v l) ∧ Hid (Ext w wr)) (fun t _ _ => (intOf t).toNat)
  case atStart => exact ⟨x, [], rfl, hx, Hid.mk' rfl, Hid.mk' (OB.nil _ _), Hid.mk' (Ext.refl _)⟩
  case round =>
    obtain ⟨m, l, rfl, hm, hs, ho, hE⟩ := hrel
    have hll : l.length ≤ 10 := by
      have := congrArg List.length hs.out
      have := HX.out
      simp only [List.length_append] at *
      omega
    by_cases hlt : m < 128
    · go_wp2_with (at_builtin; refine wpList_append_own _ rfl _ _ 40 rfl w.heap.size 5 i0 _ 1 1 Tryz.underlying40 hi hz0 hz1 hz2 rfl (by decide) _ _ _ rfl (ho.out.alloc _) ⟨_, 0, none⟩ 1 1 (bs [(m : Int)]) rfl rfl ?d1 ?d2 ?d3 ?d4 ?d5 ?_)
      case d1 => exact cells_one _ _
      case d2 => exact bs_one _
      case d3 => unfold maxLen; omega
      case d4 => omega
      case d5 => have := hE.out.size; simp; omega
      intro v' w2 hown' hgrow _
      have hE2 := OB.grown (hE.out.alloc _) (ho.out.alloc _) hgrow
      have HO := Hid.mk' (OB.push hown' (by simp))
      have HE2 := Hid.mk' hE2
      clear hown' hgrow hE2
      go_wp2
      go_ret
      exact ⟨_, rfl, by rw [← hs.out, sevens_lt hlt]; exact HO.out, HE2.out⟩
    · go_wp2_with (at_builtin; refine wpList_append_own _ rfl _ _ 40 rfl w.heap.size 5 i0 _ 1 1 Tryz.underlying40 hi hz0 hz1 hz2 rfl (by decide) _ _ _ rfl (ho.out.alloc _) ⟨_, 0, none⟩ 1 1 (bs [(m : Int) % 128 + 128]) rfl rfl ?c1 ?c2 ?c3 ?c4 ?c5 ?_)
      case c1 => exact cells_one _ _
      case c2 => exact bs_one _
      case c3 => unfold maxLen; omega
      case c4 => omega
      case c5 => have := hE.out.size; simp; omega
      intro v' w2 hown' hgrow _
      have hE2 := OB.grown (hE.out.alloc _) (ho.out.alloc _) hgrow
      have HO := Hid.mk' (OB.push hown' (by simp))
      have HE2 := Hid.mk' hE2
      clear hown' hgrow hE2
      have E3 : Hid (((m : Int) % 128 + 128) = ((m % 128 + 128 : Nat) : Int)) := Hid.mk' (by omega)
      go_wp2
      go_roundw
      case rel => exact ⟨m / 128, l ++ [((m % 128 + 128 : Nat) : Int)], by go_num, by omega, Hid.mk' (by rw [← hs.out, sevens_ge hlt, List.append_assoc, List.singleton_append]), Hid.mk' (by rw [← E3.out]; exact HO.out), HE2⟩
      case measure => simp [intOf]; omega

set_option maxRecDepth 100000 in set_option maxHeartbeats 1600000 in
theorem rzig_any (n : Int) (w : World) (hn : -9223372036854775808 ≤ n ∧ n < 9223372036854775808) :
    Calls Tryz.prog 179 #[.int .i64 n] w fun e w' => e = .returned (.int .u64 (zig n)) ∧ w = w' := by
  obtain ⟨hn1, hn2⟩ := hn
  by_cases h : n < 0
  · have HZ : Hid ((zig n : Int) = 2 * (-(n + 1)) + 1) := Hid.mk' (by unfold zig; rw [if_pos h]; omega)
    have hp : 0 ≤ -(n + 1) := by omega
    go_enter Tryz.func179, Tryz.ntmps179
    go_wp2
    go_ret
    exact ⟨ret_int (by rw [HZ.out]), rfl⟩
  · have HZ : Hid ((zig n : Int) = 2 * n) := Hid.mk' (by unfold zig; rw [if_neg h]; omega)
    have hp : 0 ≤ n := by omega
    go_enter Tryz.func179, Tryz.ntmps179
    go_wp2
    go_ret
    exact ⟨ret_int (by rw [HZ.out]), rfl⟩

end Go.Proofs.YtibgippchdmdlaaGreat

/-
The reference's turned, float, Text, Put.
-/
namespace Go.Proofs.YtibgippchdmdlaaGreat
open Go.RowKit

def rv (x : Nat) : Nat → Nat
  | 0 => 0
  | k + 1 => 256 * rv x k + x / 256 ^ k % 256
theorem rv_8 (x : Nat) : rv x 8 = rev x := by simp [rv, rev]
theorem rv_lt (x : Nat) : ∀ k, k < 8 → rv x k < 72057594037927936 := by
  intro k hk
  have h : k = 0 ∨ k = 1 ∨ k = 2 ∨ k = 3 ∨ k = 4 ∨ k = 5 ∨ k = 6 ∨ k = 7 := by omega
  rcases h with rfl | rfl | rfl | rfl | rfl | rfl | rfl | rfl <;> simp [rv] <;> omega
theorem word_get (x : Nat) {k : Nat} (hk : k < 8) : (wordL (x : Int)).getD k 0 = ((x / 256 ^ k % 256 : Nat) : Int) := by
  have h : ((2 : Int) ^ (8 * k)) = ((256 ^ k : Nat) : Int) := by rw [show (256 : Nat) = 2 ^ 8 from rfl, ← Nat.pow_mul, Int.natCast_pow]; rfl
  simp only [wordL, byteAt, List.getD, List.getElem?_map, List.getElem?_range hk, Option.map_some, Option.getD_some, h, Int.natCast_emod, Int.natCast_ediv]
  rfl

set_option maxRecDepth 100000 in set_option maxHeartbeats 1600000 in
theorem rturned_any (x : Nat) (w : World) (hx : x < 2 ^ 64) :
    Calls Tryz.prog 209 #[.int .u64 x] w fun e w' => e = .returned (.int .u64 (rev x)) ∧ Ext w w' := by
  go_enter Tryz.func209, Tryz.ntmps209
  go_wp2_with (go_at_call 178; refine (rword_any x _ (by omega) (by omega)).mono ?_; rintro e w1 ⟨v1, rfl, ho1, hb1⟩; have HO1 := Hid.mk' ho1; have HE1 := Hid.mk' hb1; clear ho1 hb1)
  obtain ⟨a, cap, hv, hs⟩ := HO1.out.sl
  subst hv
  have hn : ((wordL (x : Int)).map bcell).length = 8 := by rw [List.length_map, wordL_len]
  rw [hn]
  rcases hs with h0 | ⟨b, o, rfl, hb, hc⟩
  · rw [h0] at hn; cases hn
  have HC : Hid (∀ k, k < 8 → w1.cell? ⟨b, o + k, none⟩ = some (.int .u8 ((x / 256 ^ k % 256 : Nat) : Int))) := Hid.mk' (fun k hk => by
    have := hc k (by rw [hn]; exact hk) 0 (by omega)
    rw [Nat.mul_one, Nat.add_zero] at this
    rw [this, ← word_get x hk]
    simp [bcell, List.getD, List.getElem?_map, List.getElem?_eq_getElem (show k < (wordL (x : Int)).length by rw [wordL_len]; exact hk)])
  clear hc hn HO1
  go_wp2
  go_loop [4, 5] (fun t i => ∃ k : Nat, k ≤ 8 ∧ i = .int .i64 k ∧ t = .int .u64 (rv x k)) (fun _ i => 8 - (intOf i).toNat)
  case atStart => exact ⟨0, by omega, rfl, rfl⟩
  case round =>
    obtain ⟨k, hk, rfl, rfl⟩ := hrel
    by_cases hlt : k < 8
    · have h1 := rv_lt x k hlt
      have h2 := HC.out k hlt
      obtain ⟨q, hq⟩ : ∃ q : Nat, q = x / 256 ^ k % 256 := ⟨_, rfl⟩
      rw [← hq] at h2
      have h3 : q < 256 := by omega
      have HN : Hid (((rv x (k + 1) : Nat) : Int) = 256 * (rv x k : Int) + (q : Int)) := Hid.mk' (by rw [rv, ← hq]; push_cast; rfl)
      clear hq
      go_wp2
      go_round
      case rel => exact ⟨k + 1, by omega, by go_num, by rw [HN.out]⟩
      case measure => simp [intOf]; omega
    · have hkk : k = 8 := by omega
      subst hkk
      have HN : Hid (((rv x 8 : Nat) : Int) = rev x) := Hid.mk' (by rw [rv_8])
      go_wp2
      go_ret
      exact ⟨ret_int HN.out, HE1.out⟩

set_option maxRecDepth 100000 in set_option maxHeartbeats 1600000 in
theorem rfloat_any (x : Nat) (ver : Int) (w : World) (hx : x < 2 ^ 64) :
    Calls Tryz.prog 180 #[.int .u64 x, .int .u8 ver] w fun e w' => ∃ v', e = .returned v' ∧ OB w' w.heap.size v' (floatL x ver) ∧ Ext w w' := by
  have HX := Hid.mk' hx
  clear hx
  by_cases h1 : ver = 1
  · subst h1
    go_enter Tryz.func180, Tryz.ntmps180
    go_wp2_with (go_at_call 178; refine (rword_any x _ (by omega) (by have := HX.out; omega)).mono ?_; rintro e w1 ⟨v1, rfl, ho1, hb1⟩; have HO1 := Hid.mk' ho1; have HE1 := Hid.mk' hb1; clear ho1 hb1)
    go_ret
    exact ⟨_, rfl, by unfold floatL; rw [if_pos rfl]; exact HO1.out, HE1.out⟩
  · go_enter Tryz.func180, Tryz.ntmps180
    go_wp2_with (first
      | (go_at_call 209; refine (rturned_any x _ HX.out).mono ?_; rintro e w0 ⟨rfl, hb0⟩; have HE0 := Hid.mk' hb0; clear hb0)
      | (go_at_call 64; refine (ruint_any (rev x) _ rev_lt).mono ?_; rintro e w1 ⟨v1, rfl, ho1, hb1⟩; have HO1 := Hid.mk' ho1; have HE1 := Hid.mk' hb1; clear ho1 hb1))
    go_ret
    exact ⟨_, rfl, by unfold floatL; rw [if_neg h1]; exact HO1.out.base HE0.out.size, HE0.out.trans HE1.out⟩

theorem ext_bytesWorld (w : World) (e : TypeId) (s : ByteArray) : Ext w (Go.Lib.bytesWorld w e s) :=
  ⟨rfl, rfl, rfl, by rw [Go.Lib.bytesWorld_size]; omega, fun k hk => Go.Lib.bytesWorld_at_old w e s k hk⟩
theorem news_bytesWorld (w : World) (e : TypeId) (s : ByteArray) : ∀ j u, (bs (strL s))[j]? = some u → (Go.Lib.bytesWorld w e s).cell? ((⟨w.heap.size, 0, none⟩ : Addr).add j) = some u := by
  refine bytes_news fun i hi => ?_
  rw [strL_len] at hi
  rw [Nat.zero_add, Go.Lib.bytesWorld_cell w e s i hi]
  have h : i < s.data.toList.length := by simpa using hi
  simp [strL, List.getD, List.getElem?_map, List.getElem?_eq_getElem h]
theorem conv_str (w : World) (s : ByteArray) : (convert 9 40 (.string s)).run Tryz.prog w = .ok (.slice (some ⟨w.heap.size, 0, none⟩) s.size (grownCap w s.size 0 5)) (Go.Lib.bytesWorld w 5 s) :=
  Go.Lib.run_convert_string_bytes w _ _ _ s Tryz.underlying9 Tryz.underlying40 Tryz.underlying5

set_option maxRecDepth 100000 in set_option maxHeartbeats 1600000 in
theorem rtext_any (s : ByteArray) (w : World) (hs : s.size ≤ 1000000) :
    Calls Tryz.prog 181 #[.string s] w fun e w' => ∃ v', e = .returned v' ∧ OB w' w.heap.size v' (sevens s.size ++ strL s) ∧ Ext w w' := by
  obtain ⟨i0, hi, hz0, hz1, hz2⟩ := info_parts Tryz.infoU8
  have HX := Hid.mk' (sevens_len10 (x := s.size) (by omega))
  have hcv := fun w => conv_str w s
  go_enter Tryz.func181, Tryz.ntmps181
  go_wp2_with (first
    | (go_at_call 64; refine (ruint_any s.size _ (by omega)).mono ?_; rintro e w1 ⟨v1, rfl, ho1, hb1⟩; have HO1 := Hid.mk' ho1; have HE1 := Hid.mk' hb1; clear ho1 hb1)
    | (at_builtin; refine wpList_append_own _ rfl _ _ 40 rfl w.heap.size 5 i0 _ 1 1 Tryz.underlying40 hi hz0 hz1 hz2 rfl (by decide) _ _ _ rfl (HO1.out.ext (ext_bytesWorld w1 5 s)) _ s.size _ (bs (strL s)) rfl (by rw [bs_len, strL_len, Nat.mul_one]) (news_bytesWorld w1 5 s) (bs_one _) ?c3 ?c4 ?c5 ?_))
  case c3 => have := HX.out; unfold maxLen; omega
  case c4 => have := HX.out; omega
  case c5 => exact (HE1.out.trans (ext_bytesWorld w1 5 s)).size
  intro v2 w2 hown hgrow _
  have hE2 := OB.grown (HE1.out.trans (ext_bytesWorld w1 5 s)) (HO1.out.ext (ext_bytesWorld w1 5 s)) hgrow
  have HO := Hid.mk' (OB.push hown (by rw [strL_len]))
  have HE2 := Hid.mk' hE2
  clear hown hgrow hE2
  go_wp2
  go_ret
  exact ⟨_, rfl, HO.out, HE2.out⟩

end Go.Proofs.YtibgippchdmdlaaGreat

/-
The reference's Put of a complex number.
-/
namespace Go.Proofs.YtibgippchdmdlaaGreat
open Go.RowKit

theorem OB.of_blk {w : World} {g : Nat} {l : List Int} {base n : Nat} (h : Blk w g (bs l).toArray 5) (hb : base ≤ g) (hn : n = l.length) (hl : l.length ≤ 1000000) : OB w base (.slice (some ⟨g, 0, none⟩) n n) l := by
  subst hn
  refine ⟨by rw [bs_len, Nat.mul_one], .inr ⟨g, l.length, (bs l).toArray, rfl, hb, h, Nat.le_refl _, by unfold maxLen; omega, by simp [bs], ?_⟩⟩
  rw [Nat.mul_one, List.toList_toArray, ← bs_len l, List.take_length]

/-- A store into what a call owns. -/
theorem OB.stored {w : World} {base g cap n : Nat} {l : List Int} (h : OB w base (.slice (some ⟨g, 0, none⟩) n cap) l) (j : Nat) (x : Int) : OB (w.setCell ⟨g, j, none⟩ (.int .u8 x)) base (.slice (some ⟨g, 0, none⟩) n cap) (l.set j x) := by
  obtain ⟨a, c, hv⟩ := h.shape
  simp only [Value.slice.injEq] at hv
  obtain ⟨_, rfl, _⟩ := hv
  have := (World.ownsRow.stored h j (.int .u8 x)).1
  unfold OB
  rw [List.length_set]
  have e : bs (l.set j x) = (bs l).set j (.int .u8 x) := by simp [bs, List.map_set]
  rw [e]; exact this
theorem OB.form {w : World} {base : Nat} {v : Value} {l : List Int} (h : OB w base v l) (hl : 0 < l.length) : ∃ g cap, v = .slice (some ⟨g, 0, none⟩) l.length cap ∧ base ≤ g ∧ g < w.heap.size ∧ (∀ j, w.frozen? ⟨g, j, none⟩ = false) ∧ (∀ j, j < l.length → w.cell? ⟨g, j, none⟩ = some (.int .u8 (l.getD j 0))) := by
  obtain ⟨g, cap, rfl, hb, hlt⟩ := World.ownsRow.form h hl
  refine ⟨g, cap, rfl, hb, hlt, fun j => World.ownsRow.frozenAt h j, fun j hj => ?_⟩
  rw [World.ownsRow.cellAt h j (by omega)]
  simp [bs, List.getD, List.getElem?_map, List.getElem?_eq_getElem hj]


theorem OB.news {w : World} {base : Nat} {v : Value} {l : List Int} (h : OB w base v l) : ∀ g, v.ownBlock = some g → ∀ j u, (bs l)[j]? = some u → w.cell? ((⟨g, 0, none⟩ : Addr).add j) = some u := fun _ hg => World.ownsRow.cells h hg

theorem sevens_pos (x : Nat) : 0 < (sevens x).length := by
  by_cases h : x < 128
  · rw [sevens_lt h]; simp
  · rw [sevens_ge h]; simp
theorem floatL_pos {x : Nat} {ver : Int} : 0 < (floatL x ver).length := by
  unfold floatL; split
  · rw [wordL_len]; omega
  · exact sevens_pos _
theorem floatL_1 (x : Nat) : (floatL x 1).length = 8 := by unfold floatL; rw [if_pos rfl, wordL_len]

set_option maxRecDepth 100000 in set_option maxHeartbeats 1600000 in
theorem rput41_any (n : Int) (x y : Nat) (s : ByteArray) (w : World) (hx : x < 2 ^ 64) (hy : y < 2 ^ 64)
    (HR : Hid (∀ w, Calls Tryz.prog 177 #[.agg #[.int .u8 4, .int .i64 n, .int .u64 x, .int .u64 y, .string s]] w fun e w' => e = .returned (.int .i64 0) ∧ Ext w w')) :
    Calls Tryz.prog 149 #[.agg #[.int .u8 4, .int .i64 n, .int .u64 x, .int .u64 y, .string s], .int .u8 1] w fun e w' => ∃ v', e = .returned (.tuple #[v', .int .i64 0]) ∧ OB w' w.heap.size v' (complexL x y 1) ∧ Ext w w' := by
  obtain ⟨i0, hi, hz0, hz1, hz2⟩ := info_parts Tryz.infoU8
  have HX := Hid.mk' (And.intro hx hy)
  have HFX := Hid.mk' (fun (z : Nat) (ver : Int) => floatL_len (x := z) (ver := ver))
  clear hx hy
  go_enter Tryz.func149, Tryz.ntmps149
  go_upto_region 17 with (first
    | (go_at_call 177; refine (HR.out _).mono ?_; rintro e w1 ⟨rfl, hb1⟩; have h1 := (Blk.new w #[.int .u8 4, .int .i64 n, .int .u64 x, .int .u64 y, .string s] 168).ext hb1; have hE1 : Ext w w1 := (by (repeat (with_reducible (first | exact Ext.refl _ | assumption | exact held_left (by assumption) | apply Ext.drewN | apply Ext.drew | apply Ext.alloc | (refine Ext.setCell ?_ (by first | (simp; done) | (simp; omega) | omega) _) | (refine Ext.trans ?_ (by assumption)) | (refine Ext.trans ?_ (held_left (by assumption))))))); have k1 := h1.cell; have z1 := h1.lt))
  go_region_held3 (fun w' => Ext (w1) w' ∧ (∀ b o, b < (w1).heap.size → w'.cell? ⟨b, o, none⟩ = (w1).cell? ⟨b, o, none⟩) ∧ (∀ b o, b < (w1).heap.size → w'.frozen? ⟨b, o, none⟩ = (w1).frozen? ⟨b, o, none⟩)) ((exact held_of (by (repeat (with_reducible (first | exact Ext.refl _ | assumption | exact held_left (by assumption) | apply Ext.drewN | apply Ext.drew | apply Ext.alloc | (refine Ext.setCell ?_ (by first | (simp; done) | (simp; omega) | omega) _) | (refine Ext.trans ?_ (by assumption)) | (refine Ext.trans ?_ (held_left (by assumption)))))))))
    (first
      | ((refine step_append_lies _ (by rfl) _ _ 40 (by rfl) w1.heap.size 5 i0 _ 1 1 Tryz.underlying40 hi hz0 hz1 hz2 rfl (by decide) _ _ _ (by rfl) (HO2.out.ext HB3.out) ⟨g3, 0, none⟩ _ cap3 (bs (floatL y 1)) (by rfl) (by rw [bs_len, Nat.mul_one]) (HO3.out.news _ rfl) (bs_one _) floatL_pos (by unfold maxLen; rw [floatL_1, floatL_1]; omega) (by rw [floatL_1, floatL_1]; omega) (HE2.out.trans HB3.out).size _ rfl ?_; intro g4 cap4 w4 hown hgrow hat hlt; have hE4 : Ext w1 w4 := OB.grown (HE2.out.trans HB3.out) (HO2.out.ext HB3.out) hgrow; have HO4 := Hid.mk' hown; clear hown hgrow hat hlt))
      | (go_at_call_of 180 (Value.int IntKind.u64 (x : Int)); refine (rfloat_any x 1 _ HX.out.1).mono ?_; rintro e w2 ⟨v2, rfl, ho2, hb2⟩; have hE2' : Ext w1 w2 := (by (repeat (with_reducible (first | exact Ext.refl _ | assumption | exact held_left (by assumption) | apply Ext.drewN | apply Ext.drew | apply Ext.alloc | (refine Ext.setCell ?_ (by first | (simp; done) | (simp; omega) | omega) _) | (refine Ext.trans ?_ (by assumption)) | (refine Ext.trans ?_ (held_left (by assumption))))))); have HE2 := Hid.mk' hE2'; clear hE2'; have HO2 : Hid (OB w2 w1.heap.size v2 (floatL x 1)) := ho2; clear ho2)
      | (go_at_call_of 180 (Value.int IntKind.u64 (y : Int)); refine (rfloat_any y 1 _ HX.out.2).mono ?_; rintro e w3 ⟨v3, rfl, ho3, hb3⟩; obtain ⟨g3, cap3, rfl, -, hg3, -, -⟩ := OB.form ho3 floatL_pos; have HO3 := Hid.mk' ho3; have hE3' : Ext w2 w3 := (by (repeat (with_reducible (first | exact Ext.refl _ | assumption | exact held_left (by assumption) | apply Ext.drewN | apply Ext.drew | apply Ext.alloc | (refine Ext.setCell ?_ (by first | (simp; done) | (simp; omega) | omega) _) | (refine Ext.trans ?_ (by assumption)) | (refine Ext.trans ?_ (held_left (by assumption))))))); have HB3 := Hid.mk' hE3'; clear hE3'; clear ho3))
  go_wp2
  go_ret2
  refine ⟨_, rfl, ?_, hE1.trans hE4⟩
  unfold complexL
  rw [if_neg (by decide)]
  exact OB.base (OB.push HO4.out rfl) hE1.size

set_option maxRecDepth 100000 in set_option maxHeartbeats 1600000 in
theorem rput400_any (n : Int) (s : ByteArray) (w : World)
    (HR : Hid (∀ w, Calls Tryz.prog 177 #[.agg #[.int .u8 4, .int .i64 n, .int .u64 (0 : Nat), .int .u64 (0 : Nat), .string s]] w fun e w' => e = .returned (.int .i64 0) ∧ Ext w w')) :
    Calls Tryz.prog 149 #[.agg #[.int .u8 4, .int .i64 n, .int .u64 (0 : Nat), .int .u64 (0 : Nat), .string s], .int .u8 2] w fun e w' => ∃ v', e = .returned (.tuple #[v', .int .i64 0]) ∧ OB w' w.heap.size v' (complexL 0 0 2) ∧ Ext w w' := by
  go_enter Tryz.func149, Tryz.ntmps149
  go_wp2_with (first
    | (go_at_call 177; refine (HR.out _).mono ?_; rintro e w1 ⟨rfl, hb1⟩; have h1 := (Blk.new w #[.int .u8 4, .int .i64 n, .int .u64 (0 : Nat), .int .u64 (0 : Nat), .string s] 168).ext hb1; have hE1 : Ext w w1 := (by (repeat (with_reducible (first | exact Ext.refl _ | assumption | exact held_left (by assumption) | apply Ext.drewN | apply Ext.drew | apply Ext.alloc | (refine Ext.setCell ?_ (by first | (simp; done) | (simp; omega) | omega) _) | (refine Ext.trans ?_ (by assumption)) | (refine Ext.trans ?_ (held_left (by assumption))))))); have k1 := h1.cell; have z1 := h1.lt))
  go_ret2
  refine ⟨_, rfl, ?_, hE1.alloc _⟩
  exact OB.of_blk (l := [0]) (Blk.new _ _ _) hE1.size rfl (by decide)

set_option maxRecDepth 100000 in set_option maxHeartbeats 1600000 in
theorem rput401_any (n : Int) (y : Nat) (s : ByteArray) (w : World) (hy0 : 1 ≤ y) (hy : y < 2 ^ 64)
    (HR : Hid (∀ w, Calls Tryz.prog 177 #[.agg #[.int .u8 4, .int .i64 n, .int .u64 (0 : Nat), .int .u64 y, .string s]] w fun e w' => e = .returned (.int .i64 0) ∧ Ext w w')) :
    Calls Tryz.prog 149 #[.agg #[.int .u8 4, .int .i64 n, .int .u64 (0 : Nat), .int .u64 y, .string s], .int .u8 2] w fun e w' => ∃ v', e = .returned (.tuple #[v', .int .i64 0]) ∧ OB w' w.heap.size v' (complexL 0 y 2) ∧ Ext w w' := by
  obtain ⟨i0, hi, hz0, hz1, hz2⟩ := info_parts Tryz.infoU8
  have HX := Hid.mk' (And.intro hy hy)
  have HFX := Hid.mk' (fun (z : Nat) (ver : Int) => floatL_len (x := z) (ver := ver))
  clear hy
  have HOUT : Hid (complexL 0 y 2 = [2] ++ floatL y 2) := Hid.mk' (by unfold complexL markOf; simp [show ¬ y = 0 by omega])
  go_enter Tryz.func149, Tryz.ntmps149
  go_wp2_with (first
    | (go_at_call 177; refine (HR.out _).mono ?_; rintro e w1 ⟨rfl, hb1⟩; have h1 := (Blk.new w #[.int .u8 4, .int .i64 n, .int .u64 (0 : Nat), .int .u64 y, .string s] 168).ext hb1; have hE1 : Ext w w1 := (by (repeat (with_reducible (first | exact Ext.refl _ | assumption | exact held_left (by assumption) | apply Ext.drewN | apply Ext.drew | apply Ext.alloc | (refine Ext.setCell ?_ (by first | (simp; done) | (simp; omega) | omega) _) | (refine Ext.trans ?_ (by assumption)) | (refine Ext.trans ?_ (held_left (by assumption))))))); have k1 := h1.cell; have z1 := h1.lt)
    | (go_at_call_of 180 (Value.int IntKind.u64 (y : Int)); refine (rfloat_any y 2 _ HX.out.2).mono ?_; rintro e w2 ⟨v2, rfl, ho2, hb2⟩; have HB2 := Hid.mk' hb2; obtain ⟨g2, cap2, rfl, -, hg2, -, -⟩ := OB.form ho2 floatL_pos; have HO2 := Hid.mk' ho2; clear ho2 hb2)
    | (at_builtin; refine wpList_append_own _ rfl _ _ 40 rfl w.heap.size 5 i0 _ 1 1 Tryz.underlying40 hi hz0 hz1 hz2 rfl (by decide) _ 1 _ rfl ((OB.of_blk (l := [2]) (base := w.heap.size) (Blk.new w1 _ _) hE1.size rfl (by decide)).ext HB2.out) ⟨g2, 0, none⟩ _ cap2 (bs (floatL y 2)) rfl (by rw [bs_len, Nat.mul_one]) (HO2.out.news _ rfl) (bs_one _) ?c3 ?c4 ?c5 ?_))
  case c3 => have := HFX.out y 2; unfold maxLen; omega
  case c4 => have := HFX.out y 2; omega
  case c5 => exact ((hE1.alloc _).trans HB2.out).size
  intro v3 w3 hown hgrow _
  have hE3 := OB.grown ((hE1.alloc _).trans HB2.out) ((OB.of_blk (l := [2]) (base := w.heap.size) (Blk.new w1 _ _) hE1.size rfl (by decide)).ext HB2.out) hgrow
  have HO3 := Hid.mk' (OB.push hown rfl)
  have HE3 := Hid.mk' hE3
  clear hown hgrow hE3
  go_wp2
  go_ret2
  exact ⟨_, rfl, by rw [HOUT.out]; exact HO3.out, HE3.out⟩

set_option maxRecDepth 100000 in set_option maxHeartbeats 1600000 in
theorem rput410_any (n : Int) (x : Nat) (s : ByteArray) (w : World) (hx0 : 1 ≤ x) (hx : x < 2 ^ 64)
    (HR : Hid (∀ w, Calls Tryz.prog 177 #[.agg #[.int .u8 4, .int .i64 n, .int .u64 x, .int .u64 (0 : Nat), .string s]] w fun e w' => e = .returned (.int .i64 0) ∧ Ext w w')) :
    Calls Tryz.prog 149 #[.agg #[.int .u8 4, .int .i64 n, .int .u64 x, .int .u64 (0 : Nat), .string s], .int .u8 2] w fun e w' => ∃ v', e = .returned (.tuple #[v', .int .i64 0]) ∧ OB w' w.heap.size v' (complexL x 0 2) ∧ Ext w w' := by
  obtain ⟨i0, hi, hz0, hz1, hz2⟩ := info_parts Tryz.infoU8
  have HX := Hid.mk' (And.intro hx hx)
  have HFX := Hid.mk' (fun (z : Nat) (ver : Int) => floatL_len (x := z) (ver := ver))
  clear hx
  have HOUT : Hid (complexL x 0 2 = [1] ++ floatL x 2) := Hid.mk' (by unfold complexL markOf; simp [show ¬ x = 0 by omega])
  go_enter Tryz.func149, Tryz.ntmps149
  go_wp2_with (first
    | (go_at_call 177; refine (HR.out _).mono ?_; rintro e w1 ⟨rfl, hb1⟩; have h1 := (Blk.new w #[.int .u8 4, .int .i64 n, .int .u64 x, .int .u64 (0 : Nat), .string s] 168).ext hb1; have hE1 : Ext w w1 := (by (repeat (with_reducible (first | exact Ext.refl _ | assumption | exact held_left (by assumption) | apply Ext.drewN | apply Ext.drew | apply Ext.alloc | (refine Ext.setCell ?_ (by first | (simp; done) | (simp; omega) | omega) _) | (refine Ext.trans ?_ (by assumption)) | (refine Ext.trans ?_ (held_left (by assumption))))))); have k1 := h1.cell; have z1 := h1.lt)
    | (go_at_call_of 180 (Value.int IntKind.u64 (x : Int)); refine (rfloat_any x 2 _ HX.out.1).mono ?_; rintro e w2 ⟨v2, rfl, ho2, hb2⟩; have HB2 := Hid.mk' hb2; obtain ⟨g2, cap2, rfl, -, hg2, -, -⟩ := OB.form ho2 floatL_pos; have HO2 := Hid.mk' ho2; clear ho2 hb2)
    | (at_builtin; refine wpList_append_own _ rfl _ _ 40 rfl w.heap.size 5 i0 _ 1 1 Tryz.underlying40 hi hz0 hz1 hz2 rfl (by decide) _ 1 _ rfl ((OB.of_blk (l := [1]) (base := w.heap.size) (Blk.new w1 _ _) hE1.size rfl (by decide)).ext HB2.out) ⟨g2, 0, none⟩ _ cap2 (bs (floatL x 2)) rfl (by rw [bs_len, Nat.mul_one]) (HO2.out.news _ rfl) (bs_one _) ?c3 ?c4 ?c5 ?_))
  case c3 => have := HFX.out x 2; unfold maxLen; omega
  case c4 => have := HFX.out x 2; omega
  case c5 => exact ((hE1.alloc _).trans HB2.out).size
  intro v3 w3 hown hgrow _
  have hE3 : Ext w1 w3 := OB.grown (W := w1) (((Ext.refl w1).alloc _).trans HB2.out) ((OB.of_blk (l := [1]) (base := w1.heap.size) (Blk.new w1 _ _) (Nat.le_refl _) rfl (by decide)).ext HB2.out) hgrow
  have HO3 := Hid.mk' (OB.push hown rfl)
  have HE3 := Hid.mk' hE3
  have h3 := h1.ext hE3
  have k3 := h3.cell
  have z3 := h3.lt
  clear hown hgrow hE3
  go_wp2
  go_ret2
  exact ⟨_, rfl, by rw [HOUT.out]; exact HO3.out, hE1.trans HE3.out⟩

set_option maxRecDepth 100000 in set_option maxHeartbeats 1600000 in
theorem rput411_any (n : Int) (x y : Nat) (s : ByteArray) (w : World) (hx0 : 1 ≤ x) (hy0 : 1 ≤ y) (hx : x < 2 ^ 64) (hy : y < 2 ^ 64)
    (HR : Hid (∀ w, Calls Tryz.prog 177 #[.agg #[.int .u8 4, .int .i64 n, .int .u64 x, .int .u64 y, .string s]] w fun e w' => e = .returned (.int .i64 0) ∧ Ext w w')) :
    Calls Tryz.prog 149 #[.agg #[.int .u8 4, .int .i64 n, .int .u64 x, .int .u64 y, .string s], .int .u8 2] w fun e w' => ∃ v', e = .returned (.tuple #[v', .int .i64 0]) ∧ OB w' w.heap.size v' (complexL x y 2) ∧ Ext w w' := by
  obtain ⟨i0, hi, hz0, hz1, hz2⟩ := info_parts Tryz.infoU8
  have HX := Hid.mk' (And.intro hx hy)
  have HFX := Hid.mk' (fun (z : Nat) (ver : Int) => floatL_len (x := z) (ver := ver))
  clear hx hy
  have HOUT : Hid (complexL x y 2 = ([3] ++ floatL x 2) ++ floatL y 2) := Hid.mk' (by unfold complexL markOf; simp [show ¬ x = 0 by omega, show ¬ y = 0 by omega])
  go_enter Tryz.func149, Tryz.ntmps149
  go_wp2_with (first
    | (go_at_call 177; refine (HR.out _).mono ?_; rintro e w1 ⟨rfl, hb1⟩; have h1 := (Blk.new w #[.int .u8 4, .int .i64 n, .int .u64 x, .int .u64 y, .string s] 168).ext hb1; have hE1 : Ext w w1 := (by (repeat (with_reducible (first | exact Ext.refl _ | assumption | exact held_left (by assumption) | apply Ext.drewN | apply Ext.drew | apply Ext.alloc | (refine Ext.setCell ?_ (by first | (simp; done) | (simp; omega) | omega) _) | (refine Ext.trans ?_ (by assumption)) | (refine Ext.trans ?_ (held_left (by assumption))))))); have k1 := h1.cell; have z1 := h1.lt)
    | (go_at_call_of 180 (Value.int IntKind.u64 (x : Int)); refine (rfloat_any x 2 _ HX.out.1).mono ?_; rintro e w2 ⟨v2, rfl, ho2, hb2⟩; have HB2 := Hid.mk' hb2; obtain ⟨g2, cap2, rfl, -, hg2, -, -⟩ := OB.form ho2 floatL_pos; have HO2 := Hid.mk' ho2; clear ho2 hb2)
    | (at_builtin; refine wpList_append_own _ rfl _ _ 40 rfl w1.heap.size 5 i0 _ 1 1 Tryz.underlying40 hi hz0 hz1 hz2 rfl (by decide) _ 1 _ rfl ((OB.of_blk (l := [1]) (base := w1.heap.size) (Blk.new w1 _ _) (Nat.le_refl _) rfl (by decide)).ext HB2.out) ⟨g2, 0, none⟩ _ cap2 (bs (floatL x 2)) rfl (by rw [bs_len, Nat.mul_one]) (HO2.out.news _ rfl) (bs_one _) ?c3 ?c4 ?c5 ?_))
  case c3 => have := HFX.out x 2; unfold maxLen; omega
  case c4 => have := HFX.out x 2; omega
  case c5 => exact (((Ext.refl w1).alloc _).trans HB2.out).size
  intro v3 w3 hown hgrow _
  have hE3 : Ext w1 w3 := OB.grown (W := w1) (((Ext.refl w1).alloc _).trans HB2.out) ((OB.of_blk (l := [1]) (base := w1.heap.size) (Blk.new w1 _ _) (Nat.le_refl _) rfl (by decide)).ext HB2.out) hgrow
  have hob := OB.push hown rfl
  obtain ⟨g4, cap4, rfl, hb4, hl4, f4, c4⟩ := OB.form hob (by simp)
  have c40 : w3.cell? ⟨g4, 0, none⟩ = some (.int .u8 1) := c4 0 (by simp)
  have f40 := f4 0
  have HC4 := Hid.mk' c4
  have HF4 := Hid.mk' f4
  have hl3 : 1 ≤ ([1] ++ floatL x 2).length := by simp
  have HL3 : Hid (([1] ++ floatL x 2).length ≤ 20) := Hid.mk' (by have := HFX.out x 2; simp; omega)
  have h3 := h1.ext hE3
  have k3 := h3.cell
  have z3 := h3.lt
  have hne : w.heap.size ≠ g4 := by have := h1.lt; omega
  have hOS := OB.stored hob 0 3
  have hES : Ext w1 (w3.setCell ⟨g4, 0, none⟩ (.int .u8 3)) := hE3.setCell hb4 _
  have h5 := h1.ext hES
  have k5 := h5.cell
  have HE3 := Hid.mk' hE3
  have HOS := Hid.mk' hOS
  have HES := Hid.mk' hES
  clear hown hgrow hE3 hob c4 f4 hOS hES
  go_wp2_with (first
    | (go_at_call_of 180 (Value.int IntKind.u64 (y : Int)); refine (rfloat_any y 2 _ HX.out.2).mono ?_; rintro e w6 ⟨v6, rfl, ho6, hb6⟩; have HB6 := Hid.mk' hb6; obtain ⟨g6, cap6, rfl, -, hg6, -, -⟩ := OB.form ho6 floatL_pos; have HO6 := Hid.mk' ho6; clear ho6 hb6)
    | (at_builtin; refine wpList_append_own _ rfl _ _ 40 rfl w1.heap.size 5 i0 _ 1 1 Tryz.underlying40 hi hz0 hz1 hz2 rfl (by decide) _ _ _ rfl (HOS.out.ext HB6.out) ⟨g6, 0, none⟩ _ cap6 (bs (floatL y 2)) rfl (by rw [bs_len, Nat.mul_one]) (HO6.out.news _ rfl) (bs_one _) ?d3 ?d4 ?d5 ?_))
  case d3 => have := HFX.out y 2; have := HL3.out; unfold maxLen; simp at *; omega
  case d4 => have := HFX.out y 2; have := HL3.out; simp at *; omega
  case d5 => exact (HES.out.trans HB6.out).size
  intro v7 w7 hown hgrow _
  have hE7 : Ext w1 w7 := OB.grown (HES.out.trans HB6.out) (HOS.out.ext HB6.out) hgrow
  have HO7 := Hid.mk' (OB.push hown (by simp))
  have HE7 := Hid.mk' hE7
  clear hown hgrow hE7
  go_wp2
  go_ret2
  refine ⟨_, rfl, ?_, hE1.trans HE7.out⟩
  rw [HOUT.out]
  exact OB.base HO7.out hE1.size

theorem rput4_any (n : Int) (x y : Nat) (s : ByteArray) (ver : Int) (w : World) (hx : x < 2 ^ 64) (hy : y < 2 ^ 64) (hv : ver = 1 ∨ ver = 2)
    (HR : Hid (∀ w, Calls Tryz.prog 177 #[.agg #[.int .u8 4, .int .i64 n, .int .u64 x, .int .u64 y, .string s]] w fun e w' => e = .returned (.int .i64 0) ∧ Ext w w')) :
    Calls Tryz.prog 149 #[.agg #[.int .u8 4, .int .i64 n, .int .u64 x, .int .u64 y, .string s], .int .u8 ver] w fun e w' => ∃ v', e = .returned (.tuple #[v', .int .i64 0]) ∧ OB w' w.heap.size v' (complexL x y ver) ∧ Ext w w' := by
  rcases hv with rfl | rfl
  · exact rput41_any n x y s w hx hy HR
  · by_cases hx0 : x = 0 <;> by_cases hy0 : y = 0
    · subst hx0; subst hy0; exact rput400_any n s w HR
    · subst hx0; exact rput401_any n y s w (by omega) hy HR
    · subst hy0; exact rput410_any n x s w (by omega) hx HR
    · exact rput411_any n x y s w (by omega) (by omega) hx hy HR

end Go.Proofs.YtibgippchdmdlaaGreat

/-
The reference's Put of a value.
-/
namespace Go.Proofs.YtibgippchdmdlaaGreat
open Go.RowKit

def RPutPost (ty n : Int) (x y : Nat) (s : ByteArray) (ver : Int) (w : World) (e : Ending) (w' : World) : Prop :=
  ∃ v', e = .returned (.tuple #[v', .int .i64 (errV ty n x y s ver)]) ∧ (errV ty n x y s ver = 0 → OB w' w.heap.size v' (putL ty n x y s ver)) ∧ (errV ty n x y s ver ≠ 0 → v' = .slice none 0 0) ∧ Ext w w'

set_option maxRecDepth 100000 in set_option maxHeartbeats 1600000 in
theorem rput_any (ty n : Int) (x y : Nat) (s : ByteArray) (ver : Int) (w : World) (hn : -9223372036854775808 ≤ n ∧ n < 9223372036854775808) (hx : x < 2 ^ 64) (hy : y < 2 ^ 64) (hs : s.size ≤ 9223372036854775807) :
    Calls Tryz.prog 149 #[.agg #[.int .u8 ty, .int .i64 n, .int .u64 x, .int .u64 y, .string s], .int .u8 ver] w (RPutPost ty n x y s ver w) := by
  obtain ⟨i0, hi, hz0, hz1, hz2⟩ := info_parts Tryz.infoU8
  have HX := Hid.mk' (And.intro hx hy)
  have HN := Hid.mk' hn
  have HR := Hid.mk' (fun w => rright_any ty n x y s w hs)
  clear hx hy hs hn
  by_cases hv : ver = 1 ∨ ver = 2
  · have he : errV ty n x y s ver = rightV ty n x y s := by unfold errV; rw [if_pos hv]
    obtain ⟨R, hR⟩ : ∃ R, R = rightV ty n x y s := ⟨_, rfl⟩
    rw [← hR] at HR he
    have HE := Hid.mk' he
    have HRR := Hid.mk' hR
    clear he hR
    by_cases h0 : R = 0
    · subst h0
      have hz := right_zero HRR.out.symm
      have ht : ty = 1 ∨ ty = 2 ∨ ty = 3 ∨ ty = 4 ∨ ty = 5 ∨ ty = 6 := by omega
      have hs2 : s.size ≤ 2048 := hz.2.2.1
      have HZ := Hid.mk' hz
      clear hz
      have HVV := Hid.mk' hv
      clear hv
      rcases ht with rfl | rfl | rfl | rfl | rfl | rfl
      · rcases HZ.out.2.2.2.1 rfl with hn01 | hn01
        all_goals
          subst hn01
          rcases HVV.out with rfl | rfl
          all_goals
            go_enter Tryz.func149, Tryz.ntmps149
            go_wp2_with (go_at_call 177; refine (HR.out _).mono ?_; rintro e w1 ⟨rfl, hb1⟩; have h1 := (Blk.new w #[.int .u8 1, .int .i64 _, .int .u64 x, .int .u64 y, .string s] 168).ext hb1; have hE1 : Ext w w1 := (by (repeat (with_reducible (first | exact Ext.refl _ | assumption | exact held_left (by assumption) | apply Ext.drewN | apply Ext.drew | apply Ext.alloc | (refine Ext.setCell ?_ (by first | (simp; done) | (simp; omega) | omega) _) | (refine Ext.trans ?_ (by assumption)) | (refine Ext.trans ?_ (held_left (by assumption))))))); have k1 := h1.cell; have z1 := h1.lt)
            go_ret2
            exact ⟨_, by rw [HE.out]; rfl, fun _ => OB.of_blk (l := [_]) (Blk.new _ _ _) hE1.size rfl (by decide), fun h => absurd HE.out h, hE1.alloc _⟩
      · rcases HVV.out with rfl | rfl
        · have hw : 0 ≤ n % 18446744073709551616 ∧ n % 18446744073709551616 < 18446744073709551616 := by omega
          have HW := Hid.mk' hw
          clear hw
          go_enter Tryz.func149, Tryz.ntmps149
          go_wp2_with (first
            | (go_at_call 177; refine (HR.out _).mono ?_; rintro e w1 ⟨rfl, hb1⟩; have h1 := (Blk.new w #[.int .u8 2, .int .i64 n, .int .u64 x, .int .u64 y, .string s] 168).ext hb1; have hE1 : Ext w w1 := (by (repeat (with_reducible (first | exact Ext.refl _ | assumption | exact held_left (by assumption) | apply Ext.drewN | apply Ext.drew | apply Ext.alloc | (refine Ext.setCell ?_ (by first | (simp; done) | (simp; omega) | omega) _) | (refine Ext.trans ?_ (by assumption)) | (refine Ext.trans ?_ (held_left (by assumption))))))); have k1 := h1.cell; have z1 := h1.lt)
            | (go_at_call 178; rw [u64_wrap]; refine (rword_any _ _ HW.out.1 HW.out.2).mono ?_; rintro e w2 ⟨v2, rfl, ho2, hb2⟩; have HO2 := Hid.mk' (ho2.base hE1.size); have HE2 := Hid.mk' (hE1.trans hb2); clear ho2 hb2))
          go_ret2
          exact ⟨_, by rw [HE.out]; rfl, fun _ => HO2.out, fun h => absurd HE.out h, HE2.out⟩
        · have HZL := Hid.mk' (zig_lt n HN.out)
          go_enter Tryz.func149, Tryz.ntmps149
          go_wp2_with (first
            | (go_at_call 177; refine (HR.out _).mono ?_; rintro e w1 ⟨rfl, hb1⟩; have h1 := (Blk.new w #[.int .u8 2, .int .i64 n, .int .u64 x, .int .u64 y, .string s] 168).ext hb1; have hE1 : Ext w w1 := (by (repeat (with_reducible (first | exact Ext.refl _ | assumption | exact held_left (by assumption) | apply Ext.drewN | apply Ext.drew | apply Ext.alloc | (refine Ext.setCell ?_ (by first | (simp; done) | (simp; omega) | omega) _) | (refine Ext.trans ?_ (by assumption)) | (refine Ext.trans ?_ (held_left (by assumption))))))); have k1 := h1.cell; have z1 := h1.lt)
            | (go_at_call 179; refine (rzig_any n _ HN.out).mono ?_; rintro e w2 ⟨rfl, rfl⟩)
            | (go_at_call 64; refine (ruint_any _ _ HZL.out).mono ?_; rintro e w2 ⟨v2, rfl, ho2, hb2⟩; have HO2 := Hid.mk' (ho2.base hE1.size); have HE2 := Hid.mk' (hE1.trans hb2); clear ho2 hb2))
          go_ret2
          exact ⟨_, by rw [HE.out]; rfl, fun _ => HO2.out, fun h => absurd HE.out h, HE2.out⟩
      · rcases HVV.out with rfl | rfl
        all_goals
          go_enter Tryz.func149, Tryz.ntmps149
          go_wp2_with (first
            | (go_at_call 177; refine (HR.out _).mono ?_; rintro e w1 ⟨rfl, hb1⟩; have h1 := (Blk.new w #[.int .u8 3, .int .i64 n, .int .u64 x, .int .u64 y, .string s] 168).ext hb1; have hE1 : Ext w w1 := (by (repeat (with_reducible (first | exact Ext.refl _ | assumption | exact held_left (by assumption) | apply Ext.drewN | apply Ext.drew | apply Ext.alloc | (refine Ext.setCell ?_ (by first | (simp; done) | (simp; omega) | omega) _) | (refine Ext.trans ?_ (by assumption)) | (refine Ext.trans ?_ (held_left (by assumption))))))); have k1 := h1.cell; have z1 := h1.lt)
            | (go_at_call 180; refine (rfloat_any x _ _ HX.out.1).mono ?_; rintro e w2 ⟨v2, rfl, ho2, hb2⟩; have HO2 := Hid.mk' (ho2.base hE1.size); have HE2 := Hid.mk' (hE1.trans hb2); clear ho2 hb2))
          go_ret2
          exact ⟨_, by rw [HE.out]; rfl, fun _ => HO2.out, fun h => absurd HE.out h, HE2.out⟩
      · refine (rput4_any n x y s ver w HX.out.1 HX.out.2 HVV.out HR).mono ?_
        rintro e w1 ⟨v', he, ho, hb⟩
        exact ⟨v', by rw [HE.out]; exact he, fun _ => ho, fun h => absurd HE.out h, hb⟩
      all_goals
        rcases HVV.out with rfl | rfl
        all_goals
          go_enter Tryz.func149, Tryz.ntmps149
          go_wp2_with (first
            | (go_at_call 177; refine (HR.out _).mono ?_; rintro e w1 ⟨rfl, hb1⟩; have h1 := (Blk.new w #[.int .u8 _, .int .i64 n, .int .u64 x, .int .u64 y, .string s] 168).ext hb1; have hE1 : Ext w w1 := (by (repeat (with_reducible (first | exact Ext.refl _ | assumption | exact held_left (by assumption) | apply Ext.drewN | apply Ext.drew | apply Ext.alloc | (refine Ext.setCell ?_ (by first | (simp; done) | (simp; omega) | omega) _) | (refine Ext.trans ?_ (by assumption)) | (refine Ext.trans ?_ (held_left (by assumption))))))); have k1 := h1.cell; have z1 := h1.lt)
            | (go_at_call 181; refine (rtext_any s _ (by omega)).mono ?_; rintro e w2 ⟨v2, rfl, ho2, hb2⟩; have HO2 := Hid.mk' (ho2.base hE1.size); have HE2 := Hid.mk' (hE1.trans hb2); clear ho2 hb2))
          go_ret2
          exact ⟨_, by rw [HE.out]; rfl, fun _ => HO2.out, fun h => absurd HE.out h, HE2.out⟩
    · rcases hv with rfl | rfl
      all_goals
        go_enter Tryz.func149, Tryz.ntmps149
        go_wp2_with (first
          | (go_at_call 177; refine (HR.out _).mono ?_; rintro e w1 ⟨rfl, hb1⟩))
        go_ret2
        exact ⟨_, by rw [HE.out]; rfl, fun h => absurd (HE.out.symm.trans h) h0, fun _ => rfl, by (repeat (with_reducible (first | exact Ext.refl _ | assumption | exact held_left (by assumption) | apply Ext.drewN | apply Ext.drew | apply Ext.alloc | (refine Ext.setCell ?_ (by first | (simp; done) | (simp; omega) | omega) _) | (refine Ext.trans ?_ (by assumption)) | (refine Ext.trans ?_ (held_left (by assumption))))))⟩
  · have he : errV ty n x y s ver = 18 := by unfold errV; rw [if_neg hv]
    have HE := Hid.mk' he
    have hv1 : (ver != 1) = true := by simp; omega
    have hv2 : (ver != 2) = true := by simp; omega
    clear he
    go_enter Tryz.func149, Tryz.ntmps149
    go_wp2
    go_ret2
    exact ⟨_, by rw [HE.out]; rfl, fun h => absurd (HE.out.symm.trans h) (by decide), fun _ => rfl, by (repeat (with_reducible (first | exact Ext.refl _ | assumption | exact held_left (by assumption) | apply Ext.drewN | apply Ext.drew | apply Ext.alloc | (refine Ext.setCell ?_ (by first | (simp; done) | (simp; omega) | omega) _) | (refine Ext.trans ?_ (by assumption)) | (refine Ext.trans ?_ (held_left (by assumption))))))⟩

end Go.Proofs.YtibgippchdmdlaaGreat

/-
Appending bytes of any source to what a call owns.
-/
namespace Go.Proofs.YtibgippchdmdlaaGreat
open Go.RowKit

/-- Bytes that append can read. -/
def NB (w : World) (u : Value) (m : List Int) : Prop := (u = .slice none 0 0 ∧ m = []) ∨ ∃ ad cap, u = .slice (some ad) m.length cap ∧ ∀ j z, (bs m)[j]? = some z → w.cell? (ad.add j) = some z
theorem NB.nil (w : World) : NB w (.slice none 0 0) [] := .inl ⟨rfl, rfl⟩
theorem NB.of_sl {w : World} {v : Value} {m : List Int} (h : Sl w v 1 (m.map bcell)) (hn : ∀ len cap, v = .slice none len cap → v = .slice none 0 0) : NB w v m := by
  have h0 := h
  obtain ⟨a, cap, rfl, hs⟩ := h
  cases a with
  | none =>
    refine .inl ⟨hn _ _ rfl, ?_⟩
    rcases hs with hs | ⟨b, o, ha, _⟩
    · simpa using hs
    · cases ha
  | some ad =>
    refine .inr ⟨ad, cap, by simp, ?_⟩
    rcases hs with hs | ⟨b, o, ha, hb, hc⟩
    · have : m = [] := by simpa using hs
      subst this; intro j z hj; simp [bs] at hj
    · cases ha
      exact bytes_news fun i hi => (Sl.bytes h0 (by simp; omega)).2.2 i (by simpa using hi)
theorem NB.of_own {w : World} {base : Nat} {v : Value} {m : List Int} (h : OB w base v m) : NB w v m := by
  rcases h.2 with ⟨rfl, h0⟩ | ⟨g, cap, cur, rfl, _⟩
  · exact .inl ⟨rfl, List.length_eq_zero_iff.1 h0⟩
  · exact .inr ⟨_, cap, rfl, World.ownsRow.cells h rfl⟩
theorem NB.ext {w w1 : World} {v : Value} {m : List Int} (h : NB w v m) (hsz : ∀ ad len cap, v = .slice (some ad) len cap → 0 < len → ad.block < w.heap.size) (he : Ext w w1) : NB w1 v m := by
  rcases h with h | ⟨ad, cap, rfl, h⟩
  · exact .inl h
  · refine .inr ⟨ad, cap, rfl, fun j z hj => ?_⟩
    have hl : 0 < m.length := by
      rcases Nat.eq_zero_or_pos m.length with h0 | h0
      · have : m = [] := List.length_eq_zero_iff.1 h0
        subst this; simp [bs] at hj
      · exact h0
    have hb := hsz ad _ cap rfl hl
    rw [← h j z hj]
    exact Below.cell he (by unfold Addr.add; split <;> exact hb)

set_option maxRecDepth 20000 in
theorem app_bytes {w : World} {ops : Array Oper} {rest : List Oper} {o : Oper} {a : Act} {Q : Exit → Act → World → Prop} (hgd : o.guard = none) (s x : Operand)
    (ho : o.op = .call { callee := .builtin .append, args := #[s, x], argTypes := #[40, 40] })
    (base : Nat) (v : Value) (l : List Int) (hs : a.eval s = v) (hown : OB w base v l) (u : Value) (m : List Int) (hx : a.eval x = u) (hu : NB w u m)
    (h63 : l.length + m.length ≤ 1000000000) (hbase : base ≤ w.heap.size)
    (h : ∀ v' w', OB w' base v' (l ++ m) → w.grownBy w' v.ownBlock → wpList Tryz.prog ops Q rest (a.put o.dst v') w') : wpList Tryz.prog ops Q (o :: rest) a w := by
  obtain ⟨i0, hi, hz0, hz1, hz2⟩ := info_parts Tryz.infoU8
  rcases hu with ⟨rfl, rfl⟩ | ⟨ad, cap, rfl, hn⟩
  · refine Go.wpList_append_own_none hgd s x 40 ho base 5 i0 1 Tryz.underlying40 hi v _ _ hs hown hx ?_
    exact h v w (by rw [List.append_nil]; exact hown) ⟨rfl, rfl, rfl, Nat.le_refl _, fun _ _ _ => rfl⟩
  · exact wpList_append_own w hgd s x 40 ho base 5 i0 _ 1 1 Tryz.underlying40 hi hz0 hz1 hz2 rfl (by decide) v _ _ hs hown ad m.length cap (bs m) hx (by rw [bs_len, Nat.mul_one]) hn (bs_one m) (by unfold maxLen; omega) (by omega) hbase
      (fun v' w' h1 h2 _ => h v' w' (OB.push h1 rfl) h2)

end Go.Proofs.YtibgippchdmdlaaGreat

/-
Put of a value, the program's and the reference's: where it is right, and where it is wrong.
-/
namespace Go.Proofs.YtibgippchdmdlaaGreat
open Go.RowKit

theorem err_zero {ty n x y : Int} {s : ByteArray} {ver : Int} (h : errV ty n x y s ver = 0) : (ver = 1 ∨ ver = 2) ∧ rightV ty n x y s = 0 := by
  unfold errV at h
  by_cases hv : ver = 1 ∨ ver = 2
  · rw [if_pos hv] at h; exact ⟨hv, h⟩
  · rw [if_neg hv] at h; cases h
theorem putL_len {ty n : Int} {x y : Nat} {s : ByteArray} {ver : Int} (h : errV ty n x y s ver = 0) (hn : -9223372036854775808 ≤ n ∧ n < 9223372036854775808) : (putL ty n x y s ver).length ≤ 3000 := by
  obtain ⟨hv, hr⟩ := err_zero h
  have hs := (right_zero hr).2.2.1
  have fx := floatL_len (x := x) (ver := ver)
  have fy := floatL_len (x := y) (ver := ver)
  have fx2 := floatL_len (x := x) (ver := 2)
  have fy2 := floatL_len (x := y) (ver := 2)
  have h1 := sevens_len10 (zig_lt n hn)
  have h2 := sevens_len10 (x := s.size) (by omega)
  have h3 := strL_len s
  unfold putL complexL
  (repeat' split) <;> (try simp only [List.length_append, List.length_cons, List.length_nil, wordL_len]) <;> omega

theorem vput_ok (v : Value) (l : List Int) (ty n : Int) (x y : Nat) (s : ByteArray) (ver : Int) (w : World) (h : errV ty n x y s ver = 0) (hl : Sl w v 1 (l.map bcell)) (hlen : l.length ≤ 800000) (hn : -9223372036854775808 ≤ n ∧ n < 9223372036854775808) (hx : x < 2 ^ 64) (hy : y < 2 ^ 64) (hs : s.size ≤ 9223372036854775807) :
    Calls Tryz.prog 175 #[v, .agg #[.int .u8 ty, .int .i64 n, .complex .f64 x y, .string s], .int .u8 ver] w fun e w' => ∃ v', e = .returned (.tuple #[v', .int .i64 0]) ∧ OB w' w.heap.size v' (l ++ putL ty n x y s ver) ∧ Ext w w' := by
  refine (vput_any v l ty n x y s ver w hl hlen hn hx hy hs).mono ?_
  rintro e w' ⟨v', rfl, h1, h2, h3⟩
  exact ⟨v', by rw [h], h1 h, h3⟩
theorem vput_bad (v : Value) (l : List Int) (ty n : Int) (x y : Nat) (s : ByteArray) (ver : Int) (w : World) (h : errV ty n x y s ver ≠ 0) (hl : Sl w v 1 (l.map bcell)) (hlen : l.length ≤ 800000) (hn : -9223372036854775808 ≤ n ∧ n < 9223372036854775808) (hx : x < 2 ^ 64) (hy : y < 2 ^ 64) (hs : s.size ≤ 9223372036854775807) :
    Calls Tryz.prog 175 #[v, .agg #[.int .u8 ty, .int .i64 n, .complex .f64 x y, .string s], .int .u8 ver] w fun e w' => e = .returned (.tuple #[.slice none 0 0, .int .i64 (errV ty n x y s ver)]) ∧ Ext w w' := by
  refine (vput_any v l ty n x y s ver w hl hlen hn hx hy hs).mono ?_
  rintro e w' ⟨v', rfl, h1, h2, h3⟩
  exact ⟨by rw [h2 h], h3⟩
theorem rput_ok (ty n : Int) (x y : Nat) (s : ByteArray) (ver : Int) (w : World) (h : errV ty n x y s ver = 0) (hn : -9223372036854775808 ≤ n ∧ n < 9223372036854775808) (hx : x < 2 ^ 64) (hy : y < 2 ^ 64) (hs : s.size ≤ 9223372036854775807) :
    Calls Tryz.prog 149 #[.agg #[.int .u8 ty, .int .i64 n, .int .u64 x, .int .u64 y, .string s], .int .u8 ver] w fun e w' => ∃ v', e = .returned (.tuple #[v', .int .i64 0]) ∧ OB w' w.heap.size v' (putL ty n x y s ver) ∧ Ext w w' := by
  refine (rput_any ty n x y s ver w hn hx hy hs).mono ?_
  rintro e w' ⟨v', rfl, h1, h2, h3⟩
  exact ⟨v', by rw [h], h1 h, h3⟩
theorem rput_bad (ty n : Int) (x y : Nat) (s : ByteArray) (ver : Int) (w : World) (h : errV ty n x y s ver ≠ 0) (hn : -9223372036854775808 ≤ n ∧ n < 9223372036854775808) (hx : x < 2 ^ 64) (hy : y < 2 ^ 64) (hs : s.size ≤ 9223372036854775807) :
    Calls Tryz.prog 149 #[.agg #[.int .u8 ty, .int .i64 n, .int .u64 x, .int .u64 y, .string s], .int .u8 ver] w fun e w' => e = .returned (.tuple #[.slice none 0 0, .int .i64 (errV ty n x y s ver)]) ∧ Ext w w' := by
  refine (rput_any ty n x y s ver w hn hx hy hs).mono ?_
  rintro e w' ⟨v', rfl, h1, h2, h3⟩
  exact ⟨by rw [h2 h], h3⟩

end Go.Proofs.YtibgippchdmdlaaGreat

/-
Equality of two values of the document.
-/
namespace Go.Proofs.YtibgippchdmdlaaGreat
open Go.RowKit

theorem toList_inj2 {s t : ByteArray} (h : s.toList = t.toList) : s = t := by
  have := str_beq s t
  rw [h, beq_self_eq_true] at this
  exact of_decide_eq_true this.symm
set_option maxRecDepth 20000 in
theorem eq_val2 (ty n : Int) (x y : Nat) (s : ByteArray) (w : World) :
    (binOp .eql 168 (.agg #[.int .u8 ty, .int .i64 n, .int .u64 x, .int .u64 y, .string s]) (.agg #[.int .u8 ty, .int .i64 n, .int .u64 x, .int .u64 y, .string s])).run Tryz.prog w = .ok (.bool true) w := by
  simp [go_sem]

theorem toList_inj' {s t : ByteArray} (h : s.toList = t.toList) : s = t := by
  have := str_beq s t
  rw [h, beq_self_eq_true] at this
  exact of_decide_eq_true this.symm
set_option maxRecDepth 20000 in
theorem eq_val (ty n : Int) (x y : Nat) (s : ByteArray) (ty' n' : Int) (x' y' : Nat) (s' : ByteArray) (w : World) :
    (binOp .eql 168 (.agg #[.int .u8 ty, .int .i64 n, .int .u64 x, .int .u64 y, .string s]) (.agg #[.int .u8 ty', .int .i64 n', .int .u64 x', .int .u64 y', .string s'])).run Tryz.prog w = .ok (.bool (sameB ty n x y s ty' n' x' y' s')) w := by
  by_cases h1 : ty = ty' <;> by_cases h2 : n = n' <;> by_cases h3 : x = x' <;> by_cases h4 : y = y' <;> by_cases h5 : s = s' <;> simp [go_sem, sameB, h1, h2, h3, h4, h5]
  all_goals first
    | (intro h; exact absurd (toList_inj' h) h5)
    | omega
    | (intros; omega)
    | (intros; intro h; exact absurd (toList_inj' h) h5)


end Go.Proofs.YtibgippchdmdlaaGreat

/-
What is put are bytes; two values of one type are the same just if their bytes are.
-/
namespace Go.Proofs.YtibgippchdmdlaaGreat
open Go.RowKit

theorem isB_sevens : ∀ (k x : Nat), x ≤ k → isB (sevens x) := by
  intro k
  induction k using Nat.strongRecOn with
  | _ k ih =>
    intro x hx b hb
    by_cases h : x < 128
    · rw [sevens_lt h] at hb; simp at hb; omega
    · rw [sevens_ge h] at hb
      rcases List.mem_cons.1 hb with rfl | hb
      · omega
      · exact ih (x / 128) (by omega) _ (Nat.le_refl _) b hb
theorem isB_float (x : Nat) (ver : Int) : isB (floatL x ver) := by
  unfold floatL; split
  · exact isB_word _
  · exact isB_sevens _ _ (Nat.le_refl _)
theorem isB_mark (x y : Nat) : isB [markOf x y] := by
  intro b hb
  simp only [List.mem_singleton] at hb
  subst hb; unfold markOf; split <;> split <;> omega
theorem isB_if {p : Prop} [Decidable p] {l : List Int} (h : isB l) : isB (if p then [] else l) := by split; exact isB.nil; exact h
theorem isB_complex (x y : Nat) (ver : Int) : isB (complexL x y ver) := by
  by_cases h : ver = 2
  · unfold complexL; rw [if_pos h]
    exact isB.append (isB.append (isB_mark _ _) (isB_if (isB_float _ _))) (isB_if (isB_float _ _))
  · unfold complexL; rw [if_neg h]
    exact isB.append (isB_float _ _) (isB_float _ _)
theorem isB_putL {ty n : Int} {x y : Nat} {s : ByteArray} {ver : Int} (h : rightV ty n x y s = 0) : isB (putL ty n x y s ver) := by
  have hz := right_zero h
  unfold putL
  (repeat' split)
  · intro b hb
    simp only [List.mem_singleton] at hb
    subst hb
    rcases hz.2.2.2.1 (by assumption) with h1 | h1 <;> omega
  · exact isB_word _
  · exact isB_sevens _ _ (Nat.le_refl _)
  · exact isB_float _ _
  · exact isB_complex _ _ _
  · exact isB.append (isB_sevens _ _ (Nat.le_refl _)) (isB_strL _)
theorem strOf_inj {l m : List Int} (hl : isB l) (hm : isB m) (h : strOfNums l = strOfNums m) : l = m := by
  rw [← strL_strOf hl, ← strL_strOf hm, h]
theorem str_cmp {l m : List Int} (hl : isB l) (hm : isB m) : ((strOfNums l).toList == (strOfNums m).toList) = decide (l = m) := by
  rw [str_beq]
  exact decide_eq_decide.2 ⟨strOf_inj hl hm, fun h => by rw [h]⟩

theorem put_same {ty na nb : Int} {xa ya xb yb : Nat} {sa sb : ByteArray} {ver : Int} (hv : ver = 1 ∨ ver = 2) (ha : rightV ty na xa ya sa = 0) (hb : rightV ty nb xb yb sb = 0)
    (hna : -9223372036854775808 ≤ na ∧ na < 9223372036854775808) (hxa : xa < 2 ^ 64) (hya : ya < 2 ^ 64) (hnb : -9223372036854775808 ≤ nb ∧ nb < 9223372036854775808) (hxb : xb < 2 ^ 64) (hyb : yb < 2 ^ 64) :
    decide (putL ty na xa ya sa ver = putL ty nb xb yb sb ver) = sameB ty na xa ya sa ty nb xb yb sb := by
  unfold sameB
  refine decide_eq_decide.2 ⟨fun h => ?_, ?_⟩
  · have := put_inj (a := ⟨ty, na, xa, ya, sa⟩) (b := ⟨ty, nb, xb, yb, sb⟩) hv ha hb ⟨hna, hxa, hya⟩ ⟨hnb, hxb, hyb⟩ rfl h
    simp only [V.mk.injEq] at this
    exact ⟨rfl, this.2⟩
  · rintro ⟨-, rfl, rfl, rfl, rfl⟩; rfl

end Go.Proofs.YtibgippchdmdlaaGreat
