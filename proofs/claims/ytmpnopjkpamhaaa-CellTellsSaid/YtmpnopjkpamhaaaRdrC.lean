/-
The program's reader: the digits of a number.
-/
import Derived.Test.YtmpnopjkpamhaaaRdrB
namespace Go.Proofs.Ytmpnopjkpamhaaa
open Go.RowKit

/-- The value grows by sevens: or is plus. -/
theorem or_seven (v x n : Nat) (hv : v < 128 ^ n) : v ||| x * 128 ^ n = v + x * 128 ^ n := by
  have e : x * 128 ^ n = 2 ^ (7 * n) * x := by rw [Nat.pow_mul, Nat.mul_comm]
  have hv' : v < 2 ^ (7 * n) := by rw [Nat.pow_mul]; exact hv
  rw [e, or_apart (7 * n) x v hv', Nat.add_comm]



theorem pow_le9 {n : Nat} (h : n ≤ 9) : 128 ^ n ≤ 9223372036854775808 := by
  have h1 : 128 ^ n ≤ 128 ^ 9 := Nat.pow_le_pow_right (by decide) h
  have h2 : (128 : Nat) ^ 9 = 9223372036854775808 := by decide
  omega
theorem dig_room {q n : Nat} (hn : n ≤ 9) (hq : q < 128) (h9 : n = 9 → q ≤ 1) : q * 128 ^ n < 18446744073709551616 := by
  by_cases h : n = 9
  · subst h; have := h9 rfl; have h2 : (128 : Nat) ^ 9 = 9223372036854775808 := by decide
    rw [h2]; omega
  · have h1 : 128 ^ n ≤ 128 ^ 8 := Nat.pow_le_pow_right (by decide) (by omega)
    have h2 : (128 : Nat) ^ 8 = 72057594037927936 := by decide
    have h3 : q * 128 ^ n ≤ 127 * 128 ^ n := Nat.mul_le_mul_right _ (by omega)
    omega
theorem dig_or {v n : Nat} {x : Int} (hv : v < 128 ^ n) (hn : n ≤ 9) (hx : 0 ≤ x) (_h9 : ¬ (n = 9 ∧ 1 < x)) (hx1 : x < 256) (hx2 : n = 9 → x ≤ 1) :
    bits BinOp.or IntKind.u64 (v : Int) (IntKind.u64.wrap (x % 128 * 2 ^ (7 * n))) = ((v + (x % 128).toNat * 128 ^ n : Nat) : Int) := by
  have hp := pow_le9 hn
  have e : x % 128 * 2 ^ (7 * n) = (((x % 128).toNat * 128 ^ n : Nat) : Int) := by
    have h1 : ((2 : Int) ^ (7 * n)) = ((128 ^ n : Nat) : Int) := by rw [show (128 : Nat) = 2 ^ 7 from rfl, ← Nat.pow_mul, Int.natCast_pow]; rfl
    rw [h1, Int.natCast_mul]; congr 1; omega
  have hr := dig_room (q := (x % 128).toNat) hn (by omega) (fun h => by have := hx2 h; omega)
  rw [e, u64_wrap', Int.emod_eq_of_lt (by omega) (by omega), bits_or_u64_nat _ _ (by omega) (by omega), or_seven _ _ _ hv]
theorem dig_lt {v q n : Nat} (hv : v < 128 ^ n) (hq : q < 128) : v + q * 128 ^ n < 128 ^ (n + 1) := by
  have h3 : q * 128 ^ n ≤ 127 * 128 ^ n := Nat.mul_le_mul_right _ (by omega)
  rw [Nat.pow_succ]; omega

def DigJ0 (g : Nat) (l : List Int) (w : World) (a' : Act) (w' : World) : Prop := w' = w ∧ ∃ (n v : Nat) (u5 u6 u7 u8 u9 u10 u11 u12 u13 u14 u15 u16 u17 u18 u19 u20 u21 u22 u23 u24 u25 u26 u27 u28 u29 u30 u31 u32 u33 u34 u35 u36 u37 u38 u39 u40 u41 u42 u43 u44 u45 : Value), a' = { tmps := #[.pointer (some ⟨g, 0, none⟩), undef, .int .u64 v, .int .i64 n, .int .i64 0, u5, u6, u7, u8, u9, u10, u11, u12, u13, u14, u15, u16, u17, u18, u19, u20, u21, u22, u23, u24, u25, u26, u27, u28, u29, u30, u31, u32, u33, u34, u35, u36, u37, u38, u39, u40, u41, u42, u43, u44, u45], defers := [] } ∧ n ≤ l.length ∧ n ≤ 9 ∧ v < 128 ^ n ∧ Hid (digs (l.drop n) n v = digs l 0 0)
def DigJ1 (g : Nat) (l : List Int) (w : World) (a' : Act) (w' : World) : Prop := w' = w ∧ ∃ (u2 u3 u4 u5 u6 u7 u8 u9 u10 u11 u12 u13 u14 u15 u16 u17 u18 u19 u20 u21 u22 u23 u24 u25 u26 u27 u28 u29 u30 u31 u32 u33 u34 u35 u36 u37 u38 u39 u40 u41 u42 u43 u44 u45 : Value), a' = { tmps := #[.pointer (some ⟨g, 0, none⟩), undef, u2, u3, u4, u5, u6, u7, u8, u9, u10, u11, u12, u13, u14, u15, u16, u17, u18, u19, u20, u21, u22, u23, u24, u25, u26, u27, u28, u29, u30, u31, u32, u33, u34, u35, u36, u37, u38, u39, u40, u41, u42, u43, u44, u45], defers := [] } ∧ Hid (digs l 0 0 = (0, 0, 5))
def DigM (a' : Act) (_ : World) : Nat := 20 - (intOf (a'.tmps.getD 3 undef)).toNat

set_option maxRecDepth 100000 in set_option maxHeartbeats 1600000 in
theorem digits_any (g d : Nat) (st : RS) (w : World) (h : RD w g d st) :
    Calls Try.prog 93 #[.pointer (some ⟨g, 0, none⟩)] w fun e w' => e = .returned (.tuple #[.int .u64 (digs st.l 0 0).1, .int .i64 (digs st.l 0 0).2.1, .int .i64 (digs st.l 0 0).2.2]) ∧ w = w' := by
  obtain ⟨v, hb, ⟨a, cap, rfl, hlc, hnc, hs⟩, hok, hlen⟩ := h
  have hc := hb.cell
  clear hb
  have HC : Hid (∀ k, k < st.l.length → ∃ b o, a = some ⟨b, o, none⟩ ∧ w.cell? ⟨b, o + k, none⟩ = some (.int .u8 (st.l.getD k 0))) := Hid.mk' (fun k hk => by
    rcases hs with h0 | ⟨b, o, ha, hb, hne, hc⟩
    · rw [h0] at hk; simp at hk
    · exact ⟨b, o, ha, hc k hk⟩)
  have HOK := Hid.mk' hok
  clear hs hok hlc hnc
  go_enter Try.func93, Try.ntmps93
  go_wp2
  refine wp_scope_two (DigJ0 g st.l w) (DigJ1 g st.l w) DigM rfl rfl ?first ?pass0 ?pass1
  case first =>
    intro hp
    go_wp2
    go_step3
    rename_i hK
    refine hK _ _ (hp _ _ ?_)
    exact ⟨rfl, 0, 0, _, _, _, _, _, _, _, _, _, _, _, _, _, _, _, _, _, _, _, _, _, _, _, _, _, _, _, _, _, _, _, _, _, _, _, _, _, _, _, _, _, rfl, Nat.zero_le _, by omega, by simp, Hid.mk' rfl⟩
  case pass0 =>
    rintro a' w' ⟨rfl, n, v, u5, u6, u7, u8, u9, u10, u11, u12, u13, u14, u15, u16, u17, u18, u19, u20, u21, u22, u23, u24, u25, u26, u27, u28, u29, u30, u31, u32, u33, u34, u35, u36, u37, u38, u39, u40, u41, u42, u43, u44, u45, rfl, hn, hn9, hv, hd⟩
    by_cases hlt : n < st.l.length
    · obtain ⟨b, o, rfl, hx⟩ := HC.out n hlt
      have hd2 := hd.out
      have e : st.l.drop n = st.l.getD n 0 :: st.l.drop (n + 1) := by
        rw [List.drop_eq_getElem_cons hlt]; simp [List.getD, List.getElem?_eq_getElem hlt]
      rw [e, digs] at hd2
      have hxr : 0 ≤ st.l.getD n 0 ∧ st.l.getD n 0 < 256 := HOK.out.2 _ (by rw [List.getD_eq_getElem?_getD, List.getElem?_eq_getElem hlt]; exact List.getElem_mem hlt)
      clear e
      generalize st.l.getD n 0 = x at *
      obtain ⟨hx0, hx1⟩ := hxr
      have HD := Hid.mk' hd2
      clear hd2 hd
      have HV := Hid.mk' hv
      clear hv
      by_cases h9 : n = 9 ∧ 1 < x
      · have HO : Hid (digs st.l 0 0 = (0, 0, 5)) := by have := HD.out; rw [if_pos h9] at this; exact Hid.mk' this.symm
        obtain ⟨rfl, h9⟩ := h9
        clear HD
        go_wp2
        go_step3
        exact jumps2_one ⟨rfl, _, _, _, _, _, _, _, _, _, _, _, _, _, _, _, _, _, _, _, _, _, _, _, _, _, _, _, _, _, _, _, _, _, _, _, _, _, _, _, _, _, _, _, _, rfl, HO⟩
      · have hd3 := HD.out
        rw [if_neg h9] at hd3
        have HD3 := Hid.mk' hd3
        clear hd3 HD
        by_cases h128 : 128 ≤ x
        · have hn8 : n ≤ 8 := by
            rcases Nat.lt_or_ge n 9 with h3 | h3
            · omega
            · exact absurd ⟨by omega, by omega⟩ h9
          have HB := Hid.mk' (dig_or HV.out hn9 hx0 h9 hx1 (by omega))
          have HL := Hid.mk' (dig_lt (q := (x % 128).toNat) HV.out (by omega))
          have HD4 : Hid (digs (st.l.drop (n + 1)) (n + 1) (v + (x % 128).toNat * 128 ^ n) = digs st.l 0 0) := by have := HD3.out; rw [if_pos h128] at this; exact Hid.mk' this
          clear h9 HD3
          go_wp2
          go_step3
          exact jumps2_zero ⟨⟨rfl, n + 1, v + (x % 128).toNat * 128 ^ n, _, _, _, _, _, _, _, _, _, _, _, _, _, _, _, _, _, _, _, _, _, _, _, _, _, _, _, _, _, _, _, _, _, _, _, _, _, _, _, _, _, by rw [HB.out]; rfl, by omega, by omega, HL.out, HD4⟩, by show 20 - (intOf (.int .i64 ((n : Int) + 1))).toNat < 20 - (intOf (.int .i64 (n : Int))).toNat; simp [intOf]; omega⟩
        · by_cases h0 : 1 ≤ n ∧ x = 0
          · obtain ⟨h0, rfl⟩ := h0
            have HO : Hid (digs st.l 0 0 = (0, 0, 5)) := by have := HD3.out; rw [if_neg (by decide), if_pos ⟨h0, rfl⟩] at this; exact Hid.mk' this.symm
            clear h9 HD3
            have hn1 : (1 : Int) < (n : Int) + 1 := by omega
            go_wp2
            all_goals
              go_step3
              exact jumps2_one ⟨rfl, _, _, _, _, _, _, _, _, _, _, _, _, _, _, _, _, _, _, _, _, _, _, _, _, _, _, _, _, _, _, _, _, _, _, _, _, _, _, _, _, _, _, _, _, rfl, HO⟩
          · have HB := Hid.mk' (dig_or HV.out hn9 hx0 h9 hx1 (by omega))
            have HO : Hid (digs st.l 0 0 = (v + (x % 128).toNat * 128 ^ n, n + 1, 0)) := by have := HD3.out; rw [if_neg h128, if_neg h0] at this; exact Hid.mk' this.symm
            have H9 := Hid.mk' h9
            clear h9 HD3
            by_cases hn0 : n = 0
            · have hn1 : (n : Int) + 1 ≤ 1 := by omega
              clear hn0
              go_wp2
              all_goals
                refine jumps2_ret ?_
                go_ret3
                exact ⟨by rw [HO.out, ← HB.out]; rfl, rfl⟩
            · have hn1 : (1 : Int) < (n : Int) + 1 := by omega
              have hx3 : 0 < x := by omega
              have hx4 : (x == 0) = false := by simp; omega
              by_cases hn8 : n ≤ 8
              · clear hn0 hn9
                go_wp2
                refine jumps2_ret ?_
                go_ret3
                exact ⟨by rw [HO.out, ← HB.out]; rfl, rfl⟩
              · obtain rfl : n = 9 := by omega
                obtain rfl : x = 1 := by have h := H9.out; omega
                have HB2 : Hid (bits BinOp.or IntKind.u64 (v : Int) 9223372036854775808 = ((v + (1 % 128 : Int).toNat * 128 ^ 9 : Nat) : Int)) := Hid.mk' HB.out
                clear HB hn0 hn8 hn9
                go_wp2
                refine jumps2_ret ?_
                go_ret3
                exact ⟨by rw [HO.out, ← HB2.out]; rfl, rfl⟩
    · have hn2 : n = st.l.length := by omega
      have HD : Hid (digs st.l 0 0 = (0, 0, 1)) := Hid.mk' (by rw [← hd.out, hn2, List.drop_length]; rfl)
      clear hd
      subst hn2
      go_wp2
      refine jumps2_ret ?_
      go_ret3
      exact ⟨by rw [HD.out]; rfl, rfl⟩
  case pass1 =>
    rintro a' w' ⟨rfl, u2, u3, u4, u5, u6, u7, u8, u9, u10, u11, u12, u13, u14, u15, u16, u17, u18, u19, u20, u21, u22, u23, u24, u25, u26, u27, u28, u29, u30, u31, u32, u33, u34, u35, u36, u37, u38, u39, u40, u41, u42, u43, u44, u45, rfl, hd⟩
    go_wp2
    refine jumps2_ret ?_
    go_ret3
    exact ⟨by rw [hd.out]; rfl, rfl⟩

end Go.Proofs.Ytmpnopjkpamhaaa
