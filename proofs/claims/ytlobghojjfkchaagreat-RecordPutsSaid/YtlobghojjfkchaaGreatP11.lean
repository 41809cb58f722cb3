/-
Maps of bits in plain words: the number that bits are, its bytes, and back.
-/
import Derived.Lib.ConvBytes
import Derived.Deep.AppendLies
import Derived.Laws.AppendOwnNone
import Derived.Test.YtlobghojjfkchaaGreatP10
namespace Go.Proofs.YtlobghojjfkchaaGreat
open Go.RowKit

/-- The number whose bits are given, the least first. -/
def bitsN : List Bool → Nat
  | [] => 0
  | b :: l => b.toNat + 2 * bitsN l
def mapSize (n : Nat) : Nat := (n + 7) / 8
def mapL (l : List Bool) : List Int := (List.range (mapSize l.length)).map fun i => ((bitsN l / 256 ^ i % 256 : Nat) : Int)
def bitAt (v k : Nat) : Bool := decide (v / 2 ^ k % 2 = 1)
def unbits (v n : Nat) : List Bool := (List.range n).map (bitAt v)
/-- The things of a map; an error's number. -/
def unmapL (b : List Int) (n : Nat) : List Bool × Int := if ofBytes b / 2 ^ n > 0 then ([], 3) else (unbits (ofBytes b) n, 0)

theorem bitsN_lt : ∀ l : List Bool, bitsN l < 2 ^ l.length
  | [] => by simp [bitsN]
  | b :: l => by
    have := bitsN_lt l
    rw [bitsN, List.length_cons, Nat.pow_succ]
    cases b <;> simp <;> omega
theorem bitsN_snoc : ∀ (l : List Bool) (b : Bool), bitsN (l ++ [b]) = bitsN l + b.toNat * 2 ^ l.length
  | [], b => by simp [bitsN]
  | a :: l, b => by
    rw [List.cons_append, bitsN, bitsN_snoc l b, bitsN, List.length_cons, Nat.pow_succ, Nat.mul_add, ← Nat.add_assoc]
    congr 1
    rw [Nat.mul_comm 2, Nat.mul_assoc]
theorem mapL_len (l : List Bool) : (mapL l).length = mapSize l.length := by simp [mapL]
/-- The map while it is made: of the first k. -/
def mapTo (l : List Bool) (k : Nat) : List Int := (List.range (mapSize l.length)).map fun i => ((bitsN (l.take k) / 256 ^ i % 256 : Nat) : Int)
theorem mapTo_len (l : List Bool) (k : Nat) : (mapTo l k).length = mapSize l.length := by simp [mapTo]
theorem mapTo_zero (l : List Bool) : mapTo l 0 = List.replicate (mapSize l.length) 0 := by
  unfold mapTo
  rw [List.take_zero]
  apply List.ext_getElem
  · simp
  · intro i h1 h2; simp [bitsN]
theorem mapTo_all (l : List Bool) : mapTo l l.length = mapL l := by unfold mapTo mapL; rw [List.take_length]
theorem take_bits {l : List Bool} {k : Nat} (hk : k < l.length) : bitsN (l.take (k + 1)) = bitsN (l.take k) + l[k].toNat * 2 ^ k := by
  rw [List.take_succ_eq_append_getElem hk, bitsN_snoc, List.length_take, Nat.min_eq_left (by omega)]
theorem mapTo_no {l : List Bool} {k : Nat} (hk : k < l.length) (h : l[k] = false) : mapTo l (k + 1) = mapTo l k := by
  unfold mapTo
  rw [take_bits hk, h]; simp
theorem mapTo_get {l : List Bool} {k i : Nat} (h : i < mapSize l.length) : (mapTo l k).getD i 0 = ((bitsN (l.take k) / 256 ^ i % 256 : Nat) : Int) := by
  simp [mapTo, List.getD, h]
theorem bits_at {l : List Bool} {k : Nat} (hk : k ≤ l.length) : bitsN (l.take k) / 256 ^ (k / 8) < 2 ^ (k % 8) := by
  rw [Nat.div_lt_iff_lt_mul (Nat.pow_pos (by decide))]
  have h1 := bitsN_lt (l.take k)
  rw [List.length_take, Nat.min_eq_left hk] at h1
  refine Nat.lt_of_lt_of_le h1 ?_
  rw [show (256 : Nat) = 2 ^ 8 by decide, ← Nat.pow_mul, ← Nat.pow_add]
  exact Nat.pow_le_pow_right (by decide) (by omega)
theorem mapTo_yes {l : List Bool} {k : Nat} (hk : k < l.length) (h : l[k] = true) : mapTo l (k + 1) = (mapTo l k).set (k / 8) ((mapTo l k).getD (k / 8) 0 + ((2 ^ (k % 8) : Nat) : Int)) := by
  have hs : k / 8 < mapSize l.length := by unfold mapSize; omega
  rw [mapTo_get hs]
  have hat := bits_at (l := l) (k := k) (by omega)
  have h8 : 2 ^ (k % 8) ≤ 128 := by
    have : k % 8 ≤ 7 := by omega
    exact Nat.le_trans (Nat.pow_le_pow_right (by decide) this) (by decide)
  apply List.ext_getElem
  · rw [List.length_set, mapTo_len, mapTo_len]
  · intro i h1 h2
    rw [mapTo_len] at h1
    have e : ∀ q, (mapTo l q)[i]'(by rw [mapTo_len]; exact h1) = ((bitsN (l.take q) / 256 ^ i % 256 : Nat) : Int) := by
      intro q; simp [mapTo]
    rw [e, take_bits hk, h]
    simp only [Bool.toNat_true, Nat.one_mul]
    have hp : 2 ^ k = 256 ^ (k / 8) * 2 ^ (k % 8) := by
      rw [show (256 : Nat) = 2 ^ 8 by decide, ← Nat.pow_mul, ← Nat.pow_add]; congr 1; omega
    by_cases hi : i = k / 8
    · subst hi
      rw [List.getElem_set_self, hp, Nat.add_mul_div_left _ _ (Nat.pow_pos (by decide)), Nat.mod_eq_of_lt (by omega), Nat.mod_eq_of_lt (a := bitsN (l.take k) / 256 ^ (k / 8)) (by omega)]
      simp
    · rw [List.getElem_set_ne (Ne.symm hi), e]
      rcases Nat.lt_or_ge i (k / 8) with h3 | h3
      · obtain ⟨d, hd⟩ : ∃ d, k / 8 = i + 1 + d := ⟨k / 8 - i - 1, by omega⟩
        have e2 : 2 ^ k = 256 ^ i * (256 * (256 ^ d * 2 ^ (k % 8))) := by
          rw [hp, hd, Nat.pow_add, Nat.pow_succ]; simp only [Nat.mul_assoc]
        rw [e2, Nat.add_mul_div_left _ _ (Nat.pow_pos (by decide)), Nat.add_mul_mod_self_left]
      · have hlt : bitsN (l.take k) + 2 ^ k < 256 ^ i := by
          have h4 := bitsN_lt (l.take k)
          rw [List.length_take, Nat.min_eq_left (by omega)] at h4
          have h5 : 2 ^ (k + 1) ≤ 256 ^ i := by
            rw [show (256 : Nat) = 2 ^ 8 by decide, ← Nat.pow_mul]
            exact Nat.pow_le_pow_right (by decide) (by omega)
          rw [Nat.pow_succ] at h5
          omega
        rw [Nat.div_eq_of_lt hlt, Nat.div_eq_of_lt (Nat.lt_of_le_of_lt (Nat.le_add_right _ _) hlt)]

end Go.Proofs.YtlobghojjfkchaaGreat

/-
The reference's Word, Uint, Zig, Text, turned, float.
-/
namespace Go.Proofs.YtlobghojjfkchaaGreat
open Go.RowKit

theorem byte_step (x : Int) (k : Nat) : x / 2 ^ (8 * k) / 256 = x / 2 ^ (8 * (k + 1)) := by
  rw [Nat.mul_succ, Int.pow_add, Int.ediv_ediv_of_nonneg (Int.pow_nonneg (by decide))]; rfl

set_option maxRecDepth 100000 in set_option maxHeartbeats 1600000 in
theorem rword_any (x : Int) (w : World) (h0 : 0 ≤ x) (h1 : x < 18446744073709551616) :
    Calls Tryz.prog 178 #[.int .u64 x] w fun e w' => ∃ v', e = .returned v' ∧ OB w' w.heap.size v' (wordL x) ∧ Ext w w' := by
  obtain ⟨i0, hi, hz0, hz1, hz2⟩ := info_parts Tryz.infoU8
  go_enter Tryz.func178, Tryz.ntmps178
  go_wp2
  go_loopw [0, 3, 4] (fun t v i wr => ∃ (k : Nat) (m : Int), k ≤ 8 ∧ t = .int .u64 m ∧ 0 ≤ m ∧ m < 18446744073709551616 ∧ i = .int .i64 k ∧ Hid (m = x / 2 ^ (8 * k)) ∧ Hid (OB wr w.heap.size v ((List.range k).map (byteAt x))) ∧ Hid (Ext w wr)) (fun _ _ i _ => 8 - (intOf i).toNat)
  case atStart => exact ⟨0, x, by omega, rfl, h0, h1, rfl, Hid.mk' (by simp), Hid.mk' (OB.nil _ _), Hid.mk' (Ext.refl _)⟩
  case round =>
    obtain ⟨k, m, hk, rfl, hm0, hm1, rfl, hm, hown, hE⟩ := hrel
    by_cases hlt : k < 8
    · go_wp2_with (at_builtin; refine wpList_append_own _ rfl _ _ 40 rfl w.heap.size 5 i0 _ 1 1 Tryz.underlying40 hi hz0 hz1 hz2 rfl (by decide) _ _ _ rfl (hown.out.alloc _) ⟨_, 0, none⟩ 1 1 (bs [m % 256]) rfl rfl ?c1 ?c2 ?c3 ?c4 ?c5 ?_)
      case c1 => exact cells_one _ _
      case c2 => exact bs_one _
      case c3 => unfold maxLen; simp; omega
      case c4 => simp; omega
      case c5 => have := hE.out.size; simp; omega
      intro v' w2 hown' hgrow _
      have hE2 := OB.grown (hE.out.alloc _) (hown.out.alloc _) hgrow
      have HO := Hid.mk' (OB.push hown' (by simp))
      have HE2 := Hid.mk' hE2
      clear hown' hgrow hE2
      go_wp2
      go_roundw
      case rel => exact ⟨k + 1, m / 256, by omega, rfl, by omega, by omega, by go_num, Hid.mk' (by rw [hm.out]; exact byte_step x k), Hid.mk' (by rw [List.range_succ, List.map_append]; have h := HO.out; rw [hm.out] at h; exact h), HE2⟩
      case measure => simp [intOf]; omega
    · have hkk : k = 8 := by omega
      subst hkk
      go_wp2
      go_ret
      exact ⟨_, rfl, hown.out, hE.out⟩

set_option maxRecDepth 100000 in set_option maxHeartbeats 1600000 in
theorem ruint_any (x : Nat) (w : World) (hx : x < 2 ^ 64) :
    Calls Tryz.prog 64 #[.int .u64 x] w fun e w' => ∃ v', e = .returned v' ∧ OB w' w.heap.size v' (sevens x) ∧ Ext w w' := by
  obtain ⟨i0, hi, hz0, hz1, hz2⟩ := info_parts Tryz.infoU8
  have HX := Hid.mk' (sevens_len10 hx)
  go_enter Tryz.func64, Tryz.ntmps64
  go_wp2
  go_loopw [0, 3] (fun t v wr => ∃ (m : Nat) (l : List Int), t = .int .u64 m ∧ m < 2 ^ 64 ∧ Hid (l ++ sevens m = sevens x) ∧ Hid (OB wr w.heap.size v l) ∧ Hid (Ext w wr)) (fun t _ _ => (intOf t).toNat)
  case atStart => exact ⟨x, [], rfl, hx, Hid.mk' rfl, Hid.mk' (OB.nil _ _), Hid.mk' (Ext.refl _)⟩
  case round =>
    obtain ⟨m, l, rfl, hm, hs, ho, hE⟩ := hrel
    have hll : l.length ≤ 10 := by
      have := congrArg List.length hs.out
      have := HX.out
      simp only [List.length_append] at *
      omega
    by_cases hlt : m < 128
    · go_wp2_with (at_builtin; refine wpList_append_own _ rfl _ _ 40 rfl w.heap.size 5 i0 _ 1 1 Tryz.underlying40 hi hz0 hz1 hz2 rfl (by decide) _ _ _ rfl (ho.out.alloc _) ⟨_, 0, none⟩ 1 1 (bs [(m : Int)]) rfl rfl ?d1 ?d2 ?d3 ?d4 ?d5 ?_)
      case d1 => exact cells_one _ _
      case d2 => exact bs_one _
      case d3 => unfold maxLen; omega
      case d4 => omega
      case d5 => have := hE.out.size; simp; omega
      intro v' w2 hown' hgrow _
      have hE2 := OB.grown (hE.out.alloc _) (ho.out.alloc _) hgrow
      have HO := Hid.mk' (OB.push hown' (by simp))
      have HE2 := Hid.mk' hE2
      clear hown' hgrow hE2
      go_wp2
      go_ret
      exact ⟨_, rfl, by rw [← hs.out, sevens_lt hlt]; exact HO.out, HE2.out⟩
    · go_wp2_with (at_builtin; refine wpList_append_own _ rfl _ _ 40 rfl w.heap.size 5 i0 _ 1 1 Tryz.underlying40 hi hz0 hz1 hz2 rfl (by decide) _ _ _ rfl (ho.out.alloc _) ⟨_, 0, none⟩ 1 1 (bs [(m : Int) % 128 + 128]) rfl rfl ?c1 ?c2 ?c3 ?c4 ?c5 ?_)
      case c1 => exact cells_one _ _
      case c2 => exact bs_one _
      case c3 => unfold maxLen; omega
      case c4 => omega
      case c5 => have := hE.out.size; simp; omega
      intro v' w2 hown' hgrow _
      have hE2 := OB.grown (hE.out.alloc _) (ho.out.alloc _) hgrow
      have HO := Hid.mk' (OB.push hown' (by simp))
      have HE2 := Hid.mk' hE2
      clear hown' hgrow hE2
      have E3 : Hid (((m : Int) % 128 + 128) = ((m % 128 + 128 : Nat) : Int)) := Hid.mk' (by omega)
      go_wp2
      go_roundw
      case rel => exact ⟨m / 128, l ++ [((m % 128 + 128 : Nat) : Int)], by go_num, by omega, Hid.mk' (by rw [← hs.out, sevens_ge hlt, List.append_assoc, List.singleton_append]), Hid.mk' (by rw [← E3.out]; exact HO.out), HE2⟩
      case measure => simp [intOf]; omega

set_option maxRecDepth 100000 in set_option maxHeartbeats 1600000 in
theorem rzig_any (n : Int) (w : World) (hn : -9223372036854775808 ≤ n ∧ n < 9223372036854775808) :
    Calls Tryz.prog 179 #[.int .i64 n] w fun e w' => e = .returned (.int .u64 (zig n)) ∧ w = w' := by
  obtain ⟨hn1, hn2⟩ := hn
  by_cases h : n < 0
  · have HZ : Hid ((zig n : Int) = 2 * (-(n + 1)) + 1) := Hid.mk' (by unfold zig; rw [if_pos h]; omega)
    have hp : 0 ≤ -(n + 1) := by omega
    go_enter Tryz.func179, Tryz.ntmps179
    go_wp2
    go_ret
    exact ⟨ret_int (by rw [HZ.out]), rfl⟩
  · have HZ : Hid ((zig n : Int) = 2 * n) := Hid.mk' (by unfold zig; rw [if_neg h]; omega)
    have hp : 0 ≤ n := by omega
    go_enter Tryz.func179, Tryz.ntmps179
    go_wp2
    go_ret
    exact ⟨ret_int (by rw [HZ.out]), rfl⟩

end Go.Proofs.YtlobghojjfkchaaGreat

/-
The reference's turned, float, Text, Put.
-/
namespace Go.Proofs.YtlobghojjfkchaaGreat
open Go.RowKit

def rv (x : Nat) : Nat → Nat
  | 0 => 0
  | k + 1 => 256 * rv x k + x / 256 ^ k % 256
theorem rv_8 (x : Nat) : rv x 8 = rev x := by simp [rv, rev]
theorem rv_lt (x : Nat) : ∀ k, k < 8 → rv x k < 72057594037927936 := by
  intro k hk
  have h : k = 0 ∨ k = 1 ∨ k = 2 ∨ k = 3 ∨ k = 4 ∨ k = 5 ∨ k = 6 ∨ k = 7 := by omega
  rcases h with rfl | rfl | rfl | rfl | rfl | rfl | rfl | rfl <;> simp [rv] <;> omega
theorem word_get (x : Nat) {k : Nat} (hk : k < 8) : (wordL (x : Int)).getD k 0 = ((x / 256 ^ k % 256 : Nat) : Int) := by
  have h : ((2 : Int) ^ (8 * k)) = ((256 ^ k : Nat) : Int) := by rw [show (256 : Nat) = 2 ^ 8 from rfl, ← Nat.pow_mul, Int.natCast_pow]; rfl
  simp only [wordL, byteAt, List.getD, List.getElem?_map, List.getElem?_range hk, Option.map_some, Option.getD_some, h, Int.natCast_emod, Int.natCast_ediv]
  rfl

set_option maxRecDepth 100000 in set_option maxHeartbeats 1600000 in
theorem rturned_any (x : Nat) (w : World) (hx : x < 2 ^ 64) :
    Calls Tryz.prog 209 #[.int .u64 x] w fun e w' => e = .returned (.int .u64 (rev x)) ∧ Ext w w' := by
  go_enter Tryz.func209, Tryz.ntmps209
  go_wp2_with (go_at_call 178; refine (rword_any x _ (by omega) (by omega)).mono ?_; rintro e w1 ⟨v1, rfl, ho1, hb1⟩; have HO1 := Hid.mk' ho1; have HE1 := Hid.mk' hb1; clear ho1 hb1)
  obtain ⟨a, cap, hv, hs⟩ := HO1.out.sl
  subst hv
  have hn : ((wordL (x : Int)).map bcell).length = 8 := by rw [List.length_map, wordL_len]
  rw [hn]
  rcases hs with h0 | ⟨b, o, rfl, hb, hc⟩
  · rw [h0] at hn; cases hn
  have HC : Hid (∀ k, k < 8 → w1.cell? ⟨b, o + k, none⟩ = some (.int .u8 ((x / 256 ^ k % 256 : Nat) : Int))) := Hid.mk' (fun k hk => by
    have := hc k (by rw [hn]; exact hk) 0 (by omega)
    rw [Nat.mul_one, Nat.add_zero] at this
    rw [this, ← word_get x hk]
    simp [bcell, List.getD, List.getElem?_map, List.getElem?_eq_getElem (show k < (wordL (x : Int)).length by rw [wordL_len]; exact hk)])
  clear hc hn HO1
  go_wp2
  go_loop [4, 5] (fun t i => ∃ k : Nat, k ≤ 8 ∧ i = .int .i64 k ∧ t = .int .u64 (rv x k)) (fun _ i => 8 - (intOf i).toNat)
  case atStart => exact ⟨0, by omega, rfl, rfl⟩
  case round =>
    obtain ⟨k, hk, rfl, rfl⟩ := hrel
    by_cases hlt : k < 8
    · have h1 := rv_lt x k hlt
      have h2 := HC.out k hlt
      obtain ⟨q, hq⟩ : ∃ q : Nat, q = x / 256 ^ k % 256 := ⟨_, rfl⟩
      rw [← hq] at h2
      have h3 : q < 256 := by omega
      have HN : Hid (((rv x (k + 1) : Nat) : Int) = 256 * (rv x k : Int) + (q : Int)) := Hid.mk' (by rw [rv, ← hq]; push_cast; rfl)
      clear hq
      go_wp2
      go_round
      case rel => exact ⟨k + 1, by omega, by go_num, by rw [HN.out]⟩
      case measure => simp [intOf]; omega
    · have hkk : k = 8 := by omega
      subst hkk
      have HN : Hid (((rv x 8 : Nat) : Int) = rev x) := Hid.mk' (by rw [rv_8])
      go_wp2
      go_ret
      exact ⟨ret_int HN.out, HE1.out⟩

set_option maxRecDepth 100000 in set_option maxHeartbeats 1600000 in
theorem rfloat_any (x : Nat) (ver : Int) (w : World) (hx : x < 2 ^ 64) :
    Calls Tryz.prog 180 #[.int .u64 x, .int .u8 ver] w fun e w' => ∃ v', e = .returned v' ∧ OB w' w.heap.size v' (floatL x ver) ∧ Ext w w' := by
  have HX := Hid.mk' hx
  clear hx
  by_cases h1 : ver = 1
  · subst h1
    go_enter Tryz.func180, Tryz.ntmps180
    go_wp2_with (go_at_call 178; refine (rword_any x _ (by omega) (by have := HX.out; omega)).mono ?_; rintro e w1 ⟨v1, rfl, ho1, hb1⟩; have HO1 := Hid.mk' ho1; have HE1 := Hid.mk' hb1; clear ho1 hb1)
    go_ret
    exact ⟨_, rfl, by unfold floatL; rw [if_pos rfl]; exact HO1.out, HE1.out⟩
  · go_enter Tryz.func180, Tryz.ntmps180
    go_wp2_with (first
      | (go_at_call 209; refine (rturned_any x _ HX.out).mono ?_; rintro e w0 ⟨rfl, hb0⟩; have HE0 := Hid.mk' hb0; clear hb0)
      | (go_at_call 64; refine (ruint_any (rev x) _ rev_lt).mono ?_; rintro e w1 ⟨v1, rfl, ho1, hb1⟩; have HO1 := Hid.mk' ho1; have HE1 := Hid.mk' hb1; clear ho1 hb1))
    go_ret
    exact ⟨_, rfl, by unfold floatL; rw [if_neg h1]; exact HO1.out.base HE0.out.size, HE0.out.trans HE1.out⟩

theorem ext_bytesWorld (w : World) (e : TypeId) (s : ByteArray) : Ext w (Go.Lib.bytesWorld w e s) :=
  ⟨rfl, rfl, rfl, by rw [Go.Lib.bytesWorld_size]; omega, fun k hk => Go.Lib.bytesWorld_at_old w e s k hk⟩
theorem news_bytesWorld (w : World) (e : TypeId) (s : ByteArray) : ∀ j u, (bs (strL s))[j]? = some u → (Go.Lib.bytesWorld w e s).cell? ((⟨w.heap.size, 0, none⟩ : Addr).add j) = some u := by
  refine bytes_news fun i hi => ?_
  rw [strL_len] at hi
  rw [Nat.zero_add, Go.Lib.bytesWorld_cell w e s i hi]
  have h : i < s.data.toList.length := by simpa using hi
  simp [strL, List.getD, List.getElem?_map, List.getElem?_eq_getElem h]
theorem conv_str (w : World) (s : ByteArray) : (convert 9 40 (.string s)).run Tryz.prog w = .ok (.slice (some ⟨w.heap.size, 0, none⟩) s.size (grownCap w s.size 0 5)) (Go.Lib.bytesWorld w 5 s) :=
  Go.Lib.run_convert_string_bytes w _ _ _ s Tryz.underlying9 Tryz.underlying40 Tryz.underlying5

set_option maxRecDepth 100000 in set_option maxHeartbeats 1600000 in
theorem rtext_any (s : ByteArray) (w : World) (hs : s.size ≤ 1000000) :
    Calls Tryz.prog 181 #[.string s] w fun e w' => ∃ v', e = .returned v' ∧ OB w' w.heap.size v' (sevens s.size ++ strL s) ∧ Ext w w' := by
  obtain ⟨i0, hi, hz0, hz1, hz2⟩ := info_parts Tryz.infoU8
  have HX := Hid.mk' (sevens_len10 (x := s.size) (by omega))
  have hcv := fun w => conv_str w s
  go_enter Tryz.func181, Tryz.ntmps181
  go_wp2_with (first
    | (go_at_call 64; refine (ruint_any s.size _ (by omega)).mono ?_; rintro e w1 ⟨v1, rfl, ho1, hb1⟩; have HO1 := Hid.mk' ho1; have HE1 := Hid.mk' hb1; clear ho1 hb1)
    | (at_builtin; refine wpList_append_own _ rfl _ _ 40 rfl w.heap.size 5 i0 _ 1 1 Tryz.underlying40 hi hz0 hz1 hz2 rfl (by decide) _ _ _ rfl (HO1.out.ext (ext_bytesWorld w1 5 s)) _ s.size _ (bs (strL s)) rfl (by rw [bs_len, strL_len, Nat.mul_one]) (news_bytesWorld w1 5 s) (bs_one _) ?c3 ?c4 ?c5 ?_))
  case c3 => have := HX.out; unfold maxLen; omega
  case c4 => have := HX.out; omega
  case c5 => exact (HE1.out.trans (ext_bytesWorld w1 5 s)).size
  intro v2 w2 hown hgrow _
  have hE2 := OB.grown (HE1.out.trans (ext_bytesWorld w1 5 s)) (HO1.out.ext (ext_bytesWorld w1 5 s)) hgrow
  have HO := Hid.mk' (OB.push hown (by rw [strL_len]))
  have HE2 := Hid.mk' hE2
  clear hown hgrow hE2
  go_wp2
  go_ret
  exact ⟨_, rfl, HO.out, HE2.out⟩

end Go.Proofs.YtlobghojjfkchaaGreat

/-
The reference's Put of a complex number.
-/
namespace Go.Proofs.YtlobghojjfkchaaGreat
open Go.RowKit

theorem OB.of_blk {w : World} {g : Nat} {l : List Int} {base n : Nat} (h : Blk w g (bs l).toArray 5) (hb : base ≤ g) (hn : n = l.length) (hl : l.length ≤ 1000000) : OB w base (.slice (some ⟨g, 0, none⟩) n n) l := by
  subst hn
  refine ⟨by rw [bs_len, Nat.mul_one], .inr ⟨g, l.length, (bs l).toArray, rfl, hb, h, Nat.le_refl _, by unfold maxLen; omega, by simp [bs], ?_⟩⟩
  rw [Nat.mul_one, List.toList_toArray, ← bs_len l, List.take_length]

/-- A store into what a call owns. -/
theorem OB.stored {w : World} {base g cap n : Nat} {l : List Int} (h : OB w base (.slice (some ⟨g, 0, none⟩) n cap) l) (j : Nat) (x : Int) : OB (w.setCell ⟨g, j, none⟩ (.int .u8 x)) base (.slice (some ⟨g, 0, none⟩) n cap) (l.set j x) := by
  obtain ⟨a, c, hv⟩ := h.shape
  simp only [Value.slice.injEq] at hv
  obtain ⟨_, rfl, _⟩ := hv
  have := (World.ownsRow.stored h j (.int .u8 x)).1
  unfold OB
  rw [List.length_set]
  have e : bs (l.set j x) = (bs l).set j (.int .u8 x) := by simp [bs, List.map_set]
  rw [e]; exact this
theorem OB.form {w : World} {base : Nat} {v : Value} {l : List Int} (h : OB w base v l) (hl : 0 < l.length) : ∃ g cap, v = .slice (some ⟨g, 0, none⟩) l.length cap ∧ base ≤ g ∧ g < w.heap.size ∧ (∀ j, w.frozen? ⟨g, j, none⟩ = false) ∧ (∀ j, j < l.length → w.cell? ⟨g, j, none⟩ = some (.int .u8 (l.getD j 0))) := by
  obtain ⟨g, cap, rfl, hb, hlt⟩ := World.ownsRow.form h hl
  refine ⟨g, cap, rfl, hb, hlt, fun j => World.ownsRow.frozenAt h j, fun j hj => ?_⟩
  rw [World.ownsRow.cellAt h j (by omega)]
  simp [bs, List.getD, List.getElem?_map, List.getElem?_eq_getElem hj]


theorem OB.news {w : World} {base : Nat} {v : Value} {l : List Int} (h : OB w base v l) : ∀ g, v.ownBlock = some g → ∀ j u, (bs l)[j]? = some u → w.cell? ((⟨g, 0, none⟩ : Addr).add j) = some u := fun _ hg => World.ownsRow.cells h hg

theorem sevens_pos (x : Nat) : 0 < (sevens x).length := by
  by_cases h : x < 128
  · rw [sevens_lt h]; simp
  · rw [sevens_ge h]; simp
theorem floatL_pos {x : Nat} {ver : Int} : 0 < (floatL x ver).length := by
  unfold floatL; split
  · rw [wordL_len]; omega
  · exact sevens_pos _
theorem floatL_1 (x : Nat) : (floatL x 1).length = 8 := by unfold floatL; rw [if_pos rfl, wordL_len]

set_option maxRecDepth 100000 in set_option maxHeartbeats 1600000 in
theorem rput41_any (n : Int) (x y : Nat) (s : ByteArray) (w : World) (hx : x < 2 ^ 64) (hy : y < 2 ^ 64)
    (HR : Hid (∀ w, Calls Tryz.prog 177 #[.agg #[.int .u8 4, .int .i64 n, .int .u64 x, .int .u64 y, .string s]] w fun e w' => e = .returned (.int .i64 0) ∧ Ext w w')) :
    Calls Tryz.prog 149 #[.agg #[.int .u8 4, .int .i64 n, .int .u64 x, .int .u64 y, .string s], .int .u8 1] w fun e w' => ∃ v', e = .returned (.tuple #[v', .int .i64 0]) ∧ OB w' w.heap.size v' (complexL x y 1) ∧ Ext w w' := by
  obtain ⟨i0, hi, hz0, hz1, hz2⟩ := info_parts Tryz.infoU8
  have HX := Hid.mk' (And.intro hx hy)
  have HFX := Hid.mk' (fun (z : Nat) (ver : Int) => floatL_len (x := z) (ver := ver))
  clear hx hy
  go_enter Tryz.func149, Tryz.ntmps149
  go_upto_region 17 with (first
    | (go_at_call 177; refine (HR.out _).mono ?_; rintro e w1 ⟨rfl, hb1⟩; have h1 := (Blk.new w #[.int .u8 4, .int .i64 n, .int .u64 x, .int .u64 y, .string s] 168).ext hb1; have hE1 : Ext w w1 := (by exact eX); have k1 := h1.cell; have z1 := h1.lt))
  go_region_held3 (fun w' => Ext (w1) w' ∧ (∀ b o, b < (w1).heap.size → w'.cell? ⟨b, o, none⟩ = (w1).cell? ⟨b, o, none⟩) ∧ (∀ b o, b < (w1).heap.size → w'.frozen? ⟨b, o, none⟩ = (w1).frozen? ⟨b, o, none⟩)) ((exact held_of (by exact eX)))
    (first
      | ((refine step_append_lies _ (by rfl) _ _ 40 (by rfl) w1.heap.size 5 i0 _ 1 1 Tryz.underlying40 hi hz0 hz1 hz2 rfl (by decide) _ _ _ (by rfl) (HO2.out.ext HB3.out) ⟨g3, 0, none⟩ _ cap3 (bs (floatL y 1)) (by rfl) (by rw [bs_len, Nat.mul_one]) (HO3.out.news _ rfl) (bs_one _) floatL_pos (by unfold maxLen; rw [floatL_1, floatL_1]; omega) (by rw [floatL_1, floatL_1]; omega) (HE2.out.trans HB3.out).size _ rfl ?_; intro g4 cap4 w4 hown hgrow hat hlt; have hE4 : Ext w1 w4 := OB.grown (HE2.out.trans HB3.out) (HO2.out.ext HB3.out) hgrow; have HO4 := Hid.mk' hown; clear hown hgrow hat hlt))
      | (go_at_call_of 180 (Value.int IntKind.u64 (x : Int)); refine (rfloat_any x 1 _ HX.out.1).mono ?_; rintro e w2 ⟨v2, rfl, ho2, hb2⟩; have hE2' : Ext w1 w2 := (by exact eX); have HE2 := Hid.mk' hE2'; clear hE2'; have HO2 : Hid (OB w2 w1.heap.size v2 (floatL x 1)) := ho2; clear ho2)
      | (go_at_call_of 180 (Value.int IntKind.u64 (y : Int)); refine (rfloat_any y 1 _ HX.out.2).mono ?_; rintro e w3 ⟨v3, rfl, ho3, hb3⟩; obtain ⟨g3, cap3, rfl, -, hg3, -, -⟩ := OB.form ho3 floatL_pos; have HO3 := Hid.mk' ho3; have hE3' : Ext w2 w3 := (by exact eX); have HB3 := Hid.mk' hE3'; clear hE3'; clear ho3))
  go_wp2
  go_ret2
  refine ⟨_, rfl, ?_, hE1.trans hE4⟩
  unfold complexL
  rw [if_neg (by decide)]
  exact OB.base (OB.push HO4.out rfl) hE1.size

set_option maxRecDepth 100000 in set_option maxHeartbeats 1600000 in
theorem rput400_any (n : Int) (s : ByteArray) (w : World)
    (HR : Hid (∀ w, Calls Tryz.prog 177 #[.agg #[.int .u8 4, .int .i64 n, .int .u64 (0 : Nat), .int .u64 (0 : Nat), .string s]] w fun e w' => e = .returned (.int .i64 0) ∧ Ext w w')) :
    Calls Tryz.prog 149 #[.agg #[.int .u8 4, .int .i64 n, .int .u64 (0 : Nat), .int .u64 (0 : Nat), .string s], .int .u8 2] w fun e w' => ∃ v', e = .returned (.tuple #[v', .int .i64 0]) ∧ OB w' w.heap.size v' (complexL 0 0 2) ∧ Ext w w' := by
  go_enter Tryz.func149, Tryz.ntmps149
  go_wp2_with (first
    | (go_at_call 177; refine (HR.out _).mono ?_; rintro e w1 ⟨rfl, hb1⟩; have h1 := (Blk.new w #[.int .u8 4, .int .i64 n, .int .u64 (0 : Nat), .int .u64 (0 : Nat), .string s] 168).ext hb1; have hE1 : Ext w w1 := (by exact eX); have k1 := h1.cell; have z1 := h1.lt))
  go_ret2
  refine ⟨_, rfl, ?_, hE1.alloc _⟩
  exact OB.of_blk (l := [0]) (Blk.new _ _ _) hE1.size rfl (by decide)

set_option maxRecDepth 100000 in set_option maxHeartbeats 1600000 in
theorem rput401_any (n : Int) (y : Nat) (s : ByteArray) (w : World) (hy0 : 1 ≤ y) (hy : y < 2 ^ 64)
    (HR : Hid (∀ w, Calls Tryz.prog 177 #[.agg #[.int .u8 4, .int .i64 n, .int .u64 (0 : Nat), .int .u64 y, .string s]] w fun e w' => e = .returned (.int .i64 0) ∧ Ext w w')) :
    Calls Tryz.prog 149 #[.agg #[.int .u8 4, .int .i64 n, .int .u64 (0 : Nat), .int .u64 y, .string s], .int .u8 2] w fun e w' => ∃ v', e = .returned (.tuple #[v', .int .i64 0]) ∧ OB w' w.heap.size v' (complexL 0 y 2) ∧ Ext w w' := by
  obtain ⟨i0, hi, hz0, hz1, hz2⟩ := info_parts Tryz.infoU8
  have HX := Hid.mk' (And.intro hy hy)
  have HFX := Hid.mk' (fun (z : Nat) (ver : Int) => floatL_len (x := z) (ver := ver))
  clear hy
  have HOUT : Hid (complexL 0 y 2 = [2] ++ floatL y 2) := Hid.mk' (by unfold complexL markOf; simp [show ¬ y = 0 by omega])
  go_enter Tryz.func149, Tryz.ntmps149
  go_wp2_with (first
    | (go_at_call 177; refine (HR.out _).mono ?_; rintro e w1 ⟨rfl, hb1⟩; have h1 := (Blk.new w #[.int .u8 4, .int .i64 n, .int .u64 (0 : Nat), .int .u64 y, .string s] 168).ext hb1; have hE1 : Ext w w1 := (by exact eX); have k1 := h1.cell; have z1 := h1.lt)
    | (go_at_call_of 180 (Value.int IntKind.u64 (y : Int)); refine (rfloat_any y 2 _ HX.out.2).mono ?_; rintro e w2 ⟨v2, rfl, ho2, hb2⟩; have HB2 := Hid.mk' hb2; obtain ⟨g2, cap2, rfl, -, hg2, -, -⟩ := OB.form ho2 floatL_pos; have HO2 := Hid.mk' ho2; clear ho2 hb2)
    | (at_builtin; refine wpList_append_own _ rfl _ _ 40 rfl w.heap.size 5 i0 _ 1 1 Tryz.underlying40 hi hz0 hz1 hz2 rfl (by decide) _ 1 _ rfl ((OB.of_blk (l := [2]) (base := w.heap.size) (Blk.new w1 _ _) hE1.size rfl (by decide)).ext HB2.out) ⟨g2, 0, none⟩ _ cap2 (bs (floatL y 2)) rfl (by rw [bs_len, Nat.mul_one]) (HO2.out.news _ rfl) (bs_one _) ?c3 ?c4 ?c5 ?_))
  case c3 => have := HFX.out y 2; unfold maxLen; omega
  case c4 => have := HFX.out y 2; omega
  case c5 => exact ((hE1.alloc _).trans HB2.out).size
  intro v3 w3 hown hgrow _
  have hE3 := OB.grown ((hE1.alloc _).trans HB2.out) ((OB.of_blk (l := [2]) (base := w.heap.size) (Blk.new w1 _ _) hE1.size rfl (by decide)).ext HB2.out) hgrow
  have HO3 := Hid.mk' (OB.push hown rfl)
  have HE3 := Hid.mk' hE3
  clear hown hgrow hE3
  go_wp2
  go_ret2
  exact ⟨_, rfl, by rw [HOUT.out]; exact HO3.out, HE3.out⟩

set_option maxRecDepth 100000 in set_option maxHeartbeats 1600000 in
theorem rput410_any (n : Int) (x : Nat) (s : ByteArray) (w : World) (hx0 : 1 ≤ x) (hx : x < 2 ^ 64)
    (HR : Hid (∀ w, Calls Tryz.prog 177 #[.agg #[.int .u8 4, .int .i64 n, .int .u64 x, .int .u64 (0 : Nat), .string s]] w fun e w' => e = .returned (.int .i64 0) ∧ Ext w w')) :
    Calls Tryz.prog 149 #[.agg #[.int .u8 4, .int .i64 n, .int .u64 x, .int .u64 (0 : Nat), .string s], .int .u8 2] w fun e w' => ∃ v', e = .returned (.tuple #[v', .int .i64 0]) ∧ OB w' w.heap.size v' (complexL x 0 2) ∧ Ext w w' := by
  obtain ⟨i0, hi, hz0, hz1, hz2⟩ := info_parts Tryz.infoU8
  have HX := Hid.mk' (And.intro hx hx)
  have HFX := Hid.mk' (fun (z : Nat) (ver : Int) => floatL_len (x := z) (ver := ver))
  clear hx
  have HOUT : Hid (complexL x 0 2 = [1] ++ floatL x 2) := Hid.mk' (by unfold complexL markOf; simp [show ¬ x = 0 by omega])
  go_enter Tryz.func149, Tryz.ntmps149
  go_wp2_with (first
    | (go_at_call 177; refine (HR.out _).mono ?_; rintro e w1 ⟨rfl, hb1⟩; have h1 := (Blk.new w #[.int .u8 4, .int .i64 n, .int .u64 x, .int .u64 (0 : Nat), .string s] 168).ext hb1; have hE1 : Ext w w1 := (by exact eX); have k1 := h1.cell; have z1 := h1.lt)
    | (go_at_call_of 180 (Value.int IntKind.u64 (x : Int)); refine (rfloat_any x 2 _ HX.out.1).mono ?_; rintro e w2 ⟨v2, rfl, ho2, hb2⟩; have HB2 := Hid.mk' hb2; obtain ⟨g2, cap2, rfl, -, hg2, -, -⟩ := OB.form ho2 floatL_pos; have HO2 := Hid.mk' ho2; clear ho2 hb2)
    | (at_builtin; refine wpList_append_own _ rfl _ _ 40 rfl w.heap.size 5 i0 _ 1 1 Tryz.underlying40 hi hz0 hz1 hz2 rfl (by decide) _ 1 _ rfl ((OB.of_blk (l := [1]) (base := w.heap.size) (Blk.new w1 _ _) hE1.size rfl (by decide)).ext HB2.out) ⟨g2, 0, none⟩ _ cap2 (bs (floatL x 2)) rfl (by rw [bs_len, Nat.mul_one]) (HO2.out.news _ rfl) (bs_one _) ?c3 ?c4 ?c5 ?_))
  case c3 => have := HFX.out x 2; unfold maxLen; omega
  case c4 => have := HFX.out x 2; omega
  case c5 => exact ((hE1.alloc _).trans HB2.out).size
  intro v3 w3 hown hgrow _
  have hE3 : Ext w1 w3 := OB.grown (W := w1) (((Ext.refl w1).alloc _).trans HB2.out) ((OB.of_blk (l := [1]) (base := w1.heap.size) (Blk.new w1 _ _) (Nat.le_refl _) rfl (by decide)).ext HB2.out) hgrow
  have HO3 := Hid.mk' (OB.push hown rfl)
  have HE3 := Hid.mk' hE3
  have h3 := h1.ext hE3
  have k3 := h3.cell
  have z3 := h3.lt
  clear hown hgrow hE3
  go_wp2
  go_ret2
  exact ⟨_, rfl, by rw [HOUT.out]; exact HO3.out, hE1.trans HE3.out⟩

set_option maxRecDepth 100000 in set_option maxHeartbeats 1600000 in
theorem rput411_any (n : Int) (x y : Nat) (s : ByteArray) (w : World) (hx0 : 1 ≤ x) (hy0 : 1 ≤ y) (hx : x < 2 ^ 64) (hy : y < 2 ^ 64)
    (HR : Hid (∀ w, Calls Tryz.prog 177 #[.agg #[.int .u8 4, .int .i64 n, .int .u64 x, .int .u64 y, .string s]] w fun e w' => e = .returned (.int .i64 0) ∧ Ext w w')) :
    Calls Tryz.prog 149 #[.agg #[.int .u8 4, .int .i64 n, .int .u64 x, .int .u64 y, .string s], .int .u8 2] w fun e w' => ∃ v', e = .returned (.tuple #[v', .int .i64 0]) ∧ OB w' w.heap.size v' (complexL x y 2) ∧ Ext w w' := by
  obtain ⟨i0, hi, hz0, hz1, hz2⟩ := info_parts Tryz.infoU8
  have HX := Hid.mk' (And.intro hx hy)
  have HFX := Hid.mk' (fun (z : Nat) (ver : Int) => floatL_len (x := z) (ver := ver))
  clear hx hy
  have HOUT : Hid (complexL x y 2 = ([3] ++ floatL x 2) ++ floatL y 2) := Hid.mk' (by unfold complexL markOf; simp [show ¬ x = 0 by omega, show ¬ y = 0 by omega])
  go_enter Tryz.func149, Tryz.ntmps149
  go_wp2_with (first
    | (go_at_call 177; refine (HR.out _).mono ?_; rintro e w1 ⟨rfl, hb1⟩; have h1 := (Blk.new w #[.int .u8 4, .int .i64 n, .int .u64 x, .int .u64 y, .string s] 168).ext hb1; have hE1 : Ext w w1 := (by exact eX); have k1 := h1.cell; have z1 := h1.lt)
    | (go_at_call_of 180 (Value.int IntKind.u64 (x : Int)); refine (rfloat_any x 2 _ HX.out.1).mono ?_; rintro e w2 ⟨v2, rfl, ho2, hb2⟩; have HB2 := Hid.mk' hb2; obtain ⟨g2, cap2, rfl, -, hg2, -, -⟩ := OB.form ho2 floatL_pos; have HO2 := Hid.mk' ho2; clear ho2 hb2)
    | (at_builtin; refine wpList_append_own _ rfl _ _ 40 rfl w1.heap.size 5 i0 _ 1 1 Tryz.underlying40 hi hz0 hz1 hz2 rfl (by decide) _ 1 _ rfl ((OB.of_blk (l := [1]) (base := w1.heap.size) (Blk.new w1 _ _) (Nat.le_refl _) rfl (by decide)).ext HB2.out) ⟨g2, 0, none⟩ _ cap2 (bs (floatL x 2)) rfl (by rw [bs_len, Nat.mul_one]) (HO2.out.news _ rfl) (bs_one _) ?c3 ?c4 ?c5 ?_))
  case c3 => have := HFX.out x 2; unfold maxLen; omega
  case c4 => have := HFX.out x 2; omega
  case c5 => exact (((Ext.refl w1).alloc _).trans HB2.out).size
  intro v3 w3 hown hgrow _
  have hE3 : Ext w1 w3 := OB.grown (W := w1) (((Ext.refl w1).alloc _).trans HB2.out) ((OB.of_blk (l := [1]) (base := w1.heap.size) (Blk.new w1 _ _) (Nat.le_refl _) rfl (by decide)).ext HB2.out) hgrow
  have hob := OB.push hown rfl
  obtain ⟨g4, cap4, rfl, hb4, hl4, f4, c4⟩ := OB.form hob (by simp)
  have c40 : w3.cell? ⟨g4, 0, none⟩ = some (.int .u8 1) := c4 0 (by simp)
  have f40 := f4 0
  have HC4 := Hid.mk' c4
  have HF4 := Hid.mk' f4
  have hl3 : 1 ≤ ([1] ++ floatL x 2).length := by simp
  have HL3 : Hid (([1] ++ floatL x 2).length ≤ 20) := Hid.mk' (by have := HFX.out x 2; simp; omega)
  have h3 := h1.ext hE3
  have k3 := h3.cell
  have z3 := h3.lt
  have hne : w.heap.size ≠ g4 := by have := h1.lt; omega
  have hOS := OB.stored hob 0 3
  have hES : Ext w1 (w3.setCell ⟨g4, 0, none⟩ (.int .u8 3)) := hE3.setCell hb4 _
  have h5 := h1.ext hES
  have k5 := h5.cell
  have HE3 := Hid.mk' hE3
  have HOS := Hid.mk' hOS
  have HES := Hid.mk' hES
  clear hown hgrow hE3 hob c4 f4 hOS hES
  go_wp2_with (first
    | (go_at_call_of 180 (Value.int IntKind.u64 (y : Int)); refine (rfloat_any y 2 _ HX.out.2).mono ?_; rintro e w6 ⟨v6, rfl, ho6, hb6⟩; have HB6 := Hid.mk' hb6; obtain ⟨g6, cap6, rfl, -, hg6, -, -⟩ := OB.form ho6 floatL_pos; have HO6 := Hid.mk' ho6; clear ho6 hb6)
    | (at_builtin; refine wpList_append_own _ rfl _ _ 40 rfl w1.heap.size 5 i0 _ 1 1 Tryz.underlying40 hi hz0 hz1 hz2 rfl (by decide) _ _ _ rfl (HOS.out.ext HB6.out) ⟨g6, 0, none⟩ _ cap6 (bs (floatL y 2)) rfl (by rw [bs_len, Nat.mul_one]) (HO6.out.news _ rfl) (bs_one _) ?d3 ?d4 ?d5 ?_))
  case d3 => have := HFX.out y 2; have := HL3.out; unfold maxLen; simp at *; omega
  case d4 => have := HFX.out y 2; have := HL3.out; simp at *; omega
  case d5 => exact (HES.out.trans HB6.out).size
  intro v7 w7 hown hgrow _
  have hE7 : Ext w1 w7 := OB.grown (HES.out.trans HB6.out) (HOS.out.ext HB6.out) hgrow
  have HO7 := Hid.mk' (OB.push hown (by simp))
  have HE7 := Hid.mk' hE7
  clear hown hgrow hE7
  go_wp2
  go_ret2
  refine ⟨_, rfl, ?_, hE1.trans HE7.out⟩
  rw [HOUT.out]
  exact OB.base HO7.out hE1.size

theorem rput4_any (n : Int) (x y : Nat) (s : ByteArray) (ver : Int) (w : World) (hx : x < 2 ^ 64) (hy : y < 2 ^ 64) (hv : ver = 1 ∨ ver = 2)
    (HR : Hid (∀ w, Calls Tryz.prog 177 #[.agg #[.int .u8 4, .int .i64 n, .int .u64 x, .int .u64 y, .string s]] w fun e w' => e = .returned (.int .i64 0) ∧ Ext w w')) :
    Calls Tryz.prog 149 #[.agg #[.int .u8 4, .int .i64 n, .int .u64 x, .int .u64 y, .string s], .int .u8 ver] w fun e w' => ∃ v', e = .returned (.tuple #[v', .int .i64 0]) ∧ OB w' w.heap.size v' (complexL x y ver) ∧ Ext w w' := by
  rcases hv with rfl | rfl
  · exact rput41_any n x y s w hx hy HR
  · by_cases hx0 : x = 0 <;> by_cases hy0 : y = 0
    · subst hx0; subst hy0; exact rput400_any n s w HR
    · subst hx0; exact rput401_any n y s w (by omega) hy HR
    · subst hy0; exact rput410_any n x s w (by omega) hx HR
    · exact rput411_any n x y s w (by omega) (by omega) hx hy HR

end Go.Proofs.YtlobghojjfkchaaGreat

/-
The reference's Put of a value.
-/
namespace Go.Proofs.YtlobghojjfkchaaGreat
open Go.RowKit

def RPutPost (ty n : Int) (x y : Nat) (s : ByteArray) (ver : Int) (w : World) (e : Ending) (w' : World) : Prop :=
  ∃ v', e = .returned (.tuple #[v', .int .i64 (errV ty n x y s ver)]) ∧ (errV ty n x y s ver = 0 → OB w' w.heap.size v' (putL ty n x y s ver)) ∧ (errV ty n x y s ver ≠ 0 → v' = .slice none 0 0) ∧ Ext w w'

set_option maxRecDepth 100000 in set_option maxHeartbeats 1600000 in
theorem rput_any (ty n : Int) (x y : Nat) (s : ByteArray) (ver : Int) (w : World) (hn : -9223372036854775808 ≤ n ∧ n < 9223372036854775808) (hx : x < 2 ^ 64) (hy : y < 2 ^ 64) (hs : s.size ≤ 9223372036854775807) :
    Calls Tryz.prog 149 #[.agg #[.int .u8 ty, .int .i64 n, .int .u64 x, .int .u64 y, .string s], .int .u8 ver] w (RPutPost ty n x y s ver w) := by
  obtain ⟨i0, hi, hz0, hz1, hz2⟩ := info_parts Tryz.infoU8
  have HX := Hid.mk' (And.intro hx hy)
  have HN := Hid.mk' hn
  have HR := Hid.mk' (fun w => rright_any ty n x y s w hs)
  clear hx hy hs hn
  by_cases hv : ver = 1 ∨ ver = 2
  · have he : errV ty n x y s ver = rightV ty n x y s := by unfold errV; rw [if_pos hv]
    obtain ⟨R, hR⟩ : ∃ R, R = rightV ty n x y s := ⟨_, rfl⟩
    rw [← hR] at HR he
    have HE := Hid.mk' he
    have HRR := Hid.mk' hR
    clear he hR
    by_cases h0 : R = 0
    · subst h0
      have hz := right_zero HRR.out.symm
      have ht : ty = 1 ∨ ty = 2 ∨ ty = 3 ∨ ty = 4 ∨ ty = 5 ∨ ty = 6 := by omega
      have hs2 : s.size ≤ 2048 := hz.2.2.1
      have HZ := Hid.mk' hz
      clear hz
      have HVV := Hid.mk' hv
      clear hv
      rcases ht with rfl | rfl | rfl | rfl | rfl | rfl
      · rcases HZ.out.2.2.2.1 rfl with hn01 | hn01
        all_goals
          subst hn01
          rcases HVV.out with rfl | rfl
          all_goals
            go_enter Tryz.func149, Tryz.ntmps149
            go_wp2_with (go_at_call 177; refine (HR.out _).mono ?_; rintro e w1 ⟨rfl, hb1⟩; have h1 := (Blk.new w #[.int .u8 1, .int .i64 _, .int .u64 x, .int .u64 y, .string s] 168).ext hb1; have hE1 : Ext w w1 := (by exact eX); have k1 := h1.cell; have z1 := h1.lt)
            go_ret2
            exact ⟨_, by rw [HE.out]; rfl, fun _ => OB.of_blk (l := [_]) (Blk.new _ _ _) hE1.size rfl (by decide), fun h => absurd HE.out h, hE1.alloc _⟩
      · rcases HVV.out with rfl | rfl
        · have hw : 0 ≤ n % 18446744073709551616 ∧ n % 18446744073709551616 < 18446744073709551616 := by omega
          have HW := Hid.mk' hw
          clear hw
          go_enter Tryz.func149, Tryz.ntmps149
          go_wp2_with (first
            | (go_at_call 177; refine (HR.out _).mono ?_; rintro e w1 ⟨rfl, hb1⟩; have h1 := (Blk.new w #[.int .u8 2, .int .i64 n, .int .u64 x, .int .u64 y, .string s] 168).ext hb1; have hE1 : Ext w w1 := (by exact eX); have k1 := h1.cell; have z1 := h1.lt)
            | (go_at_call 178; rw [u64_wrap]; refine (rword_any _ _ HW.out.1 HW.out.2).mono ?_; rintro e w2 ⟨v2, rfl, ho2, hb2⟩; have HO2 := Hid.mk' (ho2.base hE1.size); have HE2 := Hid.mk' (hE1.trans hb2); clear ho2 hb2))
          go_ret2
          exact ⟨_, by rw [HE.out]; rfl, fun _ => HO2.out, fun h => absurd HE.out h, HE2.out⟩
        · have HZL := Hid.mk' (zig_lt n HN.out)
          go_enter Tryz.func149, Tryz.ntmps149
          go_wp2_with (first
            | (go_at_call 177; refine (HR.out _).mono ?_; rintro e w1 ⟨rfl, hb1⟩; have h1 := (Blk.new w #[.int .u8 2, .int .i64 n, .int .u64 x, .int .u64 y, .string s] 168).ext hb1; have hE1 : Ext w w1 := (by exact eX); have k1 := h1.cell; have z1 := h1.lt)
            | (go_at_call 179; refine (rzig_any n _ HN.out).mono ?_; rintro e w2 ⟨rfl, rfl⟩)
            | (go_at_call 64; refine (ruint_any _ _ HZL.out).mono ?_; rintro e w2 ⟨v2, rfl, ho2, hb2⟩; have HO2 := Hid.mk' (ho2.base hE1.size); have HE2 := Hid.mk' (hE1.trans hb2); clear ho2 hb2))
          go_ret2
          exact ⟨_, by rw [HE.out]; rfl, fun _ => HO2.out, fun h => absurd HE.out h, HE2.out⟩
      · rcases HVV.out with rfl | rfl
        all_goals
          go_enter Tryz.func149, Tryz.ntmps149
          go_wp2_with (first
            | (go_at_call 177; refine (HR.out _).mono ?_; rintro e w1 ⟨rfl, hb1⟩; have h1 := (Blk.new w #[.int .u8 3, .int .i64 n, .int .u64 x, .int .u64 y, .string s] 168).ext hb1; have hE1 : Ext w w1 := (by exact eX); have k1 := h1.cell; have z1 := h1.lt)
            | (go_at_call 180; refine (rfloat_any x _ _ HX.out.1).mono ?_; rintro e w2 ⟨v2, rfl, ho2, hb2⟩; have HO2 := Hid.mk' (ho2.base hE1.size); have HE2 := Hid.mk' (hE1.trans hb2); clear ho2 hb2))
          go_ret2
          exact ⟨_, by rw [HE.out]; rfl, fun _ => HO2.out, fun h => absurd HE.out h, HE2.out⟩
      · refine (rput4_any n x y s ver w HX.out.1 HX.out.2 HVV.out HR).mono ?_
        rintro e w1 ⟨v', he, ho, hb⟩
        exact ⟨v', by rw [HE.out]; exact he, fun _ => ho, fun h => absurd HE.out h, hb⟩
      all_goals
        rcases HVV.out with rfl | rfl
        all_goals
          go_enter Tryz.func149, Tryz.ntmps149
          go_wp2_with (first
            | (go_at_call 177; refine (HR.out _).mono ?_; rintro e w1 ⟨rfl, hb1⟩; have h1 := (Blk.new w #[.int .u8 _, .int .i64 n, .int .u64 x, .int .u64 y, .string s] 168).ext hb1; have hE1 : Ext w w1 := (by exact eX); have k1 := h1.cell; have z1 := h1.lt)
            | (go_at_call 181; refine (rtext_any s _ (by omega)).mono ?_; rintro e w2 ⟨v2, rfl, ho2, hb2⟩; have HO2 := Hid.mk' (ho2.base hE1.size); have HE2 := Hid.mk' (hE1.trans hb2); clear ho2 hb2))
          go_ret2
          exact ⟨_, by rw [HE.out]; rfl, fun _ => HO2.out, fun h => absurd HE.out h, HE2.out⟩
    · rcases hv with rfl | rfl
      all_goals
        go_enter Tryz.func149, Tryz.ntmps149
        go_wp2_with (first
          | (go_at_call 177; refine (HR.out _).mono ?_; rintro e w1 ⟨rfl, hb1⟩))
        go_ret2
        exact ⟨_, by rw [HE.out]; rfl, fun h => absurd (HE.out.symm.trans h) h0, fun _ => rfl, by exact eX⟩
  · have he : errV ty n x y s ver = 18 := by unfold errV; rw [if_neg hv]
    have HE := Hid.mk' he
    have hv1 : (ver != 1) = true := by simp; omega
    have hv2 : (ver != 2) = true := by simp; omega
    clear he
    go_enter Tryz.func149, Tryz.ntmps149
    go_wp2
    go_ret2
    exact ⟨_, by rw [HE.out]; rfl, fun h => absurd (HE.out.symm.trans h) (by decide), fun _ => rfl, by exact eX⟩

end Go.Proofs.YtlobghojjfkchaaGreat

/-
Appending bytes of any source to what a call owns.
-/
namespace Go.Proofs.YtlobghojjfkchaaGreat
open Go.RowKit

/-- Bytes that append can read. -/
def NB (w : World) (u : Value) (m : List Int) : Prop := (u = .slice none 0 0 ∧ m = []) ∨ ∃ ad cap, u = .slice (some ad) m.length cap ∧ ∀ j z, (bs m)[j]? = some z → w.cell? (ad.add j) = some z
theorem NB.nil (w : World) : NB w (.slice none 0 0) [] := .inl ⟨rfl, rfl⟩
theorem NB.of_own {w : World} {base : Nat} {v : Value} {m : List Int} (h : OB w base v m) : NB w v m := by
  rcases h.2 with ⟨rfl, h0⟩ | ⟨g, cap, cur, rfl, _⟩
  · exact .inl ⟨rfl, List.length_eq_zero_iff.1 h0⟩
  · exact .inr ⟨_, cap, rfl, World.ownsRow.cells h rfl⟩
theorem NB.ext {w w1 : World} {v : Value} {m : List Int} (h : NB w v m) (hsz : ∀ ad len cap, v = .slice (some ad) len cap → 0 < len → ad.block < w.heap.size) (he : Ext w w1) : NB w1 v m := by
  rcases h with h | ⟨ad, cap, rfl, h⟩
  · exact .inl h
  · refine .inr ⟨ad, cap, rfl, fun j z hj => ?_⟩
    have hl : 0 < m.length := by
      rcases Nat.eq_zero_or_pos m.length with h0 | h0
      · have : m = [] := List.length_eq_zero_iff.1 h0
        subst this; simp [bs] at hj
      · exact h0
    have hb := hsz ad _ cap rfl hl
    rw [← h j z hj]
    exact Below.cell he (by unfold Addr.add; split <;> exact hb)

set_option maxRecDepth 20000 in
theorem app_bytes {w : World} {ops : Array Oper} {rest : List Oper} {o : Oper} {a : Act} {Q : Exit → Act → World → Prop} (hgd : o.guard = none) (s x : Operand)
    (ho : o.op = .call { callee := .builtin .append, args := #[s, x], argTypes := #[40, 40] })
    (base : Nat) (v : Value) (l : List Int) (hs : a.eval s = v) (hown : OB w base v l) (u : Value) (m : List Int) (hx : a.eval x = u) (hu : NB w u m)
    (h63 : l.length + m.length ≤ 1000000000) (hbase : base ≤ w.heap.size)
    (h : ∀ v' w', OB w' base v' (l ++ m) → w.grownBy w' v.ownBlock → wpList Tryz.prog ops Q rest (a.put o.dst v') w') : wpList Tryz.prog ops Q (o :: rest) a w := by
  obtain ⟨i0, hi, hz0, hz1, hz2⟩ := info_parts Tryz.infoU8
  rcases hu with ⟨rfl, rfl⟩ | ⟨ad, cap, rfl, hn⟩
  · refine Go.wpList_append_own_none hgd s x 40 ho base 5 i0 1 Tryz.underlying40 hi v _ _ hs hown hx ?_
    exact h v w (by rw [List.append_nil]; exact hown) ⟨rfl, rfl, rfl, Nat.le_refl _, fun _ _ _ => rfl⟩
  · exact wpList_append_own w hgd s x 40 ho base 5 i0 _ 1 1 Tryz.underlying40 hi hz0 hz1 hz2 rfl (by decide) v _ _ hs hown ad m.length cap (bs m) hx (by rw [bs_len, Nat.mul_one]) hn (bs_one m) (by unfold maxLen; omega) (by omega) hbase
      (fun v' w' h1 h2 _ => h v' w' (OB.push h1 rfl) h2)

end Go.Proofs.YtlobghojjfkchaaGreat

/-
Put of a value, the program's and the reference's: where it is right, and where it is wrong.
-/
namespace Go.Proofs.YtlobghojjfkchaaGreat
open Go.RowKit

theorem err_zero {ty n x y : Int} {s : ByteArray} {ver : Int} (h : errV ty n x y s ver = 0) : (ver = 1 ∨ ver = 2) ∧ rightV ty n x y s = 0 := by
  unfold errV at h
  by_cases hv : ver = 1 ∨ ver = 2
  · rw [if_pos hv] at h; exact ⟨hv, h⟩
  · rw [if_neg hv] at h; cases h
theorem putL_len {ty n : Int} {x y : Nat} {s : ByteArray} {ver : Int} (h : errV ty n x y s ver = 0) (hn : -9223372036854775808 ≤ n ∧ n < 9223372036854775808) : (putL ty n x y s ver).length ≤ 3000 := by
  obtain ⟨hv, hr⟩ := err_zero h
  have hs := (right_zero hr).2.2.1
  have fx := floatL_len (x := x) (ver := ver)
  have fy := floatL_len (x := y) (ver := ver)
  have fx2 := floatL_len (x := x) (ver := 2)
  have fy2 := floatL_len (x := y) (ver := 2)
  have h1 := sevens_len10 (zig_lt n hn)
  have h2 := sevens_len10 (x := s.size) (by omega)
  have h3 := strL_len s
  unfold putL complexL
  (repeat' split) <;> (try simp only [List.length_append, List.length_cons, List.length_nil, wordL_len]) <;> omega

theorem vput_ok (v : Value) (l : List Int) (ty n : Int) (x y : Nat) (s : ByteArray) (ver : Int) (w : World) (h : errV ty n x y s ver = 0) (hl : Sl w v 1 (l.map bcell)) (hlen : l.length ≤ 800000) (hn : -9223372036854775808 ≤ n ∧ n < 9223372036854775808) (hx : x < 2 ^ 64) (hy : y < 2 ^ 64) (hs : s.size ≤ 9223372036854775807) :
    Calls Tryz.prog 175 #[v, .agg #[.int .u8 ty, .int .i64 n, .complex .f64 x y, .string s], .int .u8 ver] w fun e w' => ∃ v', e = .returned (.tuple #[v', .int .i64 0]) ∧ OB w' w.heap.size v' (l ++ putL ty n x y s ver) ∧ Ext w w' := by
  refine (vput_any v l ty n x y s ver w hl hlen hn hx hy hs).mono ?_
  rintro e w' ⟨v', rfl, h1, h2, h3⟩
  exact ⟨v', by rw [h], h1 h, h3⟩
theorem rput_ok (ty n : Int) (x y : Nat) (s : ByteArray) (ver : Int) (w : World) (h : errV ty n x y s ver = 0) (hn : -9223372036854775808 ≤ n ∧ n < 9223372036854775808) (hx : x < 2 ^ 64) (hy : y < 2 ^ 64) (hs : s.size ≤ 9223372036854775807) :
    Calls Tryz.prog 149 #[.agg #[.int .u8 ty, .int .i64 n, .int .u64 x, .int .u64 y, .string s], .int .u8 ver] w fun e w' => ∃ v', e = .returned (.tuple #[v', .int .i64 0]) ∧ OB w' w.heap.size v' (putL ty n x y s ver) ∧ Ext w w' := by
  refine (rput_any ty n x y s ver w hn hx hy hs).mono ?_
  rintro e w' ⟨v', rfl, h1, h2, h3⟩
  exact ⟨v', by rw [h], h1 h, h3⟩
end Go.Proofs.YtlobghojjfkchaaGreat

/-
What is put are bytes; two values of one type are the same just if their bytes are.
-/
namespace Go.Proofs.YtlobghojjfkchaaGreat
open Go.RowKit

end Go.Proofs.YtlobghojjfkchaaGreat

/-
Readers, in plain words: runs of sevens; from no other bytes; cut anywhere too short.
-/
namespace Go.Proofs.YtlobghojjfkchaaGreat
open Go.RowKit

/-! From no other bytes. -/
/-! Cut anywhere. -/
end Go.Proofs.YtlobghojjfkchaaGreat
