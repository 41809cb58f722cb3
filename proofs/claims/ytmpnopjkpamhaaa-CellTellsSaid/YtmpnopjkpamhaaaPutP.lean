/-
Putting words and numbers behind bytes that a call owns.
-/
import Derived.Test.YtmpnopjkpamhaaaBytes
import Derived.ScopeJumps
import Derived.WalkMore
namespace Go.Proofs.Ytmpnopjkpamhaaa
open Go.RowKit

theorem OB.push {w : World} {base : Nat} {v : Value} {l m : List Int} {n : Nat} (h : w.ownsRow base 5 1 v n (bs l ++ bs m)) (hn : n = l.length + m.length) : OB w base v (l ++ m) := by
  unfold OB; rw [bs_append, List.length_append, ← hn]; exact h
theorem OB.grown {W w1 w2 : World} (h : Ext W w1) {v : Value} {l : List Int} (ho : OB w1 W.heap.size v l) (hg : w1.grownBy w2 v.ownBlock) : Ext W w2 := Ext.grown h ho hg
theorem cells_one (w : World) (x : Int) : ∀ j u, (bs [x])[j]? = some u → (w.alloc (.cells #[.int .u8 x] 5)).cell? ((⟨w.heap.size, 0, none⟩ : Addr).add j) = some u := cells_new w #[.int .u8 x] _

/-- The eight bytes of a word, the least first. -/
def byteAt (x : Int) (k : Nat) : Int := x / 2 ^ (8 * k) % 256
def wordL (x : Int) : List Int := (List.range 8).map (byteAt x)

set_option maxRecDepth 100000 in set_option maxHeartbeats 1600000 in
theorem putWord_any (W : World) (v : Value) (l : List Int) (x : Int) (w : World) (hE : Ext W w) (ho : OB w W.heap.size v l) (hlen : l.length ≤ 1000000) :
    Calls Try.prog 48 #[v, .int .u64 x] w fun e w' => ∃ v', e = .returned v' ∧ OB w' W.heap.size v' (l ++ wordL x) ∧ Ext W w' := by
  obtain ⟨i0, hi, hz0, hz1, hz2⟩ := info_parts Try.infoU8
  have HE0 := Hid.mk' hE
  have HO0 := Hid.mk' ho
  clear hE ho
  go_enter Try.func48, Try.ntmps48
  go_wp2
  go_loopw [0, 6] (fun v i wr => ∃ k : Nat, k ≤ 8 ∧ i = .int .i64 k ∧ Hid (OB wr W.heap.size v (l ++ (List.range k).map (byteAt x))) ∧ Hid (Ext W wr)) (fun _ i _ => 8 - (intOf i).toNat)
  case atStart => exact ⟨0, by omega, rfl, Hid.mk' (by simpa using HO0.out), HE0⟩
  case round =>
    obtain ⟨k, hk, rfl, hown, hE⟩ := hrel
    by_cases hlt : k < 8
    · go_wp2_with (at_builtin; refine wpList_append_own _ rfl _ _ 29 rfl W.heap.size 5 i0 _ 1 1 Try.underlying29 hi hz0 hz1 hz2 rfl (by decide) _ _ _ rfl (hown.out.alloc _) ⟨_, 0, none⟩ 1 1 (bs [byteAt x k]) rfl rfl ?c1 ?c2 ?c3 ?c4 ?c5 ?_)
      case c1 => exact cells_one _ _
      case c2 => exact bs_one _
      case c3 => unfold maxLen; simp; omega
      case c4 => simp; omega
      case c5 => have := hE.out.size; simp; omega
      intro v' w2 hown' hgrow _
      have hE2 := OB.grown (hE.out.alloc _) (hown.out.alloc _) hgrow
      have HO := Hid.mk' (OB.push hown' (by simp))
      have HE2 := Hid.mk' hE2
      clear hown' hgrow hE2
      go_wp2
      go_roundw
      case rel => exact ⟨k + 1, by omega, by go_num, Hid.mk' (by rw [List.range_succ, List.map_append, ← List.append_assoc]; exact HO.out), HE2⟩
      case measure => simp [intOf]; omega
    · have hkk : k = 8 := by omega
      subst hkk
      go_wp2
      go_ret
      exact ⟨_, rfl, hown.out, hE.out⟩

/-- A number by sevens. -/
def sevens (x : Nat) : List Int := if h : x < 128 then [(x : Int)] else ((x % 128 + 128 : Nat) : Int) :: sevens (x / 128)
termination_by x
decreasing_by omega
theorem sevens_lt {x : Nat} (h : x < 128) : sevens x = [(x : Int)] := by rw [sevens, dif_pos h]
theorem sevens_ge {x : Nat} (h : ¬ x < 128) : sevens x = ((x % 128 + 128 : Nat) : Int) :: sevens (x / 128) := by rw [sevens, dif_neg h]
theorem sevens_len (x : Nat) : ∀ k, x < 128 ^ (k + 1) → (sevens x).length ≤ k + 1 := by
  intro k
  induction k generalizing x with
  | zero => intro h; rw [sevens_lt (by simpa using h)]; simp
  | succ k ih =>
    intro h
    by_cases hx : x < 128
    · rw [sevens_lt hx]; simp
    · rw [sevens_ge hx, List.length_cons]
      have := ih (x / 128) (by rw [Nat.div_lt_iff_lt_mul (by decide)]; rw [Nat.pow_succ] at h; exact h)
      omega
theorem sevens_len10 {x : Nat} (h : x < 2 ^ 64) : (sevens x).length ≤ 10 := sevens_len x 9 (Nat.lt_of_lt_of_le h (by decide))

theorem or128 (m : Nat) : bits BinOp.or IntKind.u8 ((m : Int) % 256) 128 = (m : Int) % 128 + 128 := by
  have h : ∀ r : Nat, r < 256 → bits BinOp.or IntKind.u8 (r : Int) 128 = (r : Int) % 128 + 128 := by decide +kernel
  have := h (m % 256) (Nat.mod_lt _ (by decide))
  rw [show ((m : Int) % 256) = ((m % 256 : Nat) : Int) by omega, this]
  omega

set_option maxRecDepth 100000 in set_option maxHeartbeats 1600000 in
theorem putUint_any (v : Value) (l : List Int) (x : Nat) (w : World) (hl : Sl w v 1 (l.map bcell)) (hx : x < 2 ^ 64) (hlen : l.length ≤ 1000000) :
    Calls Try.prog 29 #[v, .int .u64 x] w fun e w' => ∃ v', e = .returned v' ∧ OB w' w.heap.size v' (l ++ sevens x) ∧ Ext w w' := by
  obtain ⟨i0, hi, hz0, hz1, hz2⟩ := info_parts Try.infoU8
  have HL := Hid.mk' hl
  have HX := Hid.mk' (sevens_len10 hx)
  go_enter Try.func29, Try.ntmps29
  have hor := or128
  go_wp2
  refine wp_scope_jumps 0 (fun a' w' => ∃ (m : Nat) (v' : Value) (ll : List Int) (u6 u7 u8 u9 u10 u11 u12 u13 u14 u15 u16 u17 u18 u19 u20 u21 u22 : Value), a' = { tmps := #[v, .int .u64 m, undef, undef, .slice none 0 0, v', u6, u7, u8, u9, u10, u11, u12, u13, u14, u15, u16, u17, u18, u19, u20, u21, u22], defers := [] } ∧ m < 2 ^ 64 ∧ Hid (ll ++ sevens m = l ++ sevens x) ∧ Hid (OB w' w.heap.size v' ll) ∧ Hid (Ext w w')) (fun a' _ => (intOf (a'.tmps.getD 1 undef)).toNat) rfl ?_ ?_
  · go_wp2_with (go_at_call 26; refine (clone_any v l _ HL.out hlen).mono ?_; rintro e w1 ⟨v1, rfl, ho1, hb1⟩; have HO1 := Hid.mk' ho1; have HE1 := Hid.mk' hb1; clear ho1 hb1)
    go_step3
    go_wp2_with (first
      | (at_builtin; refine wpList_append_own _ rfl _ _ 29 rfl w.heap.size 5 i0 _ 1 1 Try.underlying29 hi hz0 hz1 hz2 rfl (by decide) _ _ _ rfl (HO1.out.alloc _) ⟨_, 0, none⟩ 1 1 (bs [(x : Int) % 128 + 128]) rfl rfl ?c1a ?c2a ?c3a ?c4a ?c5a ?_)
      | (at_builtin; refine wpList_append_own _ rfl _ _ 29 rfl w.heap.size 5 i0 _ 1 1 Try.underlying29 hi hz0 hz1 hz2 rfl (by decide) _ _ _ rfl (HO1.out.alloc _) ⟨_, 0, none⟩ 1 1 (bs [(x : Int)]) rfl rfl ?d1a ?d2a ?d3a ?d4a ?d5a ?_))
    case c1a => exact cells_one _ _
    case c2a => exact bs_one _
    case c3a => unfold maxLen; omega
    case c4a => omega
    case c5a => have := HE1.out.size; simp; omega
    case d1a => exact cells_one _ _
    case d2a => exact bs_one _
    case d3a => unfold maxLen; omega
    case d4a => omega
    case d5a => have := HE1.out.size; simp; omega
    · intro v2 w2 hown' hgrow _
      have hE2 := OB.grown (HE1.out.alloc _) (HO1.out.alloc _) hgrow
      have HO := Hid.mk' (OB.push hown' (by simp))
      have HE2 := Hid.mk' hE2
      clear hown' hgrow hE2
      have h128 : ¬ x < 128 := by omega
      have E2 : Hid (((x : Int) / 128) = ((x / 128 : Nat) : Int)) := Hid.mk' (by omega)
      have E3 : Hid (((x : Int) % 128 + 128) = ((x % 128 + 128 : Nat) : Int)) := Hid.mk' (by omega)
      go_wp2
      go_step3
      exact ⟨rfl, ⟨x / 128, v2, l ++ [((x % 128 + 128 : Nat) : Int)], _, _, _, _, _, _, _, _, _, _, _, _, _, _, _, _, _, by rw [← E2.out], by omega, Hid.mk' (by rw [(rfl : l ++ sevens x = l ++ sevens x).symm, sevens_ge h128, List.append_assoc, List.singleton_append]), Hid.mk' (by rw [← E3.out]; exact HO.out), HE2⟩⟩
    · intro v2 w2 hown' hgrow _
      have hE2 := OB.grown (HE1.out.alloc _) (HO1.out.alloc _) hgrow
      have HO := Hid.mk' (OB.push hown' (by simp))
      have HE2 := Hid.mk' hE2
      clear hown' hgrow hE2
      have h128 : x < 128 := by omega
      go_wp2
      simp only [Exit.jump]
      go_ret
      exact ⟨_, rfl, by rw [← (rfl : l ++ sevens x = l ++ sevens x), sevens_lt h128]; exact HO.out, HE2.out⟩
  · rintro a' w' ⟨m, v', ll, u6, u7, u8, u9, u10, u11, u12, u13, u14, u15, u16, u17, u18, u19, u20, u21, u22, rfl, hm, hs, ho, hE⟩
    have hll : ll.length ≤ l.length + 10 := by
      have := congrArg List.length hs.out
      have := HX.out
      simp only [List.length_append] at *
      omega
    go_wp2_with (first
      | (at_builtin; refine wpList_append_own _ rfl _ _ 29 rfl w.heap.size 5 i0 _ 1 1 Try.underlying29 hi hz0 hz1 hz2 rfl (by decide) _ _ _ rfl (ho.out.alloc _) ⟨_, 0, none⟩ 1 1 (bs [(m : Int) % 128 + 128]) rfl rfl ?c1b ?c2b ?c3b ?c4b ?c5b ?_)
      | (at_builtin; refine wpList_append_own _ rfl _ _ 29 rfl w.heap.size 5 i0 _ 1 1 Try.underlying29 hi hz0 hz1 hz2 rfl (by decide) _ _ _ rfl (ho.out.alloc _) ⟨_, 0, none⟩ 1 1 (bs [(m : Int)]) rfl rfl ?d1b ?d2b ?d3b ?d4b ?d5b ?_))
    case c1b => exact cells_one _ _
    case c2b => exact bs_one _
    case c3b => unfold maxLen; omega
    case c4b => omega
    case c5b => have := hE.out.size; simp; omega
    case d1b => exact cells_one _ _
    case d2b => exact bs_one _
    case d3b => unfold maxLen; omega
    case d4b => omega
    case d5b => have := hE.out.size; simp; omega
    · intro v2 w2 hown' hgrow _
      have hE2 := OB.grown (hE.out.alloc _) (ho.out.alloc _) hgrow
      have HO := Hid.mk' (OB.push hown' (by simp))
      have HE2 := Hid.mk' hE2
      clear hown' hgrow hE2
      have h128 : ¬ m < 128 := by omega
      have E2 : Hid (((m : Int) / 128) = ((m / 128 : Nat) : Int)) := Hid.mk' (by omega)
      have E3 : Hid (((m : Int) % 128 + 128) = ((m % 128 + 128 : Nat) : Int)) := Hid.mk' (by omega)
      go_wp2
      go_step3
      exact ⟨rfl, ⟨m / 128, v2, ll ++ [((m % 128 + 128 : Nat) : Int)], _, _, _, _, _, _, _, _, _, _, _, _, _, _, _, _, _, by rw [← E2.out], by omega, Hid.mk' (by rw [← hs.out, sevens_ge h128, List.append_assoc, List.singleton_append]), Hid.mk' (by rw [← E3.out]; exact HO.out), HE2⟩, by simp [intOf]; omega⟩
    · intro v2 w2 hown' hgrow _
      have hE2 := OB.grown (hE.out.alloc _) (ho.out.alloc _) hgrow
      have HO := Hid.mk' (OB.push hown' (by simp))
      have HE2 := Hid.mk' hE2
      clear hown' hgrow hE2
      have h128 : m < 128 := by omega
      go_wp2
      simp only [Exit.jump]
      go_ret
      exact ⟨_, rfl, by rw [← hs.out, sevens_lt h128]; exact HO.out, HE2.out⟩

end Go.Proofs.Ytmpnopjkpamhaaa
