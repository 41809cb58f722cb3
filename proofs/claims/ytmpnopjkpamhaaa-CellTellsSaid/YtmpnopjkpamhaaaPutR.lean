/-
Putting floats and complex numbers.
-/
import Derived.Test.YtmpnopjkpamhaaaPutQ
import Derived.Test.YtmpnopjkpamhaaaRev
namespace Go.Proofs.Ytmpnopjkpamhaaa
open Go.RowKit

theorem wordL_len (x : Int) : (wordL x).length = 8 := by simp [wordL]
/-- The bytes of a float. -/
def floatL (x : Nat) (ver : Int) : List Int := if ver = 1 then wordL x else sevens (rev x)
theorem floatL_len {x : Nat} {ver : Int} : (floatL x ver).length ≤ 10 := by
  unfold floatL; split
  · rw [wordL_len]; omega
  · exact sevens_len10 rev_lt

set_option maxRecDepth 100000 in set_option maxHeartbeats 1600000 in
theorem putFloat_any (W : World) (v : Value) (l : List Int) (x : Nat) (ver : Int) (w : World) (hE : Ext W w) (ho : OB w W.heap.size v l) (hx : x < 2 ^ 64) (hlen : l.length ≤ 1000000) :
    Calls Try.prog 50 #[v, .int .u64 x, .int .u8 ver] w fun e w' => ∃ v', e = .returned v' ∧ OB w' W.heap.size v' (l ++ floatL x ver) ∧ Ext W w' := by
  have HE0 := Hid.mk' hE
  have HO0 := Hid.mk' ho
  have HX := Hid.mk' hx
  clear hE ho hx
  by_cases h1 : ver = 1
  · subst h1
    go_enter Try.func50, Try.ntmps50
    go_wp2_with (go_at_call 48; refine (putWord_any W v l x _ HE0.out HO0.out hlen).mono ?_; rintro e w1 ⟨v1, rfl, ho1, hb1⟩; have HO1 := Hid.mk' ho1; have HE1 := Hid.mk' hb1; clear ho1 hb1)
    go_ret
    exact ⟨_, rfl, by unfold floatL; rw [if_pos rfl]; exact HO1.out, HE1.out⟩
  · go_enter Try.func50, Try.ntmps50
    go_wp2_with (first
      | (go_at_call 84; refine (rev_any x _ HX.out).mono ?_; rintro e w0 ⟨rfl, rfl⟩)
      | (go_at_call 29; refine (putUint_any v l (rev x) _ HO0.out.sl rev_lt hlen).mono ?_; rintro e w1 ⟨v1, rfl, ho1, hb1⟩; have HO1 := Hid.mk' ho1; have HE1 := Hid.mk' hb1; clear ho1 hb1))
    go_ret
    exact ⟨_, rfl, by unfold floatL; rw [if_neg h1]; exact HO1.out.base HE0.out.size, HE0.out.trans HE1.out⟩

/-- The bytes of a complex number. -/
def markOf (x y : Nat) : Int := (if x = 0 then 0 else 1) + (if y = 0 then 0 else 2)
def complexL (x y : Nat) (ver : Int) : List Int :=
  if ver = 2 then [markOf x y] ++ (if x = 0 then [] else floatL x 2) ++ (if y = 0 then [] else floatL y 2) else floatL x ver ++ floatL y ver

set_option maxRecDepth 100000 in set_option maxHeartbeats 1600000 in
theorem putComplex_any (W : World) (v : Value) (l : List Int) (x y : Nat) (ver : Int) (w : World) (hE : Ext W w) (ho : OB w W.heap.size v l) (hx : x < 2 ^ 64) (hy : y < 2 ^ 64) (hlen : l.length ≤ 900000) :
    Calls Try.prog 51 #[v, .complex .f64 x y, .int .u8 ver] w fun e w' => ∃ v', e = .returned v' ∧ OB w' W.heap.size v' (l ++ complexL x y ver) ∧ Ext W w' := by
  obtain ⟨i0, hi, hz0, hz1, hz2⟩ := info_parts Try.infoU8
  have HE0 := Hid.mk' hE
  have HO0 := Hid.mk' ho
  have HX := Hid.mk' (And.intro hx hy)
  have hfx := fun ver => floatL_len (x := x) (ver := ver)
  have HFX := Hid.mk' hfx
  clear hE ho hx hy hfx
  by_cases h2 : ver = 2
  · subst h2
    by_cases hx0 : x = 0 <;> by_cases hy0 : y = 0
    · subst hx0; subst hy0
      go_enter Try.func51, Try.ntmps51
      go_wp2_with (first
        | (go_at_call 47; refine (vbits_any _ _ _).mono ?_; rintro e w0 ⟨rfl, rfl⟩)
        | (at_builtin; refine wpList_append_own _ rfl _ _ 29 rfl W.heap.size 5 i0 _ 1 1 Try.underlying29 hi hz0 hz1 hz2 rfl (by decide) _ _ _ rfl (HO0.out.alloc _) ⟨_, 0, none⟩ 1 1 (bs [0]) rfl rfl ?c1a ?c2a ?c3a ?c4a ?c5a ?_))
      case c1a => exact cells_one _ _
      case c2a => exact bs_one _
      case c3a => unfold maxLen; omega
      case c4a => omega
      case c5a => have := HE0.out.size; simp; omega
      intro v1 w1 hown hgrow _
      have hE1 := OB.grown (HE0.out.alloc _) (HO0.out.alloc _) hgrow
      have HO1 := Hid.mk' (OB.push hown (by simp))
      have HE1 := Hid.mk' hE1
      clear hown hgrow hE1
      go_wp2
      go_ret
      refine ⟨_, rfl, ?_, HE1.out⟩
      have h := HO1.out
      unfold complexL markOf
      simpa using h
    · subst hx0
      go_enter Try.func51, Try.ntmps51
      go_wp2_with (first
        | (go_at_call 47; refine (vbits_any _ _ _).mono ?_; rintro e w0 ⟨rfl, rfl⟩)
        | (at_builtin; refine wpList_append_own _ rfl _ _ 29 rfl W.heap.size 5 i0 _ 1 1 Try.underlying29 hi hz0 hz1 hz2 rfl (by decide) _ _ _ rfl (HO0.out.alloc _) ⟨_, 0, none⟩ 1 1 (bs [2]) rfl rfl ?c1b ?c2b ?c3b ?c4b ?c5b ?_))
      case c1b => exact cells_one _ _
      case c2b => exact bs_one _
      case c3b => unfold maxLen; omega
      case c4b => omega
      case c5b => have := HE0.out.size; simp; omega
      intro v1 w1 hown hgrow _
      have hE1 := OB.grown (HE0.out.alloc _) (HO0.out.alloc _) hgrow
      have HO1 := Hid.mk' (OB.push hown (by simp))
      have HE1 := Hid.mk' hE1
      clear hown hgrow hE1
      go_wp2_with (first
        | (go_at_call_of 50 (Value.int IntKind.u64 (y : Int)); refine (putFloat_any W v1 (l ++ [2]) y 2 _ HE1.out HO1.out HX.out.2 (by simp; omega)).mono ?_; rintro e w3 ⟨v3, rfl, ho3, hb3⟩; have HO3 := Hid.mk' ho3; have HE3 := Hid.mk' hb3; clear ho3 hb3))
      go_ret
      refine ⟨_, rfl, ?_, HE3.out⟩
      have h := HO3.out
      unfold complexL markOf
      simpa [hy0] using h
    · subst hy0
      go_enter Try.func51, Try.ntmps51
      go_wp2_with (first
        | (go_at_call 47; refine (vbits_any _ _ _).mono ?_; rintro e w0 ⟨rfl, rfl⟩)
        | (at_builtin; refine wpList_append_own _ rfl _ _ 29 rfl W.heap.size 5 i0 _ 1 1 Try.underlying29 hi hz0 hz1 hz2 rfl (by decide) _ _ _ rfl (HO0.out.alloc _) ⟨_, 0, none⟩ 1 1 (bs [1]) rfl rfl ?c1c ?c2c ?c3c ?c4c ?c5c ?_))
      case c1c => exact cells_one _ _
      case c2c => exact bs_one _
      case c3c => unfold maxLen; omega
      case c4c => omega
      case c5c => have := HE0.out.size; simp; omega
      intro v1 w1 hown hgrow _
      have hE1 := OB.grown (HE0.out.alloc _) (HO0.out.alloc _) hgrow
      have HO1 := Hid.mk' (OB.push hown (by simp))
      have HE1 := Hid.mk' hE1
      clear hown hgrow hE1
      go_wp2_with (first
        | (go_at_call_of 50 (Value.int IntKind.u64 (x : Int)); refine (putFloat_any W v1 (l ++ [1]) x 2 _ HE1.out HO1.out HX.out.1 (by simp; omega)).mono ?_; rintro e w2 ⟨v2, rfl, ho2, hb2⟩; have HO2 := Hid.mk' ho2; have HE2 := Hid.mk' hb2; clear ho2 hb2))
      go_ret
      refine ⟨_, rfl, ?_, HE2.out⟩
      have h := HO2.out
      unfold complexL markOf
      simpa [hx0] using h
    · skip
      go_enter Try.func51, Try.ntmps51
      go_wp2_with (first
        | (go_at_call 47; refine (vbits_any _ _ _).mono ?_; rintro e w0 ⟨rfl, rfl⟩)
        | (at_builtin; refine wpList_append_own _ rfl _ _ 29 rfl W.heap.size 5 i0 _ 1 1 Try.underlying29 hi hz0 hz1 hz2 rfl (by decide) _ _ _ rfl (HO0.out.alloc _) ⟨_, 0, none⟩ 1 1 (bs [3]) rfl rfl ?c1d ?c2d ?c3d ?c4d ?c5d ?_))
      case c1d => exact cells_one _ _
      case c2d => exact bs_one _
      case c3d => unfold maxLen; omega
      case c4d => omega
      case c5d => have := HE0.out.size; simp; omega
      intro v1 w1 hown hgrow _
      have hE1 := OB.grown (HE0.out.alloc _) (HO0.out.alloc _) hgrow
      have HO1 := Hid.mk' (OB.push hown (by simp))
      have HE1 := Hid.mk' hE1
      clear hown hgrow hE1
      go_wp2_with (first
        | (go_at_call_of 50 (Value.int IntKind.u64 (x : Int)); refine (putFloat_any W v1 (l ++ [3]) x 2 _ HE1.out HO1.out HX.out.1 (by simp; omega)).mono ?_; rintro e w2 ⟨v2, rfl, ho2, hb2⟩; have HO2 := Hid.mk' ho2; have HE2 := Hid.mk' hb2; clear ho2 hb2)
        | (go_at_call_of 50 (Value.int IntKind.u64 (y : Int)); refine (putFloat_any W v2 ((l ++ [3]) ++ floatL x 2) y 2 _ HE2.out HO2.out HX.out.2 (by have := HFX.out 2; simp; omega)).mono ?_; rintro e w3 ⟨v3, rfl, ho3, hb3⟩; have HO3 := Hid.mk' ho3; have HE3 := Hid.mk' hb3; clear ho3 hb3))
      go_ret
      refine ⟨_, rfl, ?_, HE3.out⟩
      have h := HO3.out
      unfold complexL markOf
      simpa [hx0, hy0] using h
  · go_enter Try.func51, Try.ntmps51
    go_wp2_with (first
      | (go_at_call 47; refine (vbits_any _ _ _).mono ?_; rintro e w0 ⟨rfl, rfl⟩)
      | (go_at_call_of 50 (Value.int IntKind.u64 (x : Int)); refine (putFloat_any W v l x ver _ HE0.out HO0.out HX.out.1 (by omega)).mono ?_; rintro e w2 ⟨v2, rfl, ho2, hb2⟩; have HO2 := Hid.mk' ho2; have HE2 := Hid.mk' hb2; clear ho2 hb2)
      | (go_at_call_of 50 (Value.int IntKind.u64 (y : Int)); refine (putFloat_any W v2 (l ++ floatL x ver) y ver _ HE2.out HO2.out HX.out.2 (by have := HFX.out ver; simp; omega)).mono ?_; rintro e w3 ⟨v3, rfl, ho3, hb3⟩; have HO3 := Hid.mk' ho3; have HE3 := Hid.mk' hb3; clear ho3 hb3))
    go_ret
    refine ⟨_, rfl, ?_, HE3.out⟩
    have h := HO3.out
    unfold complexL
    rw [if_neg h2, ← List.append_assoc]; exact h

end Go.Proofs.Ytmpnopjkpamhaaa
