/-
Numbers as texts: the program's eight bytes, the reference's so many.
-/
import Derived.Test.YtdlhaidlokkmnaaGreatDoorP6
import Derived.Test.YtdlhaidlokkmnaaGreatDoorP2
import Derived.Test.YtdlhaidlokkmnaaGreatDoorP26
import Derived.Test.YtdlhaidlokkmnaaGreatDoorP25
import Derived.Test.YtdlhaidlokkmnaaGreatDoorP1
import Derived.Test.YtdlhaidlokkmnaaGreatDoorP23
import Derived.Test.YtdlhaidlokkmnaaGreatDoorP21
set_option maxRecDepth 100000
set_option maxHeartbeats 16000000
namespace Go.Proofs.YtdlhaidlokkmnaaGreatDoor
open Go.RowKit
theorem strO_app (l m : List Int) : strOfNums l ++ strOfNums m = strOfNums (l ++ m) := by
  apply ByteArray.ext
  simp [strOfNums]
theorem strO_strL (s : ByteArray) : strOfNums (strL s) = s := by
  apply ByteArray.ext
  apply Array.ext'
  simp [strOfNums, strL, Function.comp_def]
theorem strO_size (l : List Int) : (strOfNums l).size = l.length := strOfNums_size l
theorem run_makeW (n : Nat) (hn : n ≤ 1000) (w : World) : (Instr.makeSlice 30 (.int .i64 (n : Int)) (.int .i64 (n : Int))).run Tryz.prog w = .ok (.slice (some ⟨w.heap.size, 0, none⟩) n n) (w.alloc (.cells (bs (List.replicate n 0)).toArray 5)) := by
  obtain ⟨i0, hi, hz0, hz1, hz2⟩ := info_parts Tryz.infoU8
  have hr := run_make (P := Tryz.prog) w 30 5 i0 _ Tryz.underlying30 hi hz0 .i64 .i64 (n : Int) (n : Int) (by omega) (by omega) (by rw [hz2]; omega) (by omega)
  simp only [Int.toNat_natCast, hz1, Nat.mul_one] at hr
  have e : ∀ z : Array Value, z = #[.int .u8 0] → madeCells z n = (bs (List.replicate n 0)).toArray := by
    rintro z rfl
    apply Array.ext
    · simp [bs, madeCells]
    · intro i h1 h2
      simp [bs, madeCells, Nat.mod_one]
  have e2 := e _ (show (Value.int .u8 0).cells = #[.int .u8 0] from rfl)
  rw [hr, e2]
theorem run_make8 (w : World) : (Instr.makeSlice 30 (.int .i64 8) (.int .i64 8)).run Tryz.prog w = .ok (.slice (some ⟨w.heap.size, 0, none⟩) 8 8) (w.alloc (.cells (bs (List.replicate 8 0)).toArray 5)) := run_makeW 8 (by omega) w
theorem conv_one (w : World) (x : Int) : (convert 30 9 (.slice (some ⟨w.heap.size, 0, none⟩) 1 1)).run Tryz.prog (w.alloc (.cells #[.int .u8 x] 5)) = .ok (.string (strOfNums [x])) (w.alloc (.cells #[.int .u8 x] 5)) :=
  conv_Sl (Sl.new w #[.int .u8 x] 5 1 1 1 [[.int .u8 x]] rfl (by intro xs hxs; simp at hxs; subst hxs; rfl) rfl)
theorem set_bs (l : List Int) (m : Nat) (x : Int) : (bs l).toArray.setIfInBounds m (.int .u8 x) = (bs (l.set m x)).toArray := by
  simp [bs, List.map_set]
theorem set_rep (m : Nat) (x : Int) (l : List Int) : (List.replicate (m + 1) 0 ++ l).set m x = List.replicate m 0 ++ (x :: l) := by
  rw [List.replicate_succ', List.append_assoc, List.set_append_right (h := by simp)]
  simp
theorem word_any (n : Int) (w : World) :
    Calls Tryz.prog 154 #[.int .u64 n] w fun e w' => e = .returned (.string (strOfNums (octs n 8))) ∧ Ext w w' := by
  have hmk := run_make8 w
  go_enter Tryz.func154, Tryz.ntmps154
  go_wp2
  go_loopg [8] 8 (fun y i wr => ∃ k : Nat, y + k = 8 ∧ i = .int .i64 k ∧ Hid (Blk wr w.heap.size (bs (List.replicate (8 - k) 0 ++ octs n k)).toArray 5) ∧ Hid (Ext w wr))
  case atStart => exact ⟨0, rfl, rfl, Hm (Blk.new _ _ _), Hm (by exact eX)⟩
  case round =>
    obtain ⟨k, hk, rfl, hb, hE⟩ := hrel
    by_cases hlt : k < 8
    · obtain ⟨m, hm⟩ : ∃ m, k + m = 7 := ⟨7 - k, by omega⟩
      have q1 : IntKind.i64.wrap (8 * (k : Int)) = 8 * (k : Int) := IntWalk.i64_in _ (by omega)
      have q2 : 8 * (k : Int) ≤ 64 := by omega
      have q3 : IntKind.u8.wrap (n / 2 ^ (8 * (k : Int)).toNat) = byteAt n k := by
        unfold byteAt
        rw [show (8 * (k : Int)).toNat = 8 * k by omega]
        simp [IntKind.wrap, IntKind.signed, IntKind.bits]
      have q4 : (7 : Int) - (k : Int) = (m : Int) := by omega
      have q5 : IntKind.i64.wrap (m : Int) = (m : Int) := IntWalk.i64_in _ (by omega)
      have q6 : (m : Int) < 8 := by omega
      have hc := hb.out.cell m
      have hf := hb.out.frozen
      have hl := hb.out.lt
      rw [show 8 - k = m + 1 by omega] at hc hb
      have hc2 : wr.cell? ⟨w.heap.size, m, none⟩ = some (.int .u8 0) := by
        rw [hc]
        simp [bs, List.getElem?_append]
      clear hc
      have HB2 := Hm (hb.out.set m (.int .u8 (byteAt n k)))
      have HM := Hm hm
      clear hm
      go_wp2
      go_roundg m
      case measure => have := HM.out; omega
      case rel =>
        refine ⟨k + 1, by have := HM.out; omega, by go_num, Hm ?_, Hm (Ext.setCell hE.out (Nat.le_refl _) _)⟩
        have h1 := HB2.out
        rw [set_bs, set_rep] at h1
        rw [show 8 - (k + 1) = m by have := HM.out; omega, octs_succ]
        exact h1
    · obtain rfl : k = 8 := by omega
      rw [Nat.sub_self, List.replicate_zero, List.nil_append] at hb
      have hS : Sl wr (.slice (some ⟨w.heap.size, 0, none⟩) 8 8) 1 ((octs n 8).map bcell) := by
        refine ⟨_, 8, by rw [List.length_map, octs_len], .inr ⟨w.heap.size, 0, rfl, hb.out.lt, fun i hi j hj => ?_⟩⟩
        rw [List.length_map, octs_len] at hi
        obtain rfl : j = 0 := by omega
        rw [getD_map bcell _ (by rw [octs_len]; exact hi), hb.out.cell]
        simp [bs, bcell, octs_len, hi]
      have hconv := conv_Sl hS
      clear hS
      go_wp2
      go_ret
      exact ⟨rfl, hE.out⟩
theorem rword_any (n : Int) (many : Nat) (w : World) (h0 : 0 ≤ n) (h1 : n < 18446744073709551616) (hm : many ≤ 8) :
    Calls Tryz.prog 76 #[.int .u64 n, .int .i64 many] w fun e w' => e = .returned (.string (strOfNums (octs n many))) ∧ Ext w w' := by
  go_enter Tryz.func76, Tryz.ntmps76
  go_wp2
  go_loopg [0, 5, 6] many (fun y a s i wr => ∃ k : Nat, y + k = many ∧ a = .int .u64 (n / 2 ^ (8 * k)) ∧ s = .string (strOfNums (octs n k)) ∧ i = .int .i64 k ∧ Hid (Ext w wr))
  case atStart => exact ⟨0, rfl, by simp, rfl, rfl, Hm (Ext.refl w)⟩
  case round =>
    obtain ⟨k, hk, rfl, rfl, rfl, hE⟩ := hrel
    by_cases hlt : k < many
    · have hcv := conv_one wr
      have hsz := strO_size (octs n k)
      rw [octs_len] at hsz
      have q1 : 0 ≤ n / 2 ^ (8 * k) := Int.ediv_nonneg h0 (Int.le_of_lt (Int.pow_pos (by decide)))
      have hs1 : ∀ x : Int, (strOfNums [x]).size = 1 := fun x => strO_size [x]
      have q2 : (n / 2 ^ (8 * k)).tdiv 256 = n / 2 ^ (8 * (k + 1)) := by
        rw [Int.tdiv_eq_ediv_of_nonneg q1, Int.ediv_ediv_of_nonneg (Int.le_of_lt (Int.pow_pos (by decide))), show 8 * (k + 1) = 8 * k + 8 by omega, Int.pow_add]
        rfl
      have q4 : 0 ≤ n / 2 ^ (8 * (k + 1)) := Int.ediv_nonneg h0 (Int.le_of_lt (Int.pow_pos (by decide)))
      have q5 : n / 2 ^ (8 * (k + 1)) ≤ n := Int.ediv_le_self _ h0
      have q3 : IntKind.u64.wrap (n / 2 ^ (8 * (k + 1))) = n / 2 ^ (8 * (k + 1)) := by rw [u64_wrap]; omega
      go_wp2
      go_roundg (many - (k + 1))
      case measure => omega
      case rel => exact ⟨k + 1, by omega, rfl, by rw [strO_app]; rfl, by go_num, Hm (hE.out.alloc _)⟩
    · obtain rfl : k = many := by omega
      go_wp2
      go_ret
      exact ⟨rfl, hE.out⟩
theorem rnum20_any (n : Int) (many : Nat) (w : World) (h0 : 0 ≤ n) (h1 : n < 18446744073709551616) (hm : many ≤ 8) :
    Calls Tryz.prog 48 #[.int .u64 n, .int .i64 many] w fun e w' => e = .returned (.string (strOfNums (octs n many))) ∧ Ext w w' := by
  have HC := Hm (fun W => rword_any n many W h0 h1 hm)
  go_enter Tryz.func48, Tryz.ntmps48
  go_wp2_with (go_at_call 76; refine (HC.out _).mono ?_; rintro e w2 ⟨rfl, hb2⟩)
  go_ret
  exact ⟨rfl, by exact eX⟩
open Go.RowKit Go.Shelf Go.Sort
theorem litL_str (l : List UInt8) : strOfNums (litL l) = ⟨l.toArray⟩ := by
  apply ByteArray.ext
  apply Array.ext'
  simp [strOfNums, litL, Function.comp_def]
theorem rightV_bits {ty n x y : Int} {s : ByteArray} (h : rightV ty n x y s = 0) : (1 ≤ ty ∧ ty ≤ 6) ∧ (ty = 1 → n = 0 ∨ n = 1) ∧ s.size ≤ 2048 := by
  unfold rightV at h
  split at h
  · cases h
  · split at h
    · cases h
    · split at h
      · cases h
      · split at h
        · cases h
        · omega
theorem fmt_any (v : Int) (w : World) (h0 : -9223372036854775808 ≤ v) (h1 : v ≤ 9223372036854775807) (ht : Tab w) :
    Calls Tryz.prog 153 #[.int .i64 v, .int .i64 10] w fun e w' => e = .returned (.string (strOfNums (litL (Lib.itoa v)))) ∧ Ext w w' := by
  have h := Any.internal_strconv_FormatInt_10 Tryz.laysM246 v h0 h1 w ht
  change Calls Tryz.prog 168 _ _ _ at h
  have HC := Hm h
  rw [litL_str]
  clear h ht
  go_enter Tryz.func153, Tryz.ntmps153
  go_wp2_with (go_at_call 168; refine HC.out.mono ?_; rintro e w' ⟨rfl, k, os, rfl⟩)
  go_ret
  exact ⟨rfl, ext_grow w k os⟩
theorem form_any (ty : Int) (w : World) : Calls Tryz.prog 130 #[.int .u8 ty] w fun e w' => e = .returned (.int .u8 (formI ty)) ∧ Ext w w' := by
  have HR := Hm (show formI ty = if ty = 1 ∨ ty = 2 ∨ ty = 5 then 116 else if ty = 3 ∨ ty = 4 ∨ ty = 6 then 98 else 0 from rfl)
  by_cases h1 : ty = 1
  · subst h1; go_enter Tryz.func130, Tryz.ntmps130; go_wp2; go_ret; exact ⟨rfl, Ext.refl _⟩
  by_cases h2 : ty = 2
  · subst h2; go_enter Tryz.func130, Tryz.ntmps130; go_wp2; go_ret; exact ⟨rfl, Ext.refl _⟩
  by_cases h5 : ty = 5
  · subst h5; go_enter Tryz.func130, Tryz.ntmps130; go_wp2; go_ret; exact ⟨rfl, Ext.refl _⟩
  by_cases h3 : ty = 3
  · subst h3; go_enter Tryz.func130, Tryz.ntmps130; go_wp2; go_ret; exact ⟨rfl, Ext.refl _⟩
  by_cases h4 : ty = 4
  · subst h4; go_enter Tryz.func130, Tryz.ntmps130; go_wp2; go_ret; exact ⟨rfl, Ext.refl _⟩
  by_cases h6 : ty = 6
  · subst h6; go_enter Tryz.func130, Tryz.ntmps130; go_wp2; go_ret; exact ⟨rfl, Ext.refl _⟩
  have HZ := Hm (HR.out.trans ((if_neg (by omega)).trans (if_neg (by omega))))
  have k1 : (ty == 1) = false := by simpa using h1
  have k2 : (ty == 2) = false := by simpa using h2
  have k3 : (ty == 3) = false := by simpa using h3
  have k4 : (ty == 4) = false := by simpa using h4
  have k5 : (ty == 5) = false := by simpa using h5
  have k6 : (ty == 6) = false := by simpa using h6
  clear HR h1 h2 h3 h4 h5 h6
  go_enter Tryz.func130, Tryz.ntmps130
  go_wp2
  go_ret
  exact ⟨by rw [HZ.out]; rfl, Ext.refl _⟩
theorem spell_any (ty n : Int) (x y : Nat) (s : ByteArray) (w : World) (hn : -9223372036854775808 ≤ n ∧ n ≤ 9223372036854775807) (hs : s.size ≤ 9223372036854775807) (ht : Tab w) :
    Calls Tryz.prog 129 #[.agg #[.int .u8 ty, .int .i64 n, .complex .f64 x y, .string s]] w fun e w' => e = .returned (.tuple #[.string (strOfNums (spellL ty n x y s)), .int .i64 (rightV ty n x y s)]) ∧ Ext w w' := by
  have HV := Hm (fun W => vright_any ty n x y s W hs)
  have HF := Hm (fun W (h : Ext w W) => fmt_any n W hn.1 hn.2 (ht.ext h))
  have HX := Hm (Blk.new w #[.int .u8 ty, .int .i64 n, .complex .f64 x y, .string s] 157)
  clear ht
  by_cases hE : rightV ty n x y s = 0
  case neg =>
    have HL := Hm (show spellL ty n x y s = [] from if_pos hE)
    have HE2 : (rightV ty n x y s != 0) = true := by simpa using hE
    obtain ⟨E, hEE⟩ : ∃ E, E = rightV ty n x y s := ⟨_, rfl⟩
    rw [← hEE] at HV HE2 ⊢
    clear hE hEE
    go_enter Tryz.func129, Tryz.ntmps129
    have gX := HX.out.cell
    have zX := HX.out.lt
    go_wp2_with (go_at_call 152; refine (HV.out _).mono ?_; rintro e w2 ⟨rfl, hb2⟩)
    go_ret2
    exact ⟨by rw [HL.out]; rfl, by exact eX⟩
  have HL := Hm (show spellL ty n x y s = spellT ty n x y s from if_neg (by rw [hE]; simp))
  rw [hE] at HV ⊢
  have HB := Hm (rightV_bits hE)
  have HWX := Hm (fun (m : Nat) W => word_any (m : Int) W)
  by_cases h1 : ty = 1
  · subst h1
    rcases HB.out.2.1 rfl with rfl | rfl
    all_goals
      clear hE HF HWX
      go_enter Tryz.func129, Tryz.ntmps129
      have gX := HX.out.cell
      have zX := HX.out.lt
      go_wp2_with (go_at_call 152; refine (HV.out _).mono ?_; rintro e w2 ⟨rfl, hb2⟩; clear gX zX; have gX := (HX.out.ext hb2).cell; have zX := (HX.out.ext hb2).lt)
      go_ret2
      exact ⟨by rw [HL.out]; rfl, by exact eX⟩
  have k1 : (ty == 1) = false := by simpa using h1
  by_cases h2 : ty = 2
  · subst h2
    have HS := Hm (HL.out.trans (show spellT 2 n x y s = litL (Lib.itoa n) from rfl))
    clear hE HWX HL
    go_enter Tryz.func129, Tryz.ntmps129
    have gX := HX.out.cell
    have zX := HX.out.lt
    go_wp2_with (first
      | (go_at_call 152; refine (HV.out _).mono ?_; rintro e w2 ⟨rfl, hb2⟩; clear gX zX; have gX := (HX.out.ext hb2).cell; have zX := (HX.out.ext hb2).lt)
      | (go_at_call 153; refine (HF.out _ (by exact eX)).mono ?_; rintro e w3 ⟨rfl, hb3⟩))
    go_ret2
    exact ⟨by rw [HS.out]; rfl, by exact eX⟩
  have k2 : (ty == 2) = false := by simpa using h2
  by_cases h3 : ty = 3
  · subst h3
    have HS := Hm (HL.out.trans (show spellT 3 n x y s = octs x 8 from rfl))
    clear hE HF HL
    have hfb := call_bits
    go_enter Tryz.func129, Tryz.ntmps129
    have gX := HX.out.cell
    have zX := HX.out.lt
    go_wp2_with (first
      | (go_at_call 152; refine (HV.out _).mono ?_; rintro e w2 ⟨rfl, hb2⟩; clear gX zX; have gX := (HX.out.ext hb2).cell; have zX := (HX.out.ext hb2).lt)
      | (go_at_call 154; refine (HWX.out x _).mono ?_; rintro e w3 ⟨rfl, hb3⟩))
    go_ret2
    exact ⟨by rw [HS.out]; rfl, by exact eX⟩
  have k3 : (ty == 3) = false := by simpa using h3
  by_cases h4 : ty = 4
  · subst h4
    have HS := Hm (HL.out.trans (show spellT 4 n x y s = octs x 8 ++ octs y 8 from rfl))
    have s1 := strO_size (octs x 8)
    have s2 := strO_size (octs y 8)
    rw [octs_len] at s1 s2
    clear hE HF HL
    have hfb := call_bits
    go_enter Tryz.func129, Tryz.ntmps129
    have gX := HX.out.cell
    have zX := HX.out.lt
    go_upto_region 12 with (go_at_call 152; refine (HV.out _).mono ?_; rintro e w2 ⟨rfl, hb2⟩; have HX2 := Hm (HX.out.ext hb2); have HB2 := Hm hb2; clear gX zX hb2; have gX := HX2.out.cell; have zX := HX2.out.lt)
    have HE2 := Hm (show Ext w w2 by have := HB2.out; exact eX)
    have hA0 : Hid ((fun w' => Ext (w2) w' ∧ (∀ b o, b < (w2).heap.size → w'.cell? ⟨b, o, none⟩ = (w2).cell? ⟨b, o, none⟩) ∧ (∀ b o, b < (w2).heap.size → w'.frozen? ⟨b, o, none⟩ = (w2).frozen? ⟨b, o, none⟩)) w2.drew) := held_of (by exact eX)
    refine wp_region_head 11 (fun w' => Ext (w2) w' ∧ (∀ b o, b < (w2).heap.size → w'.cell? ⟨b, o, none⟩ = (w2).cell? ⟨b, o, none⟩) ∧ (∀ b o, b < (w2).heap.size → w'.frozen? ⟨b, o, none⟩ = (w2).frozen? ⟨b, o, none⟩)) (by kernel_rfl) (by decide) ?_
    refine HG.on 0 34 hA0.out ?_
    try simp only [Act.put, List.setIfInBounds_toArray, List.set_cons_zero, List.set_cons_succ]
    refine HG.on 1 35 hA0.out ?_
    try simp only [Act.put, List.setIfInBounds_toArray, List.set_cons_zero, List.set_cons_succ]
    refine HG.on 2 36 hA0.out ?_
    try simp only [Act.put, List.setIfInBounds_toArray, List.set_cons_zero, List.set_cons_succ]
    refine HG.on 5 39 hA0.out ?_
    try simp only [Act.put, List.setIfInBounds_toArray, List.set_cons_zero, List.set_cons_succ]
    refine HG.on 6 40 hA0.out ?_
    try simp only [Act.put, List.setIfInBounds_toArray, List.set_cons_zero, List.set_cons_succ]
    refine HG.on 7 41 hA0.out ?_
    try simp only [Act.put, List.setIfInBounds_toArray, List.set_cons_zero, List.set_cons_succ]
    refine wpHd_one (i := 3) rfl rfl (by kernel_rfl) (fun KK hK => ?_)
    go_simp
    refine hK.out _ _ hA0.out (fun hA => ?_)
    clear hK KK hA
    refine wpHd_one (i := 4) rfl rfl (by kernel_rfl) (fun KK hK => ?_)
    go_simp
    refine (HWX.out x _).mono ?_
    rintro e w3 ⟨rfl, hb3⟩
    have HB3 : Hid (Ext w2 w3) := Hm (by exact eX)
    refine hK.out _ _ (held_of HB3.out) (fun hA => ?_)
    clear hK KK hA hA0 hb3
    have hA0 : Hid ((fun w' => Ext (w2) w' ∧ (∀ b o, b < (w2).heap.size → w'.cell? ⟨b, o, none⟩ = (w2).cell? ⟨b, o, none⟩) ∧ (∀ b o, b < (w2).heap.size → w'.frozen? ⟨b, o, none⟩ = (w2).frozen? ⟨b, o, none⟩)) w3) := held_of HB3.out
    refine wpHd_one (i := 8) rfl rfl (by kernel_rfl) (fun KK hK => ?_)
    go_simp
    refine hK.out _ _ hA0.out (fun hA => ?_)
    clear hK KK hA hA0
    refine wpHd_one (i := 9) rfl rfl (by kernel_rfl) (fun KK hK => ?_)
    go_simp
    refine (HWX.out y _).mono ?_
    rintro e w4 ⟨rfl, hb4⟩
    have HB4 : Hid (Ext w2 w4) := Hm (HB3.out.trans hb4)
    refine hK.out _ _ (held_of HB4.out) (fun hA => ?_)
    clear hK KK hA hb4
    have hA0 : Hid ((fun w' => Ext (w2) w' ∧ (∀ b o, b < (w2).heap.size → w'.cell? ⟨b, o, none⟩ = (w2).cell? ⟨b, o, none⟩) ∧ (∀ b o, b < (w2).heap.size → w'.frozen? ⟨b, o, none⟩ = (w2).frozen? ⟨b, o, none⟩)) w4) := held_of HB4.out
    refine HG.on 10 44 hA0.out ?_
    try simp only [Act.put, List.setIfInBounds_toArray, List.set_cons_zero, List.set_cons_succ]
    clear hA0 gX zX
    refine wpHd_tail (by kernel_rfl) ?_
    simp only [List.drop_succ_cons, List.drop_zero]
    go_wp2
    go_ret2
    exact ⟨by rw [HS.out, ← strO_app]; rfl, HE2.out.trans HB4.out⟩
  have k4 : (ty == 4) = false := by simpa using h4
  have HS := Hm (HL.out.trans (show spellT ty n x y s = strL s from by unfold spellT; rw [if_neg h1, if_neg h2, if_neg h3, if_neg h4]))
  clear hE HF HL HWX h1 h2 h3 h4
  go_enter Tryz.func129, Tryz.ntmps129
  have gX := HX.out.cell
  have zX := HX.out.lt
  go_wp2_with (go_at_call 152; refine (HV.out _).mono ?_; rintro e w2 ⟨rfl, hb2⟩; clear gX zX; have gX := (HX.out.ext hb2).cell; have zX := (HX.out.ext hb2).lt)
  go_ret2
  exact ⟨by rw [HS.out, strO_strL]; rfl, by exact eX⟩
end Go.Proofs.YtdlhaidlokkmnaaGreatDoor
namespace Go.Proofs.YtdlhaidlokkmnaaGreatDoor
open Go.RowKit
theorem spellL_len (ty n : Int) (x y : Nat) (s : ByteArray) (hn : -9223372036854775808 ≤ n ∧ n ≤ 9223372036854775807) : (spellL ty n x y s).length ≤ 3000 := by
  unfold spellL
  split
  · simp
  · rename_i h
    have h1 := (rightV_bits (show rightV ty n x y s = 0 by simpa using h)).2.2
    have h2 := itoa_len hn.1 hn.2
    unfold spellT
    split
    · simp
    · split
      · unfold litL; rw [List.length_map]; omega
      · split
        · rw [octs_len]; omega
        · split
          · rw [List.length_append, octs_len, octs_len]; omega
          · rw [strL_len]; omega
theorem strL_isB (s : ByteArray) : ∀ b ∈ strL s, 0 ≤ b ∧ b < 256 := by
  intro b hb
  unfold strL at hb
  obtain ⟨u, -, rfl⟩ := List.mem_map.1 hb
  have := u.toNat_lt
  omega
theorem litL_isB (l : List UInt8) : ∀ b ∈ litL l, 0 ≤ b ∧ b < 256 := by
  intro b hb
  unfold litL at hb
  obtain ⟨u, -, rfl⟩ := List.mem_map.1 hb
  have := u.toNat_lt
  omega
theorem strL_strO {l : List Int} (h : ∀ b ∈ l, 0 ≤ b ∧ b < 256) : strL (strOfNums l) = l := by
  unfold strL strOfNums
  simp only [List.map_map]
  conv => rhs; rw [← List.map_id l]
  refine List.map_congr_left fun b hb => ?_
  have h1 := h b hb
  simp only [Function.comp_apply, id_eq]
  rw [UInt8.toNat_ofNat_of_lt' (show b.toNat < 2 ^ 8 by omega)]
  omega
theorem spellL_isB (ty n : Int) (x y : Nat) (s : ByteArray) : ∀ b ∈ spellL ty n x y s, 0 ≤ b ∧ b < 256 := by
  unfold spellL spellT
  split
  · intro b hb; cases hb
  · split
    · intro b hb
      rw [List.mem_singleton] at hb
      split at hb <;> omega
    · split
      · exact litL_isB _
      · split
        · exact octs_isB _ _
        · split
          · intro b hb
            rcases List.mem_append.1 hb with h | h
            · exact octs_isB _ _ b h
            · exact octs_isB _ _ b h
          · exact strL_isB s
theorem wcell_any (g : Nat) (q : Option Nat) (l : List Int) (c : K) (w : World) (h : WB w g q l) (hlen : l.length ≤ 700000000) (hn : -9223372036854775808 ≤ c.v.n ∧ c.v.n ≤ 9223372036854775807) (hs : c.v.s.size ≤ 9223372036854775807) (ht : Tab w) :
    Calls Tryz.prog 101 #[.pointer (some ⟨g, 0, none⟩), .agg #[.int .u8 c.k, .int .u8 c.v.ty, .int .i64 c.v.n, .complex .f64 c.v.x c.v.y, .string c.v.s]] w (WQ g q (l ++ cellW c) w) := by
  have HSL := Hm (spellL_len c.v.ty c.v.n c.v.x c.v.y c.v.s hn)
  have HSP := Hm (fun W (h : Ext w W) => spell_any c.v.ty c.v.n c.v.x c.v.y c.v.s W hn hs (ht.ext h))
  have HCW := Hm (show cellW c = if c.k = 0 then [110] else if c.k = 1 then [117] else formI c.v.ty :: (octs (spellL c.v.ty c.v.n c.v.x c.v.y c.v.s).length 4 ++ spellL c.v.ty c.v.n c.v.x c.v.y c.v.s) from rfl)
  generalize cellW c = CW at HCW
  obtain ⟨k, ⟨ty, n, x, y, s⟩⟩ := c
  simp only at HSL HSP HCW hn hs ⊢
  have HE1 := Hm (show Ext w (w.alloc (.cells #[.int .u8 k, .int .u8 ty, .int .i64 n, .complex .f64 x y, .string s] 159)) from (Ext.refl w).alloc _)
  have HX1 := Hm (Blk.new w #[.int .u8 k, .int .u8 ty, .int .i64 n, .complex .f64 x y, .string s] 159)
  have HNW := Hm (h.new (b := w.heap.size) (Nat.le_refl _))
  have HGL := Hm h.lt
  obtain ⟨v, hb, ho, rfl⟩ := h
  obtain ⟨va, vc, rfl⟩ := ho.shape
  obtain ⟨lv, hlv⟩ : ∃ L, L = l.length := ⟨_, rfl⟩
  rw [← hlv] at hb ho HNW ⊢
  have HLV := Hm hlv
  have HB1 := Hm (hb.ext HE1.out)
  have HO1 := Hm (ho.ext HE1.out)
  have HWB := Hm (show WB w g (Value.slice va lv vc).ownBlock l from ⟨_, hb, ho, rfl⟩)
  clear hb ho ht hlv
  have hlen2 : lv ≤ 700000000 := by have := HLV.out; omega
  by_cases h0 : k = 0
  · subst h0
    have HR := Hm (HCW.out.trans (if_pos rfl))
    clear HCW HSP HSL
    have HB2 := Hm (HB1.out.alloc (.cells #[.int .u8 110] 5))
    have HO2 := Hm (HO1.out.alloc (.cells #[.int .u8 110] 5))
    go_enter Tryz.func101, Tryz.ntmps101
    have gX := HX1.out.cell
    have zX := HX1.out.lt
    have c0 := HB1.out.cell0
    have z0 := HB1.out.lt
    go_wp2_with (at_builtin; refine wpList_app_b rfl _ _ rfl (g + 1) (.slice va lv vc) l rfl HO2.out (.slice (some ⟨w.heap.size + 1, 0, none⟩) 1 1) [110] rfl ?c1 ?c2 ?c3 ?_)
    case c1 =>
      have h1 := NB.one (w.alloc (.cells #[.int .u8 0, .int .u8 ty, .int .i64 n, .complex .f64 x y, .string s] 159)) 110
      rwa [World.size_alloc] at h1
    case c2 => simp only [List.length_cons, List.length_nil]; omega
    case c3 => have := HGL.out; simp; omega
    intro v' w4 ho4 hg4 ha4
    have HP := Hm (WB.put HB2.out HO2.out ho4 hg4 (ha4.imp (fun e => e) (fun ⟨b, e, hb⟩ => ⟨b, e, by simp; omega⟩)))
    have HB4 := Hm (HB2.out.kp (Kp.of_grown hg4) (fun e => by have := (owns_lt3 HO2.out e).1; omega))
    obtain ⟨a4, c4, rfl⟩ := ho4.shape
    obtain ⟨ln, hln⟩ : ∃ L, L = (l ++ [110]).length := ⟨_, rfl⟩
    rw [← hln] at HP ⊢
    clear gX zX c0 z0 ho4 hg4 ha4 hln
    have gw := HB4.out.cell0
    have gwf := HB4.out.frozen
    have zw := HB4.out.lt
    go_wp2
    go_end0
    exact ⟨rfl, _, by rw [HR.out]; exact HP.out.1, HP.out.2.pre (((Ext.refl w).alloc _).alloc _)⟩
  have HC1 := Hm (HCW.out.trans (if_neg h0))
  have k0 : (k == 0) = false := by simpa using h0
  clear HCW h0
  by_cases h1 : k = 1
  · subst h1
    have HR := Hm (HC1.out.trans (if_pos rfl))
    clear HC1 HSP HSL
    have HB2 := Hm (HB1.out.alloc (.cells #[.int .u8 117] 5))
    have HO2 := Hm (HO1.out.alloc (.cells #[.int .u8 117] 5))
    go_enter Tryz.func101, Tryz.ntmps101
    have gX := HX1.out.cell
    have zX := HX1.out.lt
    have c0 := HB1.out.cell0
    have z0 := HB1.out.lt
    go_wp2_with (at_builtin; refine wpList_app_b rfl _ _ rfl (g + 1) (.slice va lv vc) l rfl HO2.out (.slice (some ⟨w.heap.size + 1, 0, none⟩) 1 1) [117] rfl ?c1 ?c2 ?c3 ?_)
    case c1 =>
      have h1 := NB.one (w.alloc (.cells #[.int .u8 1, .int .u8 ty, .int .i64 n, .complex .f64 x y, .string s] 159)) 117
      rwa [World.size_alloc] at h1
    case c2 => simp only [List.length_cons, List.length_nil]; omega
    case c3 => have := HGL.out; simp; omega
    intro v' w4 ho4 hg4 ha4
    have HP := Hm (WB.put HB2.out HO2.out ho4 hg4 (ha4.imp (fun e => e) (fun ⟨b, e, hb⟩ => ⟨b, e, by simp; omega⟩)))
    have HB4 := Hm (HB2.out.kp (Kp.of_grown hg4) (fun e => by have := (owns_lt3 HO2.out e).1; omega))
    obtain ⟨a4, c4, rfl⟩ := ho4.shape
    obtain ⟨ln, hln⟩ : ∃ L, L = (l ++ [117]).length := ⟨_, rfl⟩
    rw [← hln] at HP ⊢
    clear gX zX c0 z0 ho4 hg4 ha4 hln
    have gw := HB4.out.cell0
    have gwf := HB4.out.frozen
    have zw := HB4.out.lt
    go_wp2
    go_end0
    exact ⟨rfl, _, by rw [HR.out]; exact HP.out.1, HP.out.2.pre (((Ext.refl w).alloc _).alloc _)⟩
  have HR := Hm (HC1.out.trans (if_neg h1))
  have k1 : (k == 1) = false := by simpa using h1
  clear HC1 h1
  have HFM := Hm (fun W => form_any ty W)
  obtain ⟨f, hf⟩ : ∃ f, f = formI ty := ⟨_, rfl⟩
  obtain ⟨sp, hsp⟩ : ∃ z, z = spellL ty n x y s := ⟨_, rfl⟩
  rw [← hf] at HFM HR
  have hiB := spellL_isB ty n x y s
  rw [← hsp] at HSL HSP HR hiB
  have HIB := Hm (strL_strO hiB)
  clear hf hsp hiB
  have HSZ := Hm (strO_size sp)
  obtain ⟨st, hst⟩ : ∃ z, z = strOfNums sp := ⟨_, rfl⟩
  rw [← hst] at HSP HSZ HIB
  have HST := Hm hst
  clear hst
  go_enter Tryz.func101, Tryz.ntmps101
  have gX := HX1.out.cell
  have zX := HX1.out.lt
  go_upto_region 3 with (go_at_call 129; refine (HSP.out _ (by exact eX)).mono ?_; rintro e w2 ⟨rfl, hb2⟩; have HB2 := Hm hb2; clear hb2)
  clear gX zX
  have HEb := Hm (show Ext w w2 from HE1.out.trans HB2.out)
  have HX2 := Hm (HX1.out.ext HB2.out)
  have HBg := Hm (HB1.out.ext HB2.out)
  have HOg := Hm (HO1.out.ext HB2.out)
  have hA0 : Hid ((fun w' => w'.cell? ⟨g, 0, none⟩ = some (.slice va lv vc) ∧ g < w'.heap.size ∧ w'.cell? ⟨w.heap.size, 1, none⟩ = some (.int .u8 ty) ∧ w.heap.size < w'.heap.size) w2.drew) := Hm ⟨HBg.out.cell0, HBg.out.lt, HX2.out.cell 1, HX2.out.lt⟩
  refine wp_region_head 11 (fun w' => w'.cell? ⟨g, 0, none⟩ = some (.slice va lv vc) ∧ g < w'.heap.size ∧ w'.cell? ⟨w.heap.size, 1, none⟩ = some (.int .u8 ty) ∧ w.heap.size < w'.heap.size) (by kernel_rfl) (by decide) ?_
  (refine wpHd_take (i := 0) (v := ?_) rfl (by kernel_rfl) (by kernel_rfl) (by kernel_rfl) (fun _ _ _ h => h) (Or.inl ⟨by rfl, ?_⟩) hA0.out ?_; rotate_left 1; · (intro w' hS'; (try dsimp only at hS'); go_split_ands; go_simp; try with_reducible rfl))
  (refine wpHd_take (i := 1) (v := ?_) rfl (by kernel_rfl) (by kernel_rfl) (by kernel_rfl) (fun _ _ _ h => h) (Or.inl ⟨by rfl, ?_⟩) hA0.out ?_; rotate_left 1; · (intro w' hS'; (try dsimp only at hS'); go_split_ands; go_simp; try with_reducible rfl))
  (refine wpHd_take (i := 2) (v := ?_) rfl (by kernel_rfl) (by kernel_rfl) (by kernel_rfl) (fun _ _ _ h => h) (Or.inl ⟨by rfl, ?_⟩) hA0.out ?_; rotate_left 1; · (intro w' hS'; (try dsimp only at hS'); go_split_ands; go_simp; try with_reducible rfl))
  (refine wpHd_take (i := 3) (v := ?_) rfl (by kernel_rfl) (by kernel_rfl) (by kernel_rfl) (fun _ _ _ h => h) (Or.inl ⟨by rfl, ?_⟩) hA0.out ?_; rotate_left 1; · (intro w' hS'; (try dsimp only at hS'); go_split_ands; go_simp; try with_reducible rfl))
  (refine wpHd_take (i := 4) (v := ?_) rfl (by kernel_rfl) (by kernel_rfl) (by kernel_rfl) (fun _ _ _ h => h) (Or.inl ⟨by rfl, ?_⟩) hA0.out ?_; rotate_left 1; · (intro w' hS'; (try dsimp only at hS'); go_split_ands; go_simp; try with_reducible rfl))
  (refine wpHd_take (i := 5) (v := ?_) rfl (by kernel_rfl) (by kernel_rfl) (by kernel_rfl) (fun _ _ _ h => h) (Or.inl ⟨by rfl, ?_⟩) hA0.out ?_; rotate_left 1; · (intro w' hS'; (try dsimp only at hS'); go_split_ands; go_simp; try with_reducible rfl))
  (refine wpHd_take (i := 6) (v := ?_) rfl (by kernel_rfl) (by kernel_rfl) (by kernel_rfl) (fun _ _ _ h => h) (Or.inl ⟨by rfl, ?_⟩) hA0.out ?_; rotate_left 1; · (intro w' hS'; (try dsimp only at hS'); go_split_ands; go_simp; try with_reducible rfl))
  (refine wpHd_take (i := 7) (v := ?_) rfl (by kernel_rfl) (by kernel_rfl) (by kernel_rfl) (fun _ _ _ h => h) (Or.inl ⟨by rfl, ?_⟩) hA0.out ?_; rotate_left 1; · (intro w' hS'; (try dsimp only at hS'); go_split_ands; go_simp; try with_reducible rfl))
  refine wpHd_one (i := 8) rfl rfl (by kernel_rfl) (fun KK hK => ?_)
  go_simp
  refine (HFM.out _).mono ?_
  rintro e w3 ⟨rfl, hb3⟩
  have HB3 := Hm (show Ext w2 w3 by exact eX)
  refine hK.out _ _ ⟨(HBg.out.ext HB3.out).cell0, (HBg.out.ext HB3.out).lt, (HX2.out.ext HB3.out).cell 1, (HX2.out.ext HB3.out).lt⟩ (fun hA => ?_)
  clear hK KK hA hA0 hb3
  refine wpHd_one (i := 9) rfl rfl (by kernel_rfl) (fun KK hK => ?_)
  go_simp
  have HB4 := Hm (show Ext w2 (w3.alloc (.cells #[.int .u8 f] 5)) from HB3.out.alloc _)
  have HBh := Hm (HBg.out.ext HB4.out)
  have HOh := Hm (HOg.out.ext HB4.out)
  refine hK.out _ _ ⟨HBh.out.cell0, HBh.out.lt, (HX2.out.ext HB4.out).cell 1, (HX2.out.ext HB4.out).lt⟩ (fun hA => ?_)
  clear hK KK hA
  refine wpHd_one (i := 10) rfl rfl (by kernel_rfl) (fun KK hK => ?_)
  refine wp_app_bytes (.tmp 18) (.tmp 23) ?ho (g + 1) (.slice va lv vc) l ?ev1 HOh.out (.slice (some ⟨w3.heap.size, 0, none⟩) 1 1) [f] ?ev2 ?c1 ?c2 ?c3 ?_
  case ho => rfl
  case ev1 => (try go_simp); (try rfl)
  case ev2 => (try go_simp); (try rfl)
  case c1 => exact NB.one w3 f
  case c2 => simp only [List.length_cons, List.length_nil]; omega
  case c3 => have := HBh.out.lt; omega
  intro v' w4 ho4 hg4 ha4
  obtain ⟨a4, c4, rfl⟩ := ho4.shape
  have HP := Hm (WB.put HBh.out HOh.out ho4 hg4 ha4)
  have HB5 := Hm (HBh.out.kp (Kp.of_grown hg4) (fun e => by have := (owns_lt3 HOh.out e).1; omega))
  have HX5 := Hm ((HX2.out.ext HB4.out).kp (Kp.of_grown hg4) (fun e => HNW.out (.inr e)))
  refine hK.out _ _ ⟨HB5.out.cell0, HB5.out.lt, HX5.out.cell 1, HX5.out.lt⟩ (fun hA => ?_)
  obtain ⟨ln, hln⟩ : ∃ L, L = (l ++ [f]).length := ⟨_, rfl⟩
  rw [← hln] at HP ⊢
  clear hK KK hA ho4 hg4 ha4 hln
  have gw := HB5.out.cell0
  have gwf := HB5.out.frozen
  have zw := HB5.out.lt
  have hsz : st.size ≤ 3000 := by have h1 := HSZ.out; have h2 := HSL.out; omega
  have w1 := u64_small (n := (st.size : Int)) (by omega) (by omega)
  refine wpHd_tail (by kernel_rfl) ?_
  simp only [List.drop_succ_cons, List.drop_zero]
  go_upto_region 5 with (go_at_call 37; refine (number_any g _ (l ++ [f]) st.size 4 _ HP.out.1 (by rw [List.length_append, List.length_singleton]; omega) (by omega) (by omega)).mono ?_; rintro e w6 ⟨rfl, q6, hw6, hr6⟩; have HW6 := Hm hw6; have HR6 := Hm hr6; clear hw6 hr6 gw gwf zw)
  obtain ⟨v6, hb6, ho6, rfl⟩ := HW6.out
  obtain ⟨va6, vc6, rfl⟩ := ho6.shape
  obtain ⟨lv6, hlv6⟩ : ∃ L, L = (l ++ [f] ++ octs st.size 4).length := ⟨_, rfl⟩
  rw [← hlv6] at hb6 ho6 HR6
  have HB6 := Hm hb6
  have HO6 := Hm ho6
  have c0 := hb6.cell0
  have cf := hb6.frozen
  have z0 := hb6.lt
  have HL6 := Hm hlv6
  clear hb6 ho6 hlv6
  go_wp2_with (at_builtin; refine wpList_app_str rfl _ _ rfl (g + 1) _ _ rfl HO6.out st rfl ?c1 ?c2 ?_)
  case c1 => simp only [List.length_append, List.length_singleton, octs_len]; omega
  case c2 => omega
  intro v7 w7 ho7 hg7 ha7
  rw [show l ++ f :: (octs st.size 4 ++ strL st) = (l ++ [f] ++ octs st.size 4) ++ strL st by simp] at ho7
  have HQ := Hm (WB.put HB6.out HO6.out ho7 hg7 ha7)
  have HB7 := Hm (HB6.out.kp (Kp.of_grown hg7) (fun e => by have := (owns_lt3 HO6.out e).1; omega))
  obtain ⟨a7, c7, rfl⟩ := ho7.shape
  obtain ⟨ln7, hln7⟩ : ∃ L, L = ((l ++ [f] ++ octs st.size 4) ++ strL st).length := ⟨_, rfl⟩
  rw [← hln7] at HQ ⊢
  clear c0 cf z0 ho7 hg7 ha7 hln7
  have gw := HB7.out.cell0
  have gwf := HB7.out.frozen
  have zw := HB7.out.lt
  go_wp2
  go_end0
  refine ⟨rfl, _, ?_, (((Wr.of_ext HB4.out).trans HP.out.2).trans (HR6.out.trans HQ.out.2)).pre HEb.out⟩
  have h9 := HQ.out.1
  rw [HIB.out, HSZ.out] at h9
  rw [HR.out]
  simpa using h9
structure Rf.u32 (r : Rf) : Prop where
  o : 0 ≤ r.o ∧ r.o < 4294967296
  v : 0 ≤ r.v ∧ r.v < 4294967296
end Go.Proofs.YtdlhaidlokkmnaaGreatDoor
