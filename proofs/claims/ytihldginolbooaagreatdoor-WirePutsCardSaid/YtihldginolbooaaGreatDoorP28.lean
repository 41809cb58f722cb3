import Derived.Test.YtihldginolbooaaGreatDoorP1
import Derived.Test.YtihldginolbooaaGreatDoorP4
import Derived.Test.YtihldginolbooaaGreatDoorP5
import Derived.Test.YtihldginolbooaaGreatDoorP26
import Derived.Test.YtihldginolbooaaGreatDoorP21

/-
bits.ReverseBytes64.
-/
namespace Go.Proofs.YtihldginolbooaaGreatDoor
open Go.RowKit

end Go.Proofs.YtihldginolbooaaGreatDoor


/-
Putting floats and complex numbers.
-/
namespace Go.Proofs.YtihldginolbooaaGreatDoor
open Go.RowKit

end Go.Proofs.YtihldginolbooaaGreatDoor


/-
The program's Put of a value.
-/
namespace Go.Proofs.YtihldginolbooaaGreatDoor
open Go.RowKit

end Go.Proofs.YtihldginolbooaaGreatDoor

/-
Bytes as strings.
-/
namespace Go.Proofs.YtihldginolbooaaGreatDoor
open Go.RowKit

/-- A row of bytes as a string. -/
theorem conv_Sl {w : World} {v : Value} {l : List Int} (h : Sl w v 1 (l.map bcell)) : (convert 42 9 v).run Tryz.prog w = .ok (.string (strOfNums l)) w := by
  have h0 := h
  obtain ⟨a, cap, rfl, hs⟩ := h
  rcases hs with hn | ⟨b, o, rfl, hb, hc⟩
  · have hl : l = [] := by simpa using hn
    subst hl
    cases a with
    | none => exact run_convert_bytes_nil w _ _ Tryz.underlying42 Tryz.underlying5 _ _ _ Tryz.underlying9
    | some ad =>
      rw [run_convert_bytes_string w _ _ _ _ _ _ Tryz.underlying42 Tryz.underlying5 Tryz.underlying9]
      have hl : (loadCells ad 0).run Tryz.prog w = .ok (([] : List Int).map (Value.int .u8)).toArray w := by
        have := run_loadCells_list (P := Tryz.prog) w ad [] (fun j v hj => by simp at hj)
        simpa using this
      exact run_bytesToString w ad 0 cap [] hl
  · simp only [List.length_map] at *
    refine run_convert_bytes_arg w _ _ Tryz.underlying42 Tryz.underlying5 b o _ cap l rfl (fun i hi => ?_) _ Tryz.underlying9
    exact (Sl.bytes h0 (by omega)).2.2 i hi

theorem fresh_bytes (w : World) (l : List Int) (n : Nat) (hn : n = l.length) : Sl (w.alloc (.cells (bs l).toArray 5)) (.slice (some ⟨w.heap.size, 0, none⟩) n n) 1 (l.map bcell) := by
  subst hn
  have := Sl.new w (bs l).toArray 5 1 l.length l.length (l.map bcell) (by rw [bs_flat]) (by intro xs hxs; simp at hxs; obtain ⟨x, _, rfl⟩ := hxs; rfl) (by simp)
  exact this

end Go.Proofs.YtihldginolbooaaGreatDoor

/-
Numbers as texts: the program's eight bytes, the reference's so many.
-/
namespace Go.Proofs.YtihldginolbooaaGreatDoor
open Go.RowKit

theorem strO_app (l m : List Int) : strOfNums l ++ strOfNums m = strOfNums (l ++ m) := by
  apply ByteArray.ext
  simp [strOfNums]
theorem strO_strL (s : ByteArray) : strOfNums (strL s) = s := by
  apply ByteArray.ext
  apply Array.ext'
  simp [strOfNums, strL, Function.comp_def]
theorem strO_size (l : List Int) : (strOfNums l).size = l.length := strOfNums_size l
theorem run_makeW (n : Nat) (hn : n ≤ 1000) (w : World) : (Instr.makeSlice 42 (.int .i64 (n : Int)) (.int .i64 (n : Int))).run Tryz.prog w = .ok (.slice (some ⟨w.heap.size, 0, none⟩) n n) (w.alloc (.cells (bs (List.replicate n 0)).toArray 5)) := by
  obtain ⟨i0, hi, hz0, hz1, hz2⟩ := info_parts Tryz.infoU8
  have hr := run_make (P := Tryz.prog) w 42 5 i0 _ Tryz.underlying42 hi hz0 .i64 .i64 (n : Int) (n : Int) (by omega) (by omega) (by rw [hz2]; omega) (by omega)
  simp only [Int.toNat_natCast, hz1, Nat.mul_one] at hr
  have e : ∀ z : Array Value, z = #[.int .u8 0] → madeCells z n = (bs (List.replicate n 0)).toArray := by
    rintro z rfl
    apply Array.ext
    · simp [bs, madeCells]
    · intro i h1 h2
      simp [bs, madeCells, Nat.mod_one]
  have e2 := e _ (show (Value.int .u8 0).cells = #[.int .u8 0] from rfl)
  rw [hr, e2]
theorem run_make8 (w : World) : (Instr.makeSlice 42 (.int .i64 8) (.int .i64 8)).run Tryz.prog w = .ok (.slice (some ⟨w.heap.size, 0, none⟩) 8 8) (w.alloc (.cells (bs (List.replicate 8 0)).toArray 5)) := run_makeW 8 (by omega) w
theorem conv_one (w : World) (x : Int) : (convert 42 9 (.slice (some ⟨w.heap.size, 0, none⟩) 1 1)).run Tryz.prog (w.alloc (.cells #[.int .u8 x] 5)) = .ok (.string (strOfNums [x])) (w.alloc (.cells #[.int .u8 x] 5)) :=
  conv_Sl (Sl.new w #[.int .u8 x] 5 1 1 1 [[.int .u8 x]] rfl (by intro xs hxs; simp at hxs; subst hxs; rfl) rfl)
theorem set_bs (l : List Int) (m : Nat) (x : Int) : (bs l).toArray.setIfInBounds m (.int .u8 x) = (bs (l.set m x)).toArray := by
  simp [bs, List.map_set]
theorem set_rep (m : Nat) (x : Int) (l : List Int) : (List.replicate (m + 1) 0 ++ l).set m x = List.replicate m 0 ++ (x :: l) := by
  rw [List.replicate_succ', List.append_assoc, List.set_append_right (h := by simp)]
  simp

set_option maxRecDepth 100000 in set_option maxHeartbeats 4000000 in
theorem word_any (n : Int) (w : World) :
    Calls Tryz.prog 127 #[.int .u64 n] w fun e w' => e = .returned (.string (strOfNums (octs n 8))) ∧ Ext w w' := by
  have hmk := run_make8 w
  go_enter Tryz.func127, Tryz.ntmps127
  go_wp2
  go_loopg [8] 8 (fun y i wr => ∃ k : Nat, y + k = 8 ∧ i = .int .i64 k ∧ Hid (Blk wr w.heap.size (bs (List.replicate (8 - k) 0 ++ octs n k)).toArray 5) ∧ Hid (Ext w wr))
  case atStart => exact ⟨0, rfl, rfl, Hid.mk' (Blk.new _ _ _), Hid.mk' (by exact eX)⟩
  case round =>
    obtain ⟨k, hk, rfl, hb, hE⟩ := hrel
    by_cases hlt : k < 8
    · obtain ⟨m, hm⟩ : ∃ m, k + m = 7 := ⟨7 - k, by omega⟩
      have q1 : IntKind.i64.wrap (8 * (k : Int)) = 8 * (k : Int) := IntWalk.i64_in _ (by omega)
      have q2 : 8 * (k : Int) ≤ 64 := by omega
      have q3 : IntKind.u8.wrap (n / 2 ^ (8 * (k : Int)).toNat) = byteAt n k := by
        unfold byteAt
        rw [show (8 * (k : Int)).toNat = 8 * k by omega]
        simp [IntKind.wrap, IntKind.signed, IntKind.bits]
      have q4 : (7 : Int) - (k : Int) = (m : Int) := by omega
      have q5 : IntKind.i64.wrap (m : Int) = (m : Int) := IntWalk.i64_in _ (by omega)
      have q6 : (m : Int) < 8 := by omega
      have hc := hb.out.cell m
      have hf := hb.out.frozen
      have hl := hb.out.lt
      rw [show 8 - k = m + 1 by omega] at hc hb
      have hc2 : wr.cell? ⟨w.heap.size, m, none⟩ = some (.int .u8 0) := by
        rw [hc]
        simp [bs, List.getElem?_append]
      clear hc
      have HB2 := Hid.mk' (hb.out.set m (.int .u8 (byteAt n k)))
      have HM := Hid.mk' hm
      clear hm
      go_wp2
      go_roundg m
      case measure => have := HM.out; omega
      case rel =>
        refine ⟨k + 1, by have := HM.out; omega, by go_num, Hid.mk' ?_, Hid.mk' (Ext.setCell hE.out (Nat.le_refl _) _)⟩
        have h1 := HB2.out
        rw [set_bs, set_rep] at h1
        rw [show 8 - (k + 1) = m by have := HM.out; omega, octs_succ]
        exact h1
    · obtain rfl : k = 8 := by omega
      rw [Nat.sub_self, List.replicate_zero, List.nil_append] at hb
      have hS : Sl wr (.slice (some ⟨w.heap.size, 0, none⟩) 8 8) 1 ((octs n 8).map bcell) := by
        refine ⟨_, 8, by rw [List.length_map, octs_len], .inr ⟨w.heap.size, 0, rfl, hb.out.lt, fun i hi j hj => ?_⟩⟩
        rw [List.length_map, octs_len] at hi
        obtain rfl : j = 0 := by omega
        rw [getD_map bcell _ (by rw [octs_len]; exact hi), hb.out.cell]
        simp [bs, bcell, octs_len, hi]
      have hconv := conv_Sl hS
      clear hS
      go_wp2
      go_ret
      exact ⟨rfl, hE.out⟩

set_option maxRecDepth 100000 in set_option maxHeartbeats 4000000 in
theorem rword_any (n : Int) (many : Nat) (w : World) (h0 : 0 ≤ n) (h1 : n < 18446744073709551616) (hm : many ≤ 8) :
    Calls Tryz.prog 57 #[.int .u64 n, .int .i64 many] w fun e w' => e = .returned (.string (strOfNums (octs n many))) ∧ Ext w w' := by
  go_enter Tryz.func57, Tryz.ntmps57
  go_wp2
  go_loopg [0, 5, 6] many (fun y a s i wr => ∃ k : Nat, y + k = many ∧ a = .int .u64 (n / 2 ^ (8 * k)) ∧ s = .string (strOfNums (octs n k)) ∧ i = .int .i64 k ∧ Hid (Ext w wr))
  case atStart => exact ⟨0, rfl, by simp, rfl, rfl, Hid.mk' (Ext.refl w)⟩
  case round =>
    obtain ⟨k, hk, rfl, rfl, rfl, hE⟩ := hrel
    by_cases hlt : k < many
    · have hcv := conv_one wr
      have hsz := strO_size (octs n k)
      rw [octs_len] at hsz
      have q1 : 0 ≤ n / 2 ^ (8 * k) := Int.ediv_nonneg h0 (Int.le_of_lt (Int.pow_pos (by decide)))
      have hs1 : ∀ x : Int, (strOfNums [x]).size = 1 := fun x => strO_size [x]
      have q2 : (n / 2 ^ (8 * k)).tdiv 256 = n / 2 ^ (8 * (k + 1)) := by
        rw [Int.tdiv_eq_ediv_of_nonneg q1, Int.ediv_ediv_of_nonneg (Int.le_of_lt (Int.pow_pos (by decide))), show 8 * (k + 1) = 8 * k + 8 by omega, Int.pow_add]
        rfl
      have q4 : 0 ≤ n / 2 ^ (8 * (k + 1)) := Int.ediv_nonneg h0 (Int.le_of_lt (Int.pow_pos (by decide)))
      have q5 : n / 2 ^ (8 * (k + 1)) ≤ n := Int.ediv_le_self _ h0
      have q3 : IntKind.u64.wrap (n / 2 ^ (8 * (k + 1))) = n / 2 ^ (8 * (k + 1)) := by rw [u64_wrap]; omega
      go_wp2
      go_roundg (many - (k + 1))
      case measure => omega
      case rel => exact ⟨k + 1, by omega, rfl, by rw [strO_app]; rfl, by go_num, Hid.mk' (hE.out.alloc _)⟩
    · obtain rfl : k = many := by omega
      go_wp2
      go_ret
      exact ⟨rfl, hE.out⟩

set_option maxRecDepth 100000 in set_option maxHeartbeats 4000000 in
theorem rnum20_any (n : Int) (many : Nat) (w : World) (h0 : 0 ≤ n) (h1 : n < 18446744073709551616) (hm : many ≤ 8) :
    Calls Tryz.prog 29 #[.int .u64 n, .int .i64 many] w fun e w' => e = .returned (.string (strOfNums (octs n many))) ∧ Ext w w' := by
  have HC := Hid.mk' (fun W => rword_any n many W h0 h1 hm)
  go_enter Tryz.func29, Tryz.ntmps29
  go_wp2_with (go_at_call 57; refine (HC.out _).mono ?_; rintro e w2 ⟨rfl, hb2⟩)
  go_ret
  exact ⟨rfl, by exact eX⟩

end Go.Proofs.YtihldginolbooaaGreatDoor

/-
A value's spelling: the program's answer.
-/
namespace Go.Proofs.YtihldginolbooaaGreatDoor
open Go.RowKit Go.Shelf Go.Sort

/-- The table that the library's numbers' texts read. -/
def Tab (w : World) : Prop := Lib.TabIs Tryz.prog w "internal/strconv.uint64pow10" .u64 Lib.pow10Tab
theorem Tab.ext {w w' : World} (h : Tab w) (he : Ext w w') : Tab w' := by
  unfold Tab Lib.TabIs World.var? at h ⊢
  have hgn : Tryz.prog.globalNamed "internal/strconv.uint64pow10" = some 3 := by kernel_rfl
  rw [hgn] at h ⊢
  simp only [Option.bind_some] at h ⊢
  have hlt : 3 < w.heap.size := by
    rcases Nat.lt_or_ge 3 w.heap.size with h' | h'
    · exact h'
    · rw [Array.getElem?_eq_none h'] at h; cases h
  rw [he.block _ hlt]
  exact h
theorem ext_grow (w : World) (k : Nat) (os : Array Obj) : Ext w (grow (w.drewN k) os) :=
  ⟨rfl, rfl, rfl, by rw [size_grow]; exact Nat.le_add_right _ _, fun i hi => heap_grow_old (w.drewN k) os hi⟩
theorem litL_str (l : List UInt8) : strOfNums (litL l) = ⟨l.toArray⟩ := by
  apply ByteArray.ext
  apply Array.ext'
  simp [strOfNums, litL, Function.comp_def]

theorem rightV_bits {ty n x y : Int} {s : ByteArray} (h : rightV ty n x y s = 0) : (1 ≤ ty ∧ ty ≤ 6) ∧ (ty = 1 → n = 0 ∨ n = 1) ∧ s.size ≤ 2048 := by
  unfold rightV at h
  split at h
  · cases h
  · split at h
    · cases h
    · split at h
      · cases h
      · split at h
        · cases h
        · omega

set_option maxRecDepth 100000 in
theorem fmt_any (v : Int) (w : World) (h0 : -9223372036854775808 ≤ v) (h1 : v ≤ 9223372036854775807) (ht : Tab w) :
    Calls Tryz.prog 126 #[.int .i64 v, .int .i64 10] w fun e w' => e = .returned (.string (strOfNums (litL (Lib.itoa v)))) ∧ Ext w w' := by
  have h := Any.internal_strconv_FormatInt_10 Tryz.laysM246 v h0 h1 w ht
  change Calls Tryz.prog 138 _ _ _ at h
  have HC := Hid.mk' h
  rw [litL_str]
  clear h ht
  go_enter Tryz.func126, Tryz.ntmps126
  go_wp2_with (go_at_call 138; refine HC.out.mono ?_; rintro e w' ⟨rfl, k, os, rfl⟩)
  go_ret
  exact ⟨rfl, ext_grow w k os⟩

set_option maxRecDepth 100000 in set_option maxHeartbeats 4000000 in
theorem form_any (ty : Int) (w : World) : Calls Tryz.prog 106 #[.int .u8 ty] w fun e w' => e = .returned (.int .u8 (formI ty)) ∧ Ext w w' := by
  have HR := Hid.mk' (show formI ty = if ty = 1 ∨ ty = 2 ∨ ty = 5 then 116 else if ty = 3 ∨ ty = 4 ∨ ty = 6 then 98 else 0 from rfl)
  by_cases h1 : ty = 1
  · subst h1; go_enter Tryz.func106, Tryz.ntmps106; go_wp2; go_ret; exact ⟨rfl, Ext.refl _⟩
  by_cases h2 : ty = 2
  · subst h2; go_enter Tryz.func106, Tryz.ntmps106; go_wp2; go_ret; exact ⟨rfl, Ext.refl _⟩
  by_cases h5 : ty = 5
  · subst h5; go_enter Tryz.func106, Tryz.ntmps106; go_wp2; go_ret; exact ⟨rfl, Ext.refl _⟩
  by_cases h3 : ty = 3
  · subst h3; go_enter Tryz.func106, Tryz.ntmps106; go_wp2; go_ret; exact ⟨rfl, Ext.refl _⟩
  by_cases h4 : ty = 4
  · subst h4; go_enter Tryz.func106, Tryz.ntmps106; go_wp2; go_ret; exact ⟨rfl, Ext.refl _⟩
  by_cases h6 : ty = 6
  · subst h6; go_enter Tryz.func106, Tryz.ntmps106; go_wp2; go_ret; exact ⟨rfl, Ext.refl _⟩
  have HZ := Hid.mk' (HR.out.trans ((if_neg (by omega)).trans (if_neg (by omega))))
  have k1 : (ty == 1) = false := by simpa using h1
  have k2 : (ty == 2) = false := by simpa using h2
  have k3 : (ty == 3) = false := by simpa using h3
  have k4 : (ty == 4) = false := by simpa using h4
  have k5 : (ty == 5) = false := by simpa using h5
  have k6 : (ty == 6) = false := by simpa using h6
  clear HR h1 h2 h3 h4 h5 h6
  go_enter Tryz.func106, Tryz.ntmps106
  go_wp2
  go_ret
  exact ⟨by rw [HZ.out]; rfl, Ext.refl _⟩

set_option maxRecDepth 100000 in set_option maxHeartbeats 4000000 in
theorem spell_any (ty n : Int) (x y : Nat) (s : ByteArray) (w : World) (hn : -9223372036854775808 ≤ n ∧ n ≤ 9223372036854775807) (hs : s.size ≤ 9223372036854775807) (ht : Tab w) :
    Calls Tryz.prog 105 #[.agg #[.int .u8 ty, .int .i64 n, .complex .f64 x y, .string s]] w fun e w' => e = .returned (.tuple #[.string (strOfNums (spellL ty n x y s)), .int .i64 (rightV ty n x y s)]) ∧ Ext w w' := by
  have HV := Hid.mk' (fun W => vright_any ty n x y s W hs)
  have HF := Hid.mk' (fun W (h : Ext w W) => fmt_any n W hn.1 hn.2 (ht.ext h))
  have HX := Hid.mk' (Blk.new w #[.int .u8 ty, .int .i64 n, .complex .f64 x y, .string s] 140)
  clear ht
  by_cases hE : rightV ty n x y s = 0
  case neg =>
    have HL := Hid.mk' (show spellL ty n x y s = [] from if_pos hE)
    have HE2 : (rightV ty n x y s != 0) = true := by simpa using hE
    obtain ⟨E, hEE⟩ : ∃ E, E = rightV ty n x y s := ⟨_, rfl⟩
    rw [← hEE] at HV HE2 ⊢
    clear hE hEE
    go_enter Tryz.func105, Tryz.ntmps105
    have gX := HX.out.cell
    have zX := HX.out.lt
    go_wp2_with (go_at_call 125; refine (HV.out _).mono ?_; rintro e w2 ⟨rfl, hb2⟩)
    go_ret2
    exact ⟨by rw [HL.out]; rfl, by exact eX⟩
  have HL := Hid.mk' (show spellL ty n x y s = spellT ty n x y s from if_neg (by rw [hE]; simp))
  rw [hE] at HV ⊢
  have HB := Hid.mk' (rightV_bits hE)
  have HWX := Hid.mk' (fun (m : Nat) W => word_any (m : Int) W)
  by_cases h1 : ty = 1
  · subst h1
    rcases HB.out.2.1 rfl with rfl | rfl
    all_goals
      clear hE HF HWX
      go_enter Tryz.func105, Tryz.ntmps105
      have gX := HX.out.cell
      have zX := HX.out.lt
      go_wp2_with (go_at_call 125; refine (HV.out _).mono ?_; rintro e w2 ⟨rfl, hb2⟩; clear gX zX; have gX := (HX.out.ext hb2).cell; have zX := (HX.out.ext hb2).lt)
      go_ret2
      exact ⟨by rw [HL.out]; rfl, by exact eX⟩
  have k1 : (ty == 1) = false := by simpa using h1
  by_cases h2 : ty = 2
  · subst h2
    have HS := Hid.mk' (HL.out.trans (show spellT 2 n x y s = litL (Lib.itoa n) from rfl))
    clear hE HWX HL
    go_enter Tryz.func105, Tryz.ntmps105
    have gX := HX.out.cell
    have zX := HX.out.lt
    go_wp2_with (first
      | (go_at_call 125; refine (HV.out _).mono ?_; rintro e w2 ⟨rfl, hb2⟩; clear gX zX; have gX := (HX.out.ext hb2).cell; have zX := (HX.out.ext hb2).lt)
      | (go_at_call 126; refine (HF.out _ (by exact eX)).mono ?_; rintro e w3 ⟨rfl, hb3⟩))
    go_ret2
    exact ⟨by rw [HS.out]; rfl, by exact eX⟩
  have k2 : (ty == 2) = false := by simpa using h2
  by_cases h3 : ty = 3
  · subst h3
    have HS := Hid.mk' (HL.out.trans (show spellT 3 n x y s = octs x 8 from rfl))
    clear hE HF HL
    have hfb := call_bits
    go_enter Tryz.func105, Tryz.ntmps105
    have gX := HX.out.cell
    have zX := HX.out.lt
    go_wp2_with (first
      | (go_at_call 125; refine (HV.out _).mono ?_; rintro e w2 ⟨rfl, hb2⟩; clear gX zX; have gX := (HX.out.ext hb2).cell; have zX := (HX.out.ext hb2).lt)
      | (go_at_call 127; refine (HWX.out x _).mono ?_; rintro e w3 ⟨rfl, hb3⟩))
    go_ret2
    exact ⟨by rw [HS.out]; rfl, by exact eX⟩
  have k3 : (ty == 3) = false := by simpa using h3
  by_cases h4 : ty = 4
  · subst h4
    have HS := Hid.mk' (HL.out.trans (show spellT 4 n x y s = octs x 8 ++ octs y 8 from rfl))
    have s1 := strO_size (octs x 8)
    have s2 := strO_size (octs y 8)
    rw [octs_len] at s1 s2
    clear hE HF HL
    have hfb := call_bits
    go_enter Tryz.func105, Tryz.ntmps105
    have gX := HX.out.cell
    have zX := HX.out.lt
    go_upto_region 12 with (go_at_call 125; refine (HV.out _).mono ?_; rintro e w2 ⟨rfl, hb2⟩; have HX2 := Hid.mk' (HX.out.ext hb2); have HB2 := Hid.mk' hb2; clear gX zX hb2; have gX := HX2.out.cell; have zX := HX2.out.lt)
    have HE2 := Hid.mk' (show Ext w w2 by have := HB2.out; exact eX)
    have hA0 : Hid ((fun w' => Ext (w2) w' ∧ (∀ b o, b < (w2).heap.size → w'.cell? ⟨b, o, none⟩ = (w2).cell? ⟨b, o, none⟩) ∧ (∀ b o, b < (w2).heap.size → w'.frozen? ⟨b, o, none⟩ = (w2).frozen? ⟨b, o, none⟩)) w2.drew) := held_of (by exact eX)
    refine wp_region_head 11 (fun w' => Ext (w2) w' ∧ (∀ b o, b < (w2).heap.size → w'.cell? ⟨b, o, none⟩ = (w2).cell? ⟨b, o, none⟩) ∧ (∀ b o, b < (w2).heap.size → w'.frozen? ⟨b, o, none⟩ = (w2).frozen? ⟨b, o, none⟩)) (by kernel_rfl) (by decide) ?_
    refine HG.on 0 34 hA0.out ?_
    try simp only [Act.put, List.setIfInBounds_toArray, List.set_cons_zero, List.set_cons_succ]
    refine HG.on 1 35 hA0.out ?_
    try simp only [Act.put, List.setIfInBounds_toArray, List.set_cons_zero, List.set_cons_succ]
    refine HG.on 2 36 hA0.out ?_
    try simp only [Act.put, List.setIfInBounds_toArray, List.set_cons_zero, List.set_cons_succ]
    refine HG.on 5 39 hA0.out ?_
    try simp only [Act.put, List.setIfInBounds_toArray, List.set_cons_zero, List.set_cons_succ]
    refine HG.on 6 40 hA0.out ?_
    try simp only [Act.put, List.setIfInBounds_toArray, List.set_cons_zero, List.set_cons_succ]
    refine HG.on 7 41 hA0.out ?_
    try simp only [Act.put, List.setIfInBounds_toArray, List.set_cons_zero, List.set_cons_succ]
    refine wpHd_one (i := 3) rfl rfl (by kernel_rfl) (fun KK hK => ?_)
    go_simp
    refine hK.out _ _ hA0.out (fun hA => ?_)
    clear hK KK hA
    refine wpHd_one (i := 4) rfl rfl (by kernel_rfl) (fun KK hK => ?_)
    go_simp
    refine (HWX.out x _).mono ?_
    rintro e w3 ⟨rfl, hb3⟩
    have HB3 : Hid (Ext w2 w3) := Hid.mk' (by exact eX)
    refine hK.out _ _ (held_of HB3.out) (fun hA => ?_)
    clear hK KK hA hA0 hb3
    have hA0 : Hid ((fun w' => Ext (w2) w' ∧ (∀ b o, b < (w2).heap.size → w'.cell? ⟨b, o, none⟩ = (w2).cell? ⟨b, o, none⟩) ∧ (∀ b o, b < (w2).heap.size → w'.frozen? ⟨b, o, none⟩ = (w2).frozen? ⟨b, o, none⟩)) w3) := held_of HB3.out
    refine wpHd_one (i := 8) rfl rfl (by kernel_rfl) (fun KK hK => ?_)
    go_simp
    refine hK.out _ _ hA0.out (fun hA => ?_)
    clear hK KK hA hA0
    refine wpHd_one (i := 9) rfl rfl (by kernel_rfl) (fun KK hK => ?_)
    go_simp
    refine (HWX.out y _).mono ?_
    rintro e w4 ⟨rfl, hb4⟩
    have HB4 : Hid (Ext w2 w4) := Hid.mk' (HB3.out.trans hb4)
    refine hK.out _ _ (held_of HB4.out) (fun hA => ?_)
    clear hK KK hA hb4
    have hA0 : Hid ((fun w' => Ext (w2) w' ∧ (∀ b o, b < (w2).heap.size → w'.cell? ⟨b, o, none⟩ = (w2).cell? ⟨b, o, none⟩) ∧ (∀ b o, b < (w2).heap.size → w'.frozen? ⟨b, o, none⟩ = (w2).frozen? ⟨b, o, none⟩)) w4) := held_of HB4.out
    refine HG.on 10 44 hA0.out ?_
    try simp only [Act.put, List.setIfInBounds_toArray, List.set_cons_zero, List.set_cons_succ]
    clear hA0 gX zX
    refine wpHd_tail (by kernel_rfl) ?_
    simp only [List.drop_succ_cons, List.drop_zero]
    go_wp2
    go_ret2
    exact ⟨by rw [HS.out, ← strO_app]; rfl, HE2.out.trans HB4.out⟩
  have k4 : (ty == 4) = false := by simpa using h4
  have HS := Hid.mk' (HL.out.trans (show spellT ty n x y s = strL s from by unfold spellT; rw [if_neg h1, if_neg h2, if_neg h3, if_neg h4]))
  clear hE HF HL HWX h1 h2 h3 h4
  go_enter Tryz.func105, Tryz.ntmps105
  have gX := HX.out.cell
  have zX := HX.out.lt
  go_wp2_with (go_at_call 125; refine (HV.out _).mono ?_; rintro e w2 ⟨rfl, hb2⟩; clear gX zX; have gX := (HX.out.ext hb2).cell; have zX := (HX.out.ext hb2).lt)
  go_ret2
  exact ⟨by rw [HS.out, strO_strL]; rfl, by exact eX⟩

end Go.Proofs.YtihldginolbooaaGreatDoor
