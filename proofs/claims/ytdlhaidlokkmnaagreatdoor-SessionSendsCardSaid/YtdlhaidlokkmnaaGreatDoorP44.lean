/-
Refs, names, values as texts: the reference's answers.
-/
import Derived.Lib.ConvBytes
import Derived.Test.YtdlhaidlokkmnaaGreatDoorP27
import Derived.Test.YtdlhaidlokkmnaaGreatDoorP37
import Derived.Test.YtdlhaidlokkmnaaGreatDoorP1
import Derived.Test.YtdlhaidlokkmnaaGreatDoorP28
import Derived.Test.YtdlhaidlokkmnaaGreatDoorP2
set_option maxRecDepth 100000
set_option maxHeartbeats 16000000
namespace Go.Proofs.YtdlhaidlokkmnaaGreatDoor
open Go.RowKit
theorem txt_litL (l : List UInt8) : txt l = strOfNums (litL l) := by rw [litL_str]; rfl
theorem rref20_any (o v : Int) (w : World) (ho : B32 o) (hv : B32 v) :
    Calls Tryz.prog 49 #[.agg #[.int .u32 o, .int .u32 v]] w fun e w' => e = .returned (.string (strOfNums (refW o v))) ∧ Ext w w' := by
  have HX := Hm (Blk.new w #[.int .u32 o, .int .u32 v] 47)
  have HO := Hm (fun W => rnum20_any o 4 W ho.1 (by have := ho.2; omega) (by omega))
  have HV := Hm (fun W => rnum20_any v 4 W hv.1 (by have := hv.2; omega) (by omega))
  have w1 := ho.u64
  have w2 := hv.u64
  have s1 := strO_size (octs o 4)
  have s2 := strO_size (octs v 4)
  rw [octs_len] at s1 s2
  have HE1 := Hm (show Ext w (w.alloc (.cells #[.int .u32 o, .int .u32 v] 47)) from (Ext.refl w).alloc _)
  clear ho hv
  go_enter Tryz.func49, Tryz.ntmps49
  obtain ⟨w1', hw1⟩ : ∃ W, W = w.alloc (.cells #[.int .u32 o, .int .u32 v] 47) := ⟨_, rfl⟩
  go_upto_region 1 with (fail)
  rw [← hw1] at HX HE1 ⊢
  clear hw1
  have gX := HX.out.cell
  have zX := HX.out.lt
  have hA0 : Hid ((fun w' => Ext (w1') w' ∧ (∀ b o, b < (w1').heap.size → w'.cell? ⟨b, o, none⟩ = (w1').cell? ⟨b, o, none⟩) ∧ (∀ b o, b < (w1').heap.size → w'.frozen? ⟨b, o, none⟩ = (w1').frozen? ⟨b, o, none⟩)) w1'.drew) := held_of (by exact eX)
  refine wp_region_head 9 (fun w' => Ext (w1') w' ∧ (∀ b o, b < (w1').heap.size → w'.cell? ⟨b, o, none⟩ = (w1').cell? ⟨b, o, none⟩) ∧ (∀ b o, b < (w1').heap.size → w'.frozen? ⟨b, o, none⟩ = (w1').frozen? ⟨b, o, none⟩)) (by kernel_rfl) (by decide) ?_
  refine HG.on 0 3 hA0.out ?_
  try simp only [Act.put, List.setIfInBounds_toArray, List.set_cons_zero, List.set_cons_succ]
  refine HG.on 1 4 hA0.out ?_
  try simp only [Act.put, List.setIfInBounds_toArray, List.set_cons_zero, List.set_cons_succ]
  refine HG.on 2 5 hA0.out ?_
  try simp only [Act.put, List.setIfInBounds_toArray, List.set_cons_zero, List.set_cons_succ]
  refine HG.on 4 7 hA0.out ?_
  try simp only [Act.put, List.setIfInBounds_toArray, List.set_cons_zero, List.set_cons_succ]
  refine HG.on 5 8 hA0.out ?_
  try simp only [Act.put, List.setIfInBounds_toArray, List.set_cons_zero, List.set_cons_succ]
  refine HG.on 6 9 hA0.out ?_
  try simp only [Act.put, List.setIfInBounds_toArray, List.set_cons_zero, List.set_cons_succ]
  refine wpHd_one (i := 3) rfl rfl (by kernel_rfl) (fun KK hK => ?_)
  go_simp
  refine (HO.out _).mono ?_
  rintro e w3 ⟨rfl, hb3⟩
  have HB3 := Hm (show Ext w1' w3 by exact eX)
  refine hK.out _ _ (held_of HB3.out) (fun hA => ?_)
  clear hK KK hA hA0 hb3
  refine wpHd_one (i := 7) rfl rfl (by kernel_rfl) (fun KK hK => ?_)
  go_simp
  refine (HV.out _).mono ?_
  rintro e w4 ⟨rfl, hb4⟩
  have HB4 := Hm (show Ext w1' w4 from HB3.out.trans hb4)
  refine hK.out _ _ (held_of HB4.out) (fun hA => ?_)
  clear hK KK hA hb4
  have hA0 : Hid ((fun w' => Ext (w1') w' ∧ (∀ b o, b < (w1').heap.size → w'.cell? ⟨b, o, none⟩ = (w1').cell? ⟨b, o, none⟩) ∧ (∀ b o, b < (w1').heap.size → w'.frozen? ⟨b, o, none⟩ = (w1').frozen? ⟨b, o, none⟩)) w4) := held_of HB4.out
  refine HG.on 8 11 hA0.out ?_
  try simp only [Act.put, List.setIfInBounds_toArray, List.set_cons_zero, List.set_cons_succ]
  clear hA0 gX zX
  refine wpHd_tail (by kernel_rfl) ?_
  simp only [List.drop_succ_cons, List.drop_zero]
  go_wp2
  go_ret
  exact ⟨by unfold refW; rw [← strO_app]; rfl, HE1.out.trans HB4.out⟩
theorem rname20_any (s : ByteArray) (w : World) (hs : s.size ≤ 100000) :
    Calls Tryz.prog 50 #[.string s] w fun e w' => e = .returned (.string (strOfNums (nameW s))) ∧ Ext w w' := by
  have HO := Hm (fun W => rnum20_any (s.size : Int) 1 W (by omega) (by omega) (by omega))
  have w1 := u64_small (n := (s.size : Int)) (by omega) (by omega)
  have s1 := strO_size (octs s.size 1)
  rw [octs_len] at s1
  have HR := Hm (show strOfNums (octs s.size 1) ++ s = strOfNums (nameW s) by unfold nameW; rw [← strO_app, strO_strL])
  go_enter Tryz.func50, Tryz.ntmps50
  go_wp2_with (go_at_call 48; refine (HO.out _).mono ?_; rintro e w2 ⟨rfl, hb2⟩)
  go_ret
  exact ⟨by rw [← HR.out]; rfl, by exact eX⟩
theorem rform_any (ty : Int) (w : World) : Calls Tryz.prog 78 #[.int .u8 ty] w fun e w' => e = .returned (.int .u8 (formI ty)) ∧ Ext w w' := by
  have HR := Hm (show formI ty = if ty = 1 ∨ ty = 2 ∨ ty = 5 then 116 else if ty = 3 ∨ ty = 4 ∨ ty = 6 then 98 else 0 from rfl)
  by_cases h1 : ty = 1
  · subst h1; go_enter Tryz.func78, Tryz.ntmps78; go_wp2; go_ret; exact ⟨rfl, Ext.refl _⟩
  by_cases h2 : ty = 2
  · subst h2; go_enter Tryz.func78, Tryz.ntmps78; go_wp2; go_ret; exact ⟨rfl, Ext.refl _⟩
  by_cases h5 : ty = 5
  · subst h5; go_enter Tryz.func78, Tryz.ntmps78; go_wp2; go_ret; exact ⟨rfl, Ext.refl _⟩
  by_cases h3 : ty = 3
  · subst h3; go_enter Tryz.func78, Tryz.ntmps78; go_wp2; go_ret; exact ⟨rfl, Ext.refl _⟩
  by_cases h4 : ty = 4
  · subst h4; go_enter Tryz.func78, Tryz.ntmps78; go_wp2; go_ret; exact ⟨rfl, Ext.refl _⟩
  by_cases h6 : ty = 6
  · subst h6; go_enter Tryz.func78, Tryz.ntmps78; go_wp2; go_ret; exact ⟨rfl, Ext.refl _⟩
  have HZ := Hm (HR.out.trans ((if_neg (by omega)).trans (if_neg (by omega))))
  have k1 : (ty == 1) = false := by simpa using h1
  have k2 : (ty == 2) = false := by simpa using h2
  have k3 : (ty == 3) = false := by simpa using h3
  have k4 : (ty == 4) = false := by simpa using h4
  have k5 : (ty == 5) = false := by simpa using h5
  have k6 : (ty == 6) = false := by simpa using h6
  clear HR h1 h2 h3 h4 h5 h6
  go_enter Tryz.func78, Tryz.ntmps78
  go_wp2
  go_ret
  exact ⟨by rw [HZ.out]; rfl, Ext.refl _⟩
theorem rspell_any (ty n : Int) (x y : Nat) (s : ByteArray) (w : World) (hn : -9223372036854775808 ≤ n ∧ n ≤ 9223372036854775807) (hx : x < 2 ^ 64) (hy : y < 2 ^ 64) (hs : s.size ≤ 9223372036854775807) :
    Calls Tryz.prog 77 #[.agg #[.int .u8 ty, .int .i64 n, .int .u64 x, .int .u64 y, .string s]] w fun e w' => e = .returned (.tuple #[.string (strOfNums (spellL ty n x y s)), .int .i64 (rightV ty n x y s)]) ∧ Ext w w' := by
  have HV := Hm (fun W => rright_any ty n x y s W hs)
  have HF := Hm (fun W => rsigned_any n W hn.1 hn.2)
  have HX := Hm (Blk.new w #[.int .u8 ty, .int .i64 n, .int .u64 x, .int .u64 y, .string s] 95)
  by_cases hE : rightV ty n x y s = 0
  case neg =>
    have HL := Hm (show spellL ty n x y s = [] from if_pos hE)
    have HE2 : (rightV ty n x y s != 0) = true := by simpa using hE
    obtain ⟨E, hEE⟩ : ∃ E, E = rightV ty n x y s := ⟨_, rfl⟩
    rw [← hEE] at HV HE2 ⊢
    clear hE hEE
    go_enter Tryz.func77, Tryz.ntmps77
    have gX := HX.out.cell
    have zX := HX.out.lt
    go_wp2_with (go_at_call 105; refine (HV.out _).mono ?_; rintro e w2 ⟨rfl, hb2⟩)
    go_ret2
    exact ⟨by rw [HL.out]; rfl, by exact eX⟩
  have HL := Hm (show spellL ty n x y s = spellT ty n x y s from if_neg (by rw [hE]; simp))
  have HB := Hm (rightV_bits hE)
  rw [hE] at HV ⊢
  have HWX := Hm (fun W => rword_any (x : Int) 8 W (by omega) (by omega) (by omega))
  have HWY := Hm (fun W => rword_any (y : Int) 8 W (by omega) (by omega) (by omega))
  by_cases h1 : ty = 1
  · subst h1
    rcases HB.out.2.1 rfl with rfl | rfl
    all_goals
      clear hE HF HWX HWY
      go_enter Tryz.func77, Tryz.ntmps77
      have gX := HX.out.cell
      have zX := HX.out.lt
      go_wp2_with (go_at_call 105; refine (HV.out _).mono ?_; rintro e w2 ⟨rfl, hb2⟩; clear gX zX; have gX := (HX.out.ext hb2).cell; have zX := (HX.out.ext hb2).lt)
      go_ret2
      exact ⟨by rw [HL.out]; rfl, by exact eX⟩
  have k1 : (ty == 1) = false := by simpa using h1
  by_cases h2 : ty = 2
  · subst h2
    have HS := Hm (HL.out.trans (show spellT 2 n x y s = litL (Lib.itoa n) from rfl))
    rw [txt_litL] at HF
    clear hE HWX HWY HL
    go_enter Tryz.func77, Tryz.ntmps77
    have gX := HX.out.cell
    have zX := HX.out.lt
    go_wp2_with (first
      | (go_at_call 105; refine (HV.out _).mono ?_; rintro e w2 ⟨rfl, hb2⟩; clear gX zX; have gX := (HX.out.ext hb2).cell; have zX := (HX.out.ext hb2).lt)
      | (go_at_call 106; refine (HF.out _).mono ?_; rintro e w3 ⟨rfl, rfl⟩))
    go_ret2
    exact ⟨by rw [HS.out]; rfl, by exact eX⟩
  have k2 : (ty == 2) = false := by simpa using h2
  by_cases h3 : ty = 3
  · subst h3
    have HS := Hm (HL.out.trans (show spellT 3 n x y s = octs x 8 from rfl))
    clear hE HF HL HWY
    go_enter Tryz.func77, Tryz.ntmps77
    have gX := HX.out.cell
    have zX := HX.out.lt
    go_wp2_with (first
      | (go_at_call 105; refine (HV.out _).mono ?_; rintro e w2 ⟨rfl, hb2⟩; clear gX zX; have gX := (HX.out.ext hb2).cell; have zX := (HX.out.ext hb2).lt)
      | (go_at_call 76; refine (HWX.out _).mono ?_; rintro e w3 ⟨rfl, hb3⟩))
    go_ret2
    exact ⟨by rw [HS.out]; rfl, by exact eX⟩
  have k3 : (ty == 3) = false := by simpa using h3
  by_cases h4 : ty = 4
  · subst h4
    have HS := Hm (HL.out.trans (show spellT 4 n x y s = octs x 8 ++ octs y 8 from rfl))
    have s1 := strO_size (octs x 8)
    have s2 := strO_size (octs y 8)
    rw [octs_len] at s1 s2
    clear hE HF HL
    go_enter Tryz.func77, Tryz.ntmps77
    have gX := HX.out.cell
    have zX := HX.out.lt
    go_upto_region 14 with (go_at_call 105; refine (HV.out _).mono ?_; rintro e w2 ⟨rfl, hb2⟩; have HX2 := Hm (HX.out.ext hb2); have HB2 := Hm hb2; clear gX zX hb2; have gX := HX2.out.cell; have zX := HX2.out.lt)
    have HE2 := Hm (show Ext w w2 by have := HB2.out; exact eX)
    have hA0 : Hid ((fun w' => Ext (w2) w' ∧ (∀ b o, b < (w2).heap.size → w'.cell? ⟨b, o, none⟩ = (w2).cell? ⟨b, o, none⟩) ∧ (∀ b o, b < (w2).heap.size → w'.frozen? ⟨b, o, none⟩ = (w2).frozen? ⟨b, o, none⟩)) w2.drew) := held_of (by exact eX)
    refine wp_region_head 7 (fun w' => Ext (w2) w' ∧ (∀ b o, b < (w2).heap.size → w'.cell? ⟨b, o, none⟩ = (w2).cell? ⟨b, o, none⟩) ∧ (∀ b o, b < (w2).heap.size → w'.frozen? ⟨b, o, none⟩ = (w2).frozen? ⟨b, o, none⟩)) (by kernel_rfl) (by decide) ?_
    refine HG.on 0 29 hA0.out ?_
    try simp only [Act.put, List.setIfInBounds_toArray, List.set_cons_zero, List.set_cons_succ]
    refine HG.on 1 30 hA0.out ?_
    try simp only [Act.put, List.setIfInBounds_toArray, List.set_cons_zero, List.set_cons_succ]
    refine HG.on 3 32 hA0.out ?_
    try simp only [Act.put, List.setIfInBounds_toArray, List.set_cons_zero, List.set_cons_succ]
    refine HG.on 4 33 hA0.out ?_
    try simp only [Act.put, List.setIfInBounds_toArray, List.set_cons_zero, List.set_cons_succ]
    refine wpHd_one (i := 2) rfl rfl (by kernel_rfl) (fun KK hK => ?_)
    go_simp
    refine (HWX.out _).mono ?_
    rintro e w3 ⟨rfl, hb3⟩
    have HB3 : Hid (Ext w2 w3) := Hm (by exact eX)
    refine hK.out _ _ (held_of HB3.out) (fun hA => ?_)
    clear hK KK hA hA0 hb3
    refine wpHd_one (i := 5) rfl rfl (by kernel_rfl) (fun KK hK => ?_)
    go_simp
    refine (HWY.out _).mono ?_
    rintro e w4 ⟨rfl, hb4⟩
    have HB4 : Hid (Ext w2 w4) := Hm (HB3.out.trans hb4)
    refine hK.out _ _ (held_of HB4.out) (fun hA => ?_)
    clear hK KK hA hb4
    have hA0 : Hid ((fun w' => Ext (w2) w' ∧ (∀ b o, b < (w2).heap.size → w'.cell? ⟨b, o, none⟩ = (w2).cell? ⟨b, o, none⟩) ∧ (∀ b o, b < (w2).heap.size → w'.frozen? ⟨b, o, none⟩ = (w2).frozen? ⟨b, o, none⟩)) w4) := held_of HB4.out
    refine HG.on 6 35 hA0.out ?_
    try simp only [Act.put, List.setIfInBounds_toArray, List.set_cons_zero, List.set_cons_succ]
    clear hA0 gX zX
    refine wpHd_tail (by kernel_rfl) ?_
    simp only [List.drop_succ_cons, List.drop_zero]
    go_wp2
    go_ret2
    exact ⟨by rw [HS.out, ← strO_app]; rfl, HE2.out.trans HB4.out⟩
  have k4 : (ty == 4) = false := by simpa using h4
  have HS := Hm (HL.out.trans (show spellT ty n x y s = strL s from by unfold spellT; rw [if_neg h1, if_neg h2, if_neg h3, if_neg h4]))
  clear hE HF HL HWX HWY h1 h2 h3 h4
  go_enter Tryz.func77, Tryz.ntmps77
  have gX := HX.out.cell
  have zX := HX.out.lt
  go_wp2_with (go_at_call 105; refine (HV.out _).mono ?_; rintro e w2 ⟨rfl, hb2⟩; clear gX zX; have gX := (HX.out.ext hb2).cell; have zX := (HX.out.ext hb2).lt)
  go_ret2
  exact ⟨by rw [HS.out, strO_strL]; rfl, by exact eX⟩
theorem strO_app_cons (f : Int) (l : List Int) : strOfNums [f] ++ strOfNums l = strOfNums (f :: l) := strO_app [f] l
theorem rimage20_any (letter : Int) (ls : List K) (a : Option Addr) (c : Nat) (w : World) (hl : Sl w (.slice a ls.length c) 6 (ls.map K.rc)) (hn : ls.length ≤ 1000) (hb : ∀ c ∈ ls, c.tw) :
    Calls Tryz.prog 51 #[.string (strOfNums [letter]), .slice a ls.length c] w fun e w' => e = .returned (.string (strOfNums (imgW letter ls))) ∧ Ext w w' := by
  have HL := Hm hl
  have HTW := Hm hb
  have HN1 := Hm (fun W => rnum20_any (ls.length : Int) 1 W (by omega) (by omega) (by omega))
  have w1 := u64_small (n := (ls.length : Int)) (by omega) (by omega)
  have s0 := strO_size [letter]
  have s1 := strO_size (octs ls.length 1)
  rw [octs_len] at s1
  simp only [List.length_singleton] at s0
  have HNB := Hm (fun c (hc : c ∈ ls) => (show -9223372036854775808 ≤ c.v.n ∧ c.v.n ≤ 9223372036854775807 from by have h := (hb c hc).n; omega))
  clear hl hb
  go_enter Tryz.func51, Tryz.ntmps51
  go_upto_region 2 with (go_at_call 48; refine (HN1.out _).mono ?_; rintro e w2 ⟨rfl, hb2⟩; have HB2 := Hm (show Ext w w2 by exact eX); clear hb2)
  go_wp2
  go_loopg [5, 6] ls.length (fun y t i wr => ∃ k : Nat, y + k = ls.length ∧ t = .string (strOfNums ([letter] ++ octs ls.length 1 ++ cellsW (ls.take k))) ∧ i = .int .i64 k ∧ Hid (Ext w wr))
  case atStart => exact ⟨0, rfl, by rw [List.take_zero, strO_app]; show _ = Value.string (strOfNums (_ ++ [])); rw [List.append_nil], rfl, HB2⟩
  case round =>
    obtain ⟨k, hk, rfl, rfl, hE⟩ := hrel
    by_cases hlt : k < ls.length
    · obtain ⟨b, o, rfl, hb2, hx2⟩ := HL.out.at_ (i := k) (by simpa using hlt)
      have HF := Hm (fun W (h : Ext w W) => (show _ ∧ b < W.heap.size from ⟨K.rcAt hlt hx2 hb2 h, Nat.lt_of_lt_of_le hb2 h.size⟩))
      have HCT := Hm (cellsW_take hlt)
      have HCL := Hm (cellsW_len (ls.take k) (fun c hc => HNB.out c (List.mem_of_mem_take hc)))
      have HXB := Hm (HNB.out _ (List.getElem_mem hlt))
      have HXW := Hm (HTW.out _ (List.getElem_mem hlt))
      obtain ⟨x, hx⟩ : ∃ x, x = ls[k]'hlt := ⟨_, rfl⟩
      rw [← hx] at HF HCT HXB HXW
      clear hx hx2 hb2
      have HLT := Hm hlt
      have i1 : (k : Int) < (ls.length : Int) := by omega
      obtain ⟨t5, ht5⟩ : ∃ z, z = strOfNums ([letter] ++ octs ls.length 1 ++ cellsW (ls.take k)) := ⟨_, rfl⟩
      have h5 : t5.size ≤ 4000000 := by
        rw [ht5, strO_size]
        have h1 := HCL.out
        rw [List.length_take] at h1
        have h2 : 3010 * min k ls.length ≤ 3010 * 1000 := Nat.mul_le_mul_left _ (by omega)
        simp only [List.length_append, List.length_singleton, octs_len]
        omega
      rw [← ht5]
      have HT5 := Hm ht5
      clear ht5
      obtain ⟨xk, ⟨ty, n, xx, yy, s⟩⟩ := x
      simp only at HF HXB HXW
      obtain ⟨⟨f0, f1, f2, f3, f4, f5⟩, hbw⟩ := HF.out wr hE.out
      have HCW := Hm (show cellW ⟨xk, ⟨ty, n, xx, yy, s⟩⟩ = if xk = 0 then [110] else if xk = 1 then [117] else formI ty :: (octs (spellL ty n xx yy s).length 4 ++ spellL ty n xx yy s) from rfl)
      by_cases h0 : xk = 0
      · subst h0
        have HR := Hm (HCW.out.trans (if_pos rfl))
        clear HCW
        go_wp2
        go_roundg (ls.length - (k + 1))
        case measure => have := HLT.out; omega
        case rel => exact ⟨k + 1, Nat.sub_add_cancel HLT.out, by rw [HCT.out, HR.out, ← List.append_assoc, ← strO_app, ← HT5.out]; rfl, by go_num, hE⟩
      have HC1 := Hm (HCW.out.trans (if_neg h0))
      have k0 : (xk == 0) = false := by simpa using h0
      clear HCW h0
      by_cases h1 : xk = 1
      · subst h1
        have HR := Hm (HC1.out.trans (if_pos rfl))
        clear HC1
        go_wp2
        go_roundg (ls.length - (k + 1))
        case measure => have := HLT.out; omega
        case rel => exact ⟨k + 1, Nat.sub_add_cancel HLT.out, by rw [HCT.out, HR.out, ← List.append_assoc, ← strO_app, ← HT5.out]; rfl, by go_num, hE⟩
      have HR := Hm (HC1.out.trans (if_neg h1))
      have k1 : (xk == 1) = false := by simpa using h1
      clear HC1 h1
      have HFM := Hm (fun W => rform_any ty W)
      have HSP := Hm (fun W => rspell_any ty n xx yy s W HXB.out HXW.out.x HXW.out.y HXW.out.s)
      have HSL := Hm (spellL_len ty n xx yy s HXB.out)
      obtain ⟨f, hf⟩ : ∃ f, f = formI ty := ⟨_, rfl⟩
      obtain ⟨sp, hsp⟩ : ∃ z, z = spellL ty n xx yy s := ⟨_, rfl⟩
      rw [← hf] at HFM HR
      rw [← hsp] at HSL HSP HR
      have hsz := strO_size sp
      obtain ⟨st, hst⟩ : ∃ z, z = strOfNums sp := ⟨_, rfl⟩
      rw [← hst] at HSP hsz
      have HST := Hm hst
      have HSZ := Hm hsz
      have hst3 : st.size ≤ 3000 := by have := HSL.out; omega
      clear hf hsp hst hsz
      have w4 := u64_small (n := (st.size : Int)) (by omega) (by omega)
      have HN4 := Hm (fun W => rnum20_any (st.size : Int) 4 W (by omega) (by omega) (by omega))
      have s4 := strO_size (octs st.size 4)
      rw [octs_len] at s4
      have hf1 := strO_size [f]
      simp only [List.length_singleton] at hf1
      go_upto_region 7 with (go_at_call 77; refine (HSP.out _).mono ?_; rintro e w3 ⟨rfl, hb3⟩; have HB3 := Hm (show Ext wr w3 by exact eX); clear hb3)
      clear f0 f1 f2 f3 f4 f5 hbw
      have HE3 := Hm (hE.out.trans HB3.out)
      obtain ⟨⟨f0, f1, f2, f3, f4, f5⟩, hbw⟩ := HF.out w3 HE3.out
      have hA0 : Hid ((fun w' => Ext (w3) w' ∧ (∀ b o, b < (w3).heap.size → w'.cell? ⟨b, o, none⟩ = (w3).cell? ⟨b, o, none⟩) ∧ (∀ b o, b < (w3).heap.size → w'.frozen? ⟨b, o, none⟩ = (w3).frozen? ⟨b, o, none⟩)) w3.drew) := held_of (by exact eX)
      refine wp_region_head 18 (fun w' => Ext (w3) w' ∧ (∀ b o, b < (w3).heap.size → w'.cell? ⟨b, o, none⟩ = (w3).cell? ⟨b, o, none⟩) ∧ (∀ b o, b < (w3).heap.size → w'.frozen? ⟨b, o, none⟩ = (w3).frozen? ⟨b, o, none⟩)) (by kernel_rfl) (by decide) ?_
      refine HG.on 0 35 hA0.out ?_
      try simp only [Act.put, List.setIfInBounds_toArray, List.set_cons_zero, List.set_cons_succ]
      refine HG.on 1 36 hA0.out ?_
      try simp only [Act.put, List.setIfInBounds_toArray, List.set_cons_zero, List.set_cons_succ]
      refine HG.on 2 37 hA0.out ?_
      try simp only [Act.put, List.setIfInBounds_toArray, List.set_cons_zero, List.set_cons_succ]
      refine HG.on 3 38 hA0.out ?_
      try simp only [Act.put, List.setIfInBounds_toArray, List.set_cons_zero, List.set_cons_succ]
      refine HG.on 4 39 hA0.out ?_
      try simp only [Act.put, List.setIfInBounds_toArray, List.set_cons_zero, List.set_cons_succ]
      refine HG.on 5 40 hA0.out ?_
      try simp only [Act.put, List.setIfInBounds_toArray, List.set_cons_zero, List.set_cons_succ]
      refine HG.on 6 41 hA0.out ?_
      try simp only [Act.put, List.setIfInBounds_toArray, List.set_cons_zero, List.set_cons_succ]
      refine HG.on 11 46 hA0.out ?_
      try simp only [Act.put, List.setIfInBounds_toArray, List.set_cons_zero, List.set_cons_succ]
      refine HG.on 12 47 hA0.out ?_
      try simp only [Act.put, List.setIfInBounds_toArray, List.set_cons_zero, List.set_cons_succ]
      refine HG.on 13 48 hA0.out ?_
      try simp only [Act.put, List.setIfInBounds_toArray, List.set_cons_zero, List.set_cons_succ]
      refine HG.on 16 51 hA0.out ?_
      try simp only [Act.put, List.setIfInBounds_toArray, List.set_cons_zero, List.set_cons_succ]
      refine wpHd_one (i := 7) rfl rfl (by kernel_rfl) (fun KK hK => ?_)
      go_simp
      refine (HFM.out _).mono ?_
      rintro e w4' ⟨rfl, hb4⟩
      have HB4 := Hm (show Ext w3 w4' by exact eX)
      refine hK.out _ _ (held_of HB4.out) (fun hA => ?_)
      clear hK KK hA hA0 hb4
      refine wpHd_two (i := 8) (j := 14) rfl rfl rfl rfl (by kernel_rfl) (fun KK hK => ?_) (fun KK hK => ?_)
      · go_simp
        have hcv : ∀ W, Ext (w4'.alloc (.cells #[.int .u8 f] 5)) W → (convert 30 9 (.slice (some ⟨w4'.heap.size, 0, none⟩) 1 1)).run Tryz.prog W = .ok (.string (strOfNums [f])) W := fun W h => conv_Sl ((Sl.new w4' #[.int .u8 f] 5 1 1 1 [[.int .u8 f]] rfl (by intro xs hxs; simp at hxs; subst hxs; rfl) rfl).ext h)
        refine hK.out _ _ (held_of (HB4.out.alloc _)) (fun hA => ?_)
        clear hK KK hA
        refine wpHd_str (S' := fun w' => (fun w' => Ext (w3) w' ∧ (∀ b o, b < (w3).heap.size → w'.cell? ⟨b, o, none⟩ = (w3).cell? ⟨b, o, none⟩) ∧ (∀ b o, b < (w3).heap.size → w'.frozen? ⟨b, o, none⟩ = (w3).frozen? ⟨b, o, none⟩)) w' ∧ Ext (w4'.alloc (.cells #[.int .u8 f] 5)) w') (fun _ h => h.1) _ _ _ _ ?_
        have hB0 : Hid ((fun w' => (fun w' => Ext (w3) w' ∧ (∀ b o, b < (w3).heap.size → w'.cell? ⟨b, o, none⟩ = (w3).cell? ⟨b, o, none⟩) ∧ (∀ b o, b < (w3).heap.size → w'.frozen? ⟨b, o, none⟩ = (w3).frozen? ⟨b, o, none⟩)) w' ∧ Ext (w4'.alloc (.cells #[.int .u8 f] 5)) w') (w4'.alloc (.cells #[.int .u8 f] 5))) := Hm ⟨held_of (HB4.out.alloc _), Ext.refl _⟩
        (refine wpHd_take (i := 9) (v := ?_) rfl (by kernel_rfl) (by kernel_rfl) (by kernel_rfl) (fun _ _ _ h => h) (Or.inl ⟨by rfl, ?_⟩) hB0.out ?_; rotate_left 1; · (intro w' hS'; have hq := hcv w' hS'.2; go_simp; try with_reducible rfl))
        (refine wpHd_take (i := 10) (v := ?_) rfl (by kernel_rfl) (by kernel_rfl) (by kernel_rfl) (fun _ _ _ h => h) (Or.inl ⟨by rfl, ?_⟩) hB0.out ?_; rotate_left 1; · (intro w' hS'; go_simp; (try rw [if_neg (by omega)]); try with_reducible rfl))
        refine wpHd_one (i := 14) rfl rfl (by kernel_rfl) (fun KK hK => ?_)
        go_simp
        refine (HN4.out _).mono ?_
        rintro e w5 ⟨rfl, hb5⟩
        have HB5 := Hm (show Ext w3 w5 from (HB4.out.alloc _).trans hb5)
        have hC0 : Hid ((fun w' => (fun w' => Ext (w3) w' ∧ (∀ b o, b < (w3).heap.size → w'.cell? ⟨b, o, none⟩ = (w3).cell? ⟨b, o, none⟩) ∧ (∀ b o, b < (w3).heap.size → w'.frozen? ⟨b, o, none⟩ = (w3).frozen? ⟨b, o, none⟩)) w' ∧ Ext (w4'.alloc (.cells #[.int .u8 f] 5)) w') w5) := Hm ⟨held_of HB5.out, hb5⟩
        refine hK.out _ _ hC0.out (fun hA => ?_)
        clear hK KK hA hb5 hB0
        (refine wpHd_take (i := 15) (v := ?_) rfl (by kernel_rfl) (by kernel_rfl) (by kernel_rfl) (fun _ _ _ h => h) (Or.inl ⟨by rfl, ?_⟩) hC0.out ?_; rotate_left 1; · (intro w' hS'; go_simp; (try rw [if_neg (by omega)]); try with_reducible rfl))
        (refine wpHd_take (i := 17) (v := ?_) rfl (by kernel_rfl) (by kernel_rfl) (by kernel_rfl) (fun _ _ _ h => h) (Or.inl ⟨by rfl, ?_⟩) hC0.out ?_; rotate_left 1; · (intro w' hS'; go_simp; (try rw [if_neg (by omega)]); try with_reducible rfl))
        clear f0 f1 f2 f3 f4 f5 hbw hcv
        refine wpHd_tail (by kernel_rfl) ?_
        simp only [List.drop_succ_cons, List.drop_zero]
        go_wp2
        go_roundg (ls.length - (k + 1))
        case measure => have := HLT.out; omega
        case rel => exact ⟨k + 1, Nat.sub_add_cancel HLT.out, by rw [HCT.out, HR.out, ← List.append_assoc, ← strO_app, ← HT5.out, ← HSZ.out, show strOfNums (f :: (octs (st.size : Int) 4 ++ sp)) = strOfNums [f] ++ (strOfNums (octs (st.size : Int) 4) ++ st) from by rw [HST.out, strO_app, strO_app_cons]]; simp only [ByteArray.append_assoc], by go_num, Hm (HE3.out.trans HB5.out)⟩
      · go_simp
        refine (HN4.out _).mono ?_
        rintro e w5 ⟨rfl, hb5⟩
        have HC5 := Hm (show Ext w3 w5 from HB4.out.trans hb5)
        refine hK.out _ _ (held_of HC5.out) (fun hA => ?_)
        clear hK KK hA hb5
        refine wpHd_one (i := 8) rfl rfl (by kernel_rfl) (fun KK hK => ?_)
        go_simp
        have hcv : ∀ W, Ext (w5.alloc (.cells #[.int .u8 f] 5)) W → (convert 30 9 (.slice (some ⟨w5.heap.size, 0, none⟩) 1 1)).run Tryz.prog W = .ok (.string (strOfNums [f])) W := fun W h => conv_Sl ((Sl.new w5 #[.int .u8 f] 5 1 1 1 [[.int .u8 f]] rfl (by intro xs hxs; simp at hxs; subst hxs; rfl) rfl).ext h)
        have HB5 := Hm (show Ext w3 (w5.alloc (.cells #[.int .u8 f] 5)) from HC5.out.alloc _)
        refine hK.out _ _ (held_of HB5.out) (fun hA => ?_)
        clear hK KK hA
        refine wpHd_str (S' := fun w' => (fun w' => Ext (w3) w' ∧ (∀ b o, b < (w3).heap.size → w'.cell? ⟨b, o, none⟩ = (w3).cell? ⟨b, o, none⟩) ∧ (∀ b o, b < (w3).heap.size → w'.frozen? ⟨b, o, none⟩ = (w3).frozen? ⟨b, o, none⟩)) w' ∧ Ext (w5.alloc (.cells #[.int .u8 f] 5)) w') (fun _ h => h.1) _ _ _ _ ?_
        have hC0 : Hid ((fun w' => (fun w' => Ext (w3) w' ∧ (∀ b o, b < (w3).heap.size → w'.cell? ⟨b, o, none⟩ = (w3).cell? ⟨b, o, none⟩) ∧ (∀ b o, b < (w3).heap.size → w'.frozen? ⟨b, o, none⟩ = (w3).frozen? ⟨b, o, none⟩)) w' ∧ Ext (w5.alloc (.cells #[.int .u8 f] 5)) w') (w5.alloc (.cells #[.int .u8 f] 5))) := Hm ⟨held_of HB5.out, Ext.refl _⟩
        (refine wpHd_take (i := 9) (v := ?_) rfl (by kernel_rfl) (by kernel_rfl) (by kernel_rfl) (fun _ _ _ h => h) (Or.inl ⟨by rfl, ?_⟩) hC0.out ?_; rotate_left 1; · (intro w' hS'; have hq := hcv w' hS'.2; go_simp; try with_reducible rfl))
        (refine wpHd_take (i := 10) (v := ?_) rfl (by kernel_rfl) (by kernel_rfl) (by kernel_rfl) (fun _ _ _ h => h) (Or.inl ⟨by rfl, ?_⟩) hC0.out ?_; rotate_left 1; · (intro w' hS'; go_simp; (try rw [if_neg (by omega)]); try with_reducible rfl))
        (refine wpHd_take (i := 15) (v := ?_) rfl (by kernel_rfl) (by kernel_rfl) (by kernel_rfl) (fun _ _ _ h => h) (Or.inl ⟨by rfl, ?_⟩) hC0.out ?_; rotate_left 1; · (intro w' hS'; go_simp; (try rw [if_neg (by omega)]); try with_reducible rfl))
        (refine wpHd_take (i := 17) (v := ?_) rfl (by kernel_rfl) (by kernel_rfl) (by kernel_rfl) (fun _ _ _ h => h) (Or.inl ⟨by rfl, ?_⟩) hC0.out ?_; rotate_left 1; · (intro w' hS'; go_simp; (try rw [if_neg (by omega)]); try with_reducible rfl))
        clear f0 f1 f2 f3 f4 f5 hbw hcv
        refine wpHd_tail (by kernel_rfl) ?_
        simp only [List.drop_succ_cons, List.drop_zero]
        go_wp2
        go_roundg (ls.length - (k + 1))
        case measure => have := HLT.out; omega
        case rel => exact ⟨k + 1, Nat.sub_add_cancel HLT.out, by rw [HCT.out, HR.out, ← List.append_assoc, ← strO_app, ← HT5.out, ← HSZ.out, show strOfNums (f :: (octs (st.size : Int) 4 ++ sp)) = strOfNums [f] ++ (strOfNums (octs (st.size : Int) 4) ++ st) from by rw [HST.out, strO_app, strO_app_cons]]; simp only [ByteArray.append_assoc], by go_num, Hm (HE3.out.trans HB5.out)⟩
    · obtain rfl : k = ls.length := by omega
      rw [List.take_length]
      go_wp2
      go_ret
      exact ⟨by unfold imgW; simp, hE.out⟩
def rv (x : Nat) : Nat → Nat
  | 0 => 0
  | k + 1 => 256 * rv x k + x / 256 ^ k % 256
theorem ext_bytesWorld (w : World) (e : TypeId) (s : ByteArray) : Ext w (Go.Lib.bytesWorld w e s) :=
  ⟨rfl, rfl, rfl, by rw [Go.Lib.bytesWorld_size]; omega, fun k hk => Go.Lib.bytesWorld_at_old w e s k hk⟩
theorem conv_str (w : World) (s : ByteArray) : (convert 9 30 (.string s)).run Tryz.prog w = .ok (.slice (some ⟨w.heap.size, 0, none⟩) s.size (grownCap w s.size 0 5)) (Go.Lib.bytesWorld w 5 s) :=
  Go.Lib.run_convert_string_bytes w _ _ _ s Tryz.underlying9 Tryz.underlying30 Tryz.underlying5
theorem Ext.conv {w w1 : World} (h : Ext w w1) (e : TypeId) (u : ByteArray) : Ext w (Go.Lib.bytesWorld w1 e u) := h.trans (ext_bytesWorld _ _ _)
end Go.Proofs.YtdlhaidlokkmnaaGreatDoor
