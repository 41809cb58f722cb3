/-
The walk of ValueCut.
-/
import Derived.Test.YtkofnmbkfaebcaaTake
import Derived.Test.YtkofnmbkfaebcaaTakeW
import Derived.Test.YtkofnmbkfaebcaaRefPutD
namespace Go.Proofs.Ytkofnmbkfaebcaa
open Go.RowKit

theorem Sl.of_take {w : World} {base g cap n k : Nat} {l : List Int} (h : OB w base (.slice (some ⟨g, 0, none⟩) n cap) l) (hk : k ≤ l.length) : Sl w (.slice (some ⟨g, 0, none⟩) k cap) 1 ((l.take k).map bcell) := by
  have h0 := h.sl
  refine ⟨some ⟨g, 0, none⟩, cap, by simp; omega, ?_⟩
  rcases Nat.eq_zero_or_pos k with hz | hz
  · subst hz; exact .inl rfl
  · obtain ⟨a, c, hv⟩ := h.shape
    simp only [Value.slice.injEq] at hv
    obtain ⟨_, rfl, _⟩ := hv
    obtain ⟨hb, _, hc⟩ := Sl.bytes h0 (by omega)
    refine .inr ⟨g, 0, rfl, hb, fun i hi j hj => ?_⟩
    obtain rfl : j = 0 := by omega
    simp only [List.length_map, List.length_take] at hi
    have := hc i (by omega)
    rw [Nat.mul_one, Nat.add_zero, this]
    have h1 : i < l.length := by omega
    simp [bcell, List.getD, List.getElem?_map, List.getElem?_eq_getElem h1, show i < k by omega]
theorem OB.cap {w : World} {base g cap n : Nat} {l : List Int} (h : OB w base (.slice (some ⟨g, 0, none⟩) n cap) l) : n ≤ cap := by
  rcases h.2 with ⟨hv, _⟩ | ⟨g', cap', cur, hv, _, _, hn, _⟩
  · cases hv
  · simp only [Value.slice.injEq] at hv
    obtain ⟨_, rfl, rfl⟩ := hv
    exact hn
theorem putL_pos {ty n : Int} {x y : Nat} {s : ByteArray} {ver : Int} : 0 < (putL ty n x y s ver).length := by
  have fp : ∀ z v, 0 < (floatL z v).length := fun z v => floatL_pos
  have sp := sevens_pos s.size
  have fx := fp x ver
  have sz := sevens_pos (zig n)
  unfold putL complexL
  (repeat' split) <;> (try simp only [List.length_append, List.length_cons, List.length_nil, wordL_len]) <;> omega

set_option maxRecDepth 100000 in set_option maxHeartbeats 1600000 in
theorem vcut_any (ty n : Int) (x y : Nat) (s : ByteArray) (ver cut : Int) (w : World)
    (hn : -9223372036854775808 ≤ n ∧ n < 9223372036854775808) (hx : x < 2 ^ 64) (hy : y < 2 ^ 64) (hs : s.size ≤ 9223372036854775807) (hv0 : 0 ≤ ver) (hv1 : ver < 256) (hc0 : 0 ≤ cut) (hc1 : cut < 65536) :
    Calls Try.prog 12 #[.agg #[.int .u8 ty, .int .i64 n, .int .u64 x, .int .u64 y, .string s], .int .u8 ver, .int .u16 cut] w fun e w' => e = .returned (.bool true) ∧ Ext w w' := by
  have HRA := Hid.mk' (fun w => rright_any ty n x y s w hs)
  obtain ⟨RA, hRA⟩ : ∃ R, R = rightV ty n x y s := ⟨_, rfl⟩
  rw [← hRA] at HRA
  have HOA := Hid.mk' (fun w => vown_any ty n x y s w)
  simp only [Int.toNat_natCast] at HOA
  by_cases hA : RA = 0
  · subst hA
    obtain ⟨V0, hV⟩ : ∃ V0, V0 = 1 + ver % 2 := ⟨_, rfl⟩
    have hV12 : V0 = 1 ∨ V0 = 2 := by omega
    have eA : errV ty n x y s V0 = 0 := by unfold errV; rw [if_pos hV12]; exact hRA.symm
    have HPA := Hid.mk' (fun (w : World) => vput_ok (.slice none 0 0) [] ty n x y s V0 w eA (nilSl w) (Nat.zero_le _) hn hx hy hs)
    simp only [List.nil_append] at HPA
    have hpos := putL_pos (ty := ty) (n := n) (x := x) (y := y) (s := s) (ver := V0)
    have hlen := putL_len eA hn
    have hB := isB_putL (ver := V0) hRA.symm
    have hty := right_zero hRA.symm
    have hcut : ∀ k, k < (putL ty n x y s V0).length → takeV ty V0 ⟨(putL ty n x y s V0).take k, 0⟩ = (V.zero, gone) := fun k hk =>
      takeV_cut (v := ⟨ty, n, x, y, s⟩) (r := (putL ty n x y s V0).drop k) hV12 hRA.symm ⟨hn, hx, hy⟩ (List.take_append_drop _ _).symm (by intro h; have := congrArg List.length h; simp at this; omega)
    generalize putL ty n x y s V0 = LA at *
    obtain ⟨k, hk⟩ : ∃ k : Nat, cut % (LA.length : Int) = k := ⟨(cut % (LA.length : Int)).toNat, by have := Int.emod_nonneg cut (show (LA.length : Int) ≠ 0 by omega); omega⟩
    have hkl : k < LA.length := by have := Int.emod_lt_of_pos cut (show 0 < (LA.length : Int) by omega); omega
    have hT := hcut k hkl
    have HTK := Hid.mk' (fun g d w h => vtake_any g d ⟨LA.take k, 0⟩ ty V0 w h (by omega) (by omega))
    rw [hT] at HTK
    simp only [V.zero] at HTK
    have HER := Hid.mk' (fun g d w h => rerr_any g d gone w h)
    have HSM := Hid.mk' (fun w => vsame_any 0 0 0 0 ⟨#[]⟩ 0 0 0 0 ⟨#[]⟩ w)
    have hs0 : sameB 0 0 0 0 ⟨#[]⟩ 0 0 0 0 ⟨#[]⟩ = true := by decide
    rw [hs0] at HSM
    have HBT := Hid.mk' (hB.take k)
    have HV := Hid.mk' hV
    have HK := Hid.mk' hk
    have ht0 : 1 ≤ ty := hty.1
    have ht6 : ty ≤ 6 := hty.2.1
    have hk3 : k ≤ 3000 := by omega
    clear hn hx hy hRA hV12 eA hV hB hty hcut hT hs0 hk
    go_enter Try.func12, Try.ntmps12
    go_upto_region 2 with (fail)
    rw [← HV.out]
    go_upto_region 7 with (first
      | (go_at_call 33; refine (HRA.out _).mono ?_; rintro e w1 ⟨rfl, hb1⟩; have hE_w1 : Ext (w.alloc (.cells #[.int .u8 ty, .int .i64 n, .int .u64 x, .int .u64 y, .string s] 42)) w1 := (by (repeat (with_reducible (first | exact Ext.refl _ | assumption | exact held_left (by assumption) | apply Ext.drewN | apply Ext.drew | apply Ext.alloc | (refine Ext.setCell ?_ (by first | (simp; done) | (simp; omega) | omega) _) | (refine Ext.trans ?_ (by assumption)) | (refine Ext.trans ?_ (held_left (by assumption))))))); obtain ⟨hc_w1, hf_w1⟩ := hE_w1.cells; have hz_w1 := hE_w1.size)
      | (go_at_call 32; refine (HOA.out _).mono ?_; rintro e w2 ⟨rfl, hb2⟩; have hE_w2 : Ext (w.alloc (.cells #[.int .u8 ty, .int .i64 n, .int .u64 x, .int .u64 y, .string s] 42)) w2 := (by (repeat (with_reducible (first | exact Ext.refl _ | assumption | exact held_left (by assumption) | apply Ext.drewN | apply Ext.drew | apply Ext.alloc | (refine Ext.setCell ?_ (by first | (simp; done) | (simp; omega) | omega) _) | (refine Ext.trans ?_ (by assumption)) | (refine Ext.trans ?_ (held_left (by assumption))))))); obtain ⟨hc_w2, hf_w2⟩ := hE_w2.cells; have hz_w2 := hE_w2.size)
      | (go_at_call 36; refine (HPA.out _).mono ?_; rintro e w3 ⟨v3, rfl, ho3, hb3⟩; have hE_w3 : Ext (w.alloc (.cells #[.int .u8 ty, .int .i64 n, .int .u64 x, .int .u64 y, .string s] 42)) w3 := (by (repeat (with_reducible (first | exact Ext.refl _ | assumption | exact held_left (by assumption) | apply Ext.drewN | apply Ext.drew | apply Ext.alloc | (refine Ext.setCell ?_ (by first | (simp; done) | (simp; omega) | omega) _) | (refine Ext.trans ?_ (by assumption)) | (refine Ext.trans ?_ (held_left (by assumption))))))); obtain ⟨hc_w3, hf_w3⟩ := hE_w3.cells; have hz_w3 := hE_w3.size; obtain ⟨g3, cap3, rfl, -, hg3, -, -⟩ := OB.form ho3 hpos; have hcap3 := OB.cap ho3; have HO3 := Hid.mk' ho3; clear ho3))
    all_goals try (go_ret; exact ⟨rfl, by (repeat (with_reducible (first | exact Ext.refl _ | assumption | exact held_left (by assumption) | apply Ext.drewN | apply Ext.drew | apply Ext.alloc | (refine Ext.setCell ?_ (by first | (simp; done) | (simp; omega) | omega) _) | (refine Ext.trans ?_ (by assumption)) | (refine Ext.trans ?_ (held_left (by assumption))))))⟩)
    have hk := HK.out
    go_upto_region 8 with (first
      | (go_at_call 42; refine (read_any _ (LA.take k) _ (Sl.of_take HO3.out (by omega)) (by simp; omega) HBT.out).mono ?_; rintro e w4 ⟨g, rfl, hg, hr, hb4⟩; have hE_w4 : Ext (w.alloc (.cells #[.int .u8 ty, .int .i64 n, .int .u64 x, .int .u64 y, .string s] 42)) w4 := (by (repeat (with_reducible (first | exact Ext.refl _ | assumption | exact held_left (by assumption) | apply Ext.drewN | apply Ext.drew | apply Ext.alloc | (refine Ext.setCell ?_ (by first | (simp; done) | (simp; omega) | omega) _) | (refine Ext.trans ?_ (by assumption)) | (refine Ext.trans ?_ (held_left (by assumption))))))); obtain ⟨hc_w4, hf_w4⟩ := hE_w4.cells; have hz_w4 := hE_w4.size; have HR4 := Hid.mk' hr; clear hr))
    clear hk
    go_upto_region 11 with (first
      | (go_at_call 43; refine (HTK.out g _ _ HR4.out).mono ?_; rintro e w5 ⟨rfl, hr5, ht5⟩; have hb5 : Ext (w.alloc (.cells #[.int .u8 ty, .int .i64 n, .int .u64 x, .int .u64 y, .string s] 42)) w5 := Tch.ext hE_w4 (Nat.le_trans hE_w3.size hg) ht5; have hE_w5 : Ext (w.alloc (.cells #[.int .u8 ty, .int .i64 n, .int .u64 x, .int .u64 y, .string s] 42)) w5 := (by (repeat (with_reducible (first | exact Ext.refl _ | assumption | exact held_left (by assumption) | apply Ext.drewN | apply Ext.drew | apply Ext.alloc | (refine Ext.setCell ?_ (by first | (simp; done) | (simp; omega) | omega) _) | (refine Ext.trans ?_ (by assumption)) | (refine Ext.trans ?_ (held_left (by assumption))))))); obtain ⟨hc_w5, hf_w5⟩ := hE_w5.cells; have hz_w5 := hE_w5.size; have HR5 := Hid.mk' hr5; clear hr5 ht5))
    all_goals try (go_ret; exact ⟨rfl, by (repeat (with_reducible (first | exact Ext.refl _ | assumption | exact held_left (by assumption) | apply Ext.drewN | apply Ext.drew | apply Ext.alloc | (refine Ext.setCell ?_ (by first | (simp; done) | (simp; omega) | omega) _) | (refine Ext.trans ?_ (by assumption)) | (refine Ext.trans ?_ (held_left (by assumption))))))⟩)
    go_wp2_with (first
      | (go_at_call 44; refine (HER.out g _ _ (HR5.out.ext (by (repeat (with_reducible (first | exact Ext.refl _ | assumption | exact held_left (by assumption) | apply Ext.drewN | apply Ext.drew | apply Ext.alloc | (refine Ext.setCell ?_ (by first | (simp; done) | (simp; omega) | omega) _) | (refine Ext.trans ?_ (by assumption)) | (refine Ext.trans ?_ (held_left (by assumption))))))))).mono ?_; rintro e w6 ⟨rfl, rfl⟩)
      | (go_at_call 34; refine (HSM.out _).mono ?_; rintro e w7 ⟨rfl, hb7⟩)
      | (go_at_call 35; refine (awake06_any _).mono ?_; rintro e w8 ⟨rfl, hb8⟩))
    go_ret
    exact ⟨rfl, by (repeat (with_reducible (first | exact Ext.refl _ | assumption | exact held_left (by assumption) | apply Ext.drewN | apply Ext.drew | apply Ext.alloc | (refine Ext.setCell ?_ (by first | (simp; done) | (simp; omega) | omega) _) | (refine Ext.trans ?_ (by assumption)) | (refine Ext.trans ?_ (held_left (by assumption))))))⟩
  · have hA2 : (RA != 0) = true := by simpa using hA
    go_enter Try.func12, Try.ntmps12
    go_wp2_with (first
      | (go_at_call 33; refine (HRA.out _).mono ?_; rintro e w1 ⟨rfl, hb1⟩; have hE_w1 : Ext (w.alloc (.cells #[.int .u8 ty, .int .i64 n, .int .u64 x, .int .u64 y, .string s] 42)) w1 := (by (repeat (with_reducible (first | exact Ext.refl _ | assumption | exact held_left (by assumption) | apply Ext.drewN | apply Ext.drew | apply Ext.alloc | (refine Ext.setCell ?_ (by first | (simp; done) | (simp; omega) | omega) _) | (refine Ext.trans ?_ (by assumption)) | (refine Ext.trans ?_ (held_left (by assumption))))))); obtain ⟨hc_w1, hf_w1⟩ := hE_w1.cells; have hz_w1 := hE_w1.size))
    all_goals (go_ret; exact ⟨rfl, by (repeat (with_reducible (first | exact Ext.refl _ | assumption | exact held_left (by assumption) | apply Ext.drewN | apply Ext.drew | apply Ext.alloc | (refine Ext.setCell ?_ (by first | (simp; done) | (simp; omega) | omega) _) | (refine Ext.trans ?_ (by assumption)) | (refine Ext.trans ?_ (held_left (by assumption))))))⟩)

end Go.Proofs.Ytkofnmbkfaebcaa
