/-
The walk of CellBack.
-/
import Derived.Test.YtmpnopjkpamhaaaCPuts
import Derived.Test.YtmpnopjkpamhaaaCTake
import Derived.Test.YtmpnopjkpamhaaaCBackP
namespace Go.Proofs.Ytmpnopjkpamhaaa
open Go.RowKit

theorem isB_putC {k ty n : Int} {x y : Nat} {s : ByteArray} {kind ver : Int} (hk0 : 0 ≤ k) (h : errC k ty n x y s kind ver = 0) : isB (putC k ty n x y s kind ver) := by
  obtain ⟨hv, hr, hk, hkd⟩ := errC_zero hk0 h
  unfold putC
  split
  · intro z hz; simp at hz; omega
  · rename_i h1
    obtain rfl : k = 2 := by omega
    have hrv := (right_full hr).1
    split
    · intro z hz
      rcases List.mem_cons.1 hz with rfl | hz
      · omega
      · exact isB_sevens _ _ (Nat.le_refl _) z hz
    · split
      · split
        · exact isB.append (isB_sevens _ _ (Nat.le_refl _)) (isB_strL _)
        · exact isB_putL hrv
      · intro z hz
        rcases List.mem_cons.1 hz with rfl | hz
        · omega
        · exact isB_putL hrv z hz

/-- What is taken of what was put: the cell, but for a large one's text. -/
theorem taken_form {k ty n : Int} {x y : Nat} {s : ByteArray} {kind V0 : Int} (hk0 : 0 ≤ k) (he : errC k ty n x y s kind V0 = 0) (hw : V.wf ⟨ty, n, x, y, s⟩) :
    ∃ (ds : ByteArray) (N : Nat), takeC kind V0 ⟨putC k ty n x y s kind V0, 0⟩ = ((⟨k, ⟨ty, n, x, y, ds⟩⟩, N), ⟨[], 0⟩) ∧
      ((N = 0 ∧ s = ds ∧ largeB k ty s = false) ∨ (N = s.size ∧ 64 < s.size ∧ largeB k ty s = true)) := by
  have hT := takeC_put ⟨k, ⟨ty, n, x, y, s⟩⟩ kind V0 [] hk0 he hw
  rw [List.append_nil] at hT
  simp only [K.put, K.taken] at hT
  obtain ⟨hv, hr, hk, hkd⟩ := errC_zero hk0 he
  by_cases hL : largeB k ty s = true
  · rw [if_pos hL] at hT
    have hl := hL
    unfold largeB at hl
    rw [decide_eq_true_eq] at hl
    obtain ⟨rfl, hty, hsz⟩ := hl
    obtain ⟨-, -, -, -, h2, h3, h4, -⟩ := right_zero (right_full hr).1
    obtain rfl : n = 0 := h2 (by omega)
    have hx := h3 (by omega) (by omega)
    have hy := h4 (by omega)
    obtain rfl : x = 0 := by omega
    obtain rfl : y = 0 := by omega
    exact ⟨ByteArray.empty, s.size, hT, .inr ⟨rfl, hsz, hL⟩⟩
  · rw [if_neg hL] at hT
    exact ⟨s, 0, hT, .inl ⟨rfl, rfl, by simpa using hL⟩⟩

theorem fillS_succ (s : ByteArray) (j : Nat) : fillS s j ++ (⟨#[97]⟩ : ByteArray) = fillS s (j + 1) := by
  have e : (⟨#[97]⟩ : ByteArray) = strOfNums [97] := by kernel_rfl
  unfold fillS
  rw [e, strOf_append, List.replicate_succ', List.append_assoc]

theorem neq_cell (k ty n : Int) (x y : Nat) (s : ByteArray) (w : World) :
    (binOp .neq 26 (.agg #[.int .u8 k, .int .u8 ty, .int .i64 n, .int .u64 x, .int .u64 y, .string s]) (.agg #[.int .u8 k, .int .u8 ty, .int .i64 n, .int .u64 x, .int .u64 y, .string s])).run Try.prog w = .ok (.bool false) w := by
  simp [go_sem]

def endC (kind V0 : Int) (lb : List Int) : Int := endE (takeC kind V0 ⟨lb, 0⟩).2

set_option maxRecDepth 100000 in set_option maxHeartbeats 1600000 in
theorem cbk_any (k ty n : Int) (x y : Nat) (s : ByteArray) (kind ver : Int) (v : Value) (lb : List Int) (w : World) (hl : Sl w v 1 (lb.map bcell)) (hib : isB lb) (hlen : lb.length ≤ 9223372036854775807)
    (hk0 : 0 ≤ k) (hn : -9223372036854775808 ≤ n ∧ n < 9223372036854775808) (hx : x < 2 ^ 64) (hy : y < 2 ^ 64) (hs : s.size ≤ 9223372036854775807) (hkd0 : 0 ≤ kind) (hkd1 : kind < 256) (hv0 : 0 ≤ ver) (hv1 : ver < 256) :
    Calls Try.prog 7 #[.agg #[.int .u8 k, .int .u8 ty, .int .i64 n, .int .u64 x, .int .u64 y, .string s], .agg #[.int .u8 kind, .int .u8 ver], v] w fun e w' => e = .returned (.bool true) ∧ Ext w w' := by
  have HRA := Hid.mk' (fun w => rcright_any k ty n x y s kind w hk0 hs)
  obtain ⟨RA, hRA⟩ : ∃ R, R = rightC k ty n x y s kind := ⟨_, rfl⟩
  rw [← hRA] at HRA
  have HOA := Hid.mk' (fun w => cown_any k ty n x y s w)
  simp only [Int.toNat_natCast] at HOA
  obtain ⟨ab, capb, rfl, hshape⟩ := hl.shape (n := lb.length) (by simp)
  have HL := Hid.mk' hl
  clear hl hshape
  have hV12 : (1 + ver % 2) = 1 ∨ (1 + ver % 2) = 2 := by omega
  by_cases hA : RA = 0
  · subst hA
    by_cases hkz : k = 0
    · have hkb : (k == 0) = true := by simpa using hkz
      clear hn hx hy hib hRA hV12 hkz
      go_enter Try.func7, Try.ntmps7
      go_wp2_with (first
        | (go_at_call 12; refine (HRA.out _).mono ?_; rintro e w1 ⟨rfl, hb1⟩; have hE_w1 : Ext ((w.alloc (.cells #[.int .u8 k, .int .u8 ty, .int .i64 n, .int .u64 x, .int .u64 y, .string s] 26)).alloc (.cells #[.int .u8 kind, .int .u8 (1 + ver % 2)] 28)) w1 := (by (repeat (with_reducible (first | exact Ext.refl _ | assumption | exact held_left (by assumption) | apply Ext.drewN | apply Ext.drew | apply Ext.alloc | (refine Ext.setCell ?_ (by first | (simp; done) | (simp; omega) | omega) _) | (refine Ext.trans ?_ (by assumption)) | (refine Ext.trans ?_ (held_left (by assumption))))))); obtain ⟨hc_w1, hf_w1⟩ := hE_w1.cells; have hz_w1 := hE_w1.size))
      all_goals (go_ret; exact ⟨rfl, by (repeat (with_reducible (first | exact Ext.refl _ | assumption | exact held_left (by assumption) | apply Ext.drewN | apply Ext.drew | apply Ext.alloc | (refine Ext.setCell ?_ (by first | (simp; done) | (simp; omega) | omega) _) | (refine Ext.trans ?_ (by assumption)) | (refine Ext.trans ?_ (held_left (by assumption))))))⟩)
    have hkb : (k == 0) = false := by simpa using hkz
    by_cases h300 : 300 < lb.length
    · go_enter Try.func7, Try.ntmps7
      go_wp2_with (first
        | (go_at_call 12; refine (HRA.out _).mono ?_; rintro e w1 ⟨rfl, hb1⟩; have hE_w1 : Ext ((w.alloc (.cells #[.int .u8 k, .int .u8 ty, .int .i64 n, .int .u64 x, .int .u64 y, .string s] 26)).alloc (.cells #[.int .u8 kind, .int .u8 (1 + ver % 2)] 28)) w1 := (by (repeat (with_reducible (first | exact Ext.refl _ | assumption | exact held_left (by assumption) | apply Ext.drewN | apply Ext.drew | apply Ext.alloc | (refine Ext.setCell ?_ (by first | (simp; done) | (simp; omega) | omega) _) | (refine Ext.trans ?_ (by assumption)) | (refine Ext.trans ?_ (held_left (by assumption))))))); obtain ⟨hc_w1, hf_w1⟩ := hE_w1.cells; have hz_w1 := hE_w1.size))
      all_goals (go_ret; exact ⟨rfl, by (repeat (with_reducible (first | exact Ext.refl _ | assumption | exact held_left (by assumption) | apply Ext.drewN | apply Ext.drew | apply Ext.alloc | (refine Ext.setCell ?_ (by first | (simp; done) | (simp; omega) | omega) _) | (refine Ext.trans ?_ (by assumption)) | (refine Ext.trans ?_ (held_left (by assumption))))))⟩)
    have h300' : lb.length ≤ 300 := by omega
    clear h300
    have eA : errC k ty n x y s kind (1 + ver % 2) = 0 := err_mk hV12 hRA.symm hkz
    have HPA := Hid.mk' (fun (w : World) => cput_ok (.slice none 0 0) [] k ty n x y s kind (1 + ver % 2) w eA (nilSl w) (Nat.zero_le _) hk0 hn hx hy hs)
    simp only [List.nil_append] at HPA
    have hplen := putC_len hk0 eA hn
    have hB := isB_putC hk0 eA
    obtain ⟨ds, N, hT, hND⟩ := taken_form hk0 eA ⟨hn, hx, hy⟩
    have HTR := Hid.mk' (fun g d w h => ctake_any g d ⟨putC k ty n x y s kind (1 + ver % 2), 0⟩ kind (1 + ver % 2) w h hkd0 hkd1)
    rw [hT] at HTR
    simp only [K.agg] at HTR
    have HEN := Hid.mk' (fun g d w h => rend_any g d ⟨[], 0⟩ w h)
    have hen : endE ⟨[], 0⟩ = 0 := rfl
    rw [hen] at HEN
    have HTQ := Hid.mk' (fun g d w h => ctake_any g d ⟨lb, 0⟩ kind (1 + ver % 2) w h hkd0 hkd1)
    have HBK := Hid.mk' (fun w => cback_any k ty n x y s w)
    have HLG := Hid.mk' (fun w => rclarge_any k ty n x y s w)
    generalize largeB k ty s = LG at *
    have hNeq := fun w => neq_cell k ty n x y s w
    obtain ⟨vy, Sy, hQ⟩ : ∃ vy Sy, takeC kind (1 + ver % 2) ⟨lb, 0⟩ = (vy, Sy) := ⟨_, _, rfl⟩
    have HQ := Hid.mk' hQ
    rw [hQ] at HTQ
    have HEQ := Hid.mk' (fun g d w h => rend_any g d Sy w h)
    generalize putC k ty n x y s kind (1 + ver % 2) = LA at *
    have HBA := Hid.mk' hB
    have HIB := Hid.mk' hib
    have HVV := Hid.mk' hV12
    obtain ⟨⟨yk, ⟨yt, yn, yx, yy, ys⟩⟩, M⟩ := vy
    simp only [K.agg] at HTQ
    obtain ⟨E, hE⟩ : ∃ E, E = endE Sy := ⟨_, rfl⟩
    rw [← hE] at HEQ
    have HEE := Hid.mk' hE
    clear hn hx hy hRA hV12 eA hB hT hQ hib hE hen hkz
    go_enter Try.func7, Try.ntmps7
    go_upto_region 4 with (first
      | (go_at_call 12; refine (HRA.out _).mono ?_; rintro e w1 ⟨rfl, hb1⟩; have hE_w1 : Ext ((w.alloc (.cells #[.int .u8 k, .int .u8 ty, .int .i64 n, .int .u64 x, .int .u64 y, .string s] 26)).alloc (.cells #[.int .u8 kind, .int .u8 (1 + ver % 2)] 28)) w1 := (by (repeat (with_reducible (first | exact Ext.refl _ | assumption | exact held_left (by assumption) | apply Ext.drewN | apply Ext.drew | apply Ext.alloc | (refine Ext.setCell ?_ (by first | (simp; done) | (simp; omega) | omega) _) | (refine Ext.trans ?_ (by assumption)) | (refine Ext.trans ?_ (held_left (by assumption))))))); obtain ⟨hc_w1, hf_w1⟩ := hE_w1.cells; have hz_w1 := hE_w1.size))
    have HE1 := Hid.mk' hE_w1
    clear hc_w1 hf_w1 hE_w1 hz_w1 hb1
    go_cut [7, 8] (fun p q wx => q = .int .i64 0 ∧ Hid (Ext ((w.alloc (.cells #[.int .u8 k, .int .u8 ty, .int .i64 n, .int .u64 x, .int .u64 y, .string s] 26)).alloc (.cells #[.int .u8 kind, .int .u8 (1 + ver % 2)] 28)) wx) ∧ Hid (OB wx w1.heap.size p LA))
    case first =>
      as_aux_lemma =>
        have hE_w1 := HE1.out
        go_region_held3 (fun w' => Ext ((w.alloc (.cells #[.int .u8 k, .int .u8 ty, .int .i64 n, .int .u64 x, .int .u64 y, .string s] 26)).alloc (.cells #[.int .u8 kind, .int .u8 (1 + ver % 2)] 28)) w' ∧ (∀ b o, b < ((w.alloc (.cells #[.int .u8 k, .int .u8 ty, .int .i64 n, .int .u64 x, .int .u64 y, .string s] 26)).alloc (.cells #[.int .u8 kind, .int .u8 (1 + ver % 2)] 28)).heap.size → w'.cell? ⟨b, o, none⟩ = ((w.alloc (.cells #[.int .u8 k, .int .u8 ty, .int .i64 n, .int .u64 x, .int .u64 y, .string s] 26)).alloc (.cells #[.int .u8 kind, .int .u8 (1 + ver % 2)] 28)).cell? ⟨b, o, none⟩) ∧ (∀ b o, b < ((w.alloc (.cells #[.int .u8 k, .int .u8 ty, .int .i64 n, .int .u64 x, .int .u64 y, .string s] 26)).alloc (.cells #[.int .u8 kind, .int .u8 (1 + ver % 2)] 28)).heap.size → w'.frozen? ⟨b, o, none⟩ = ((w.alloc (.cells #[.int .u8 k, .int .u8 ty, .int .i64 n, .int .u64 x, .int .u64 y, .string s] 26)).alloc (.cells #[.int .u8 kind, .int .u8 (1 + ver % 2)] 28)).frozen? ⟨b, o, none⟩)) ((exact held_of (by (repeat (with_reducible (first | exact Ext.refl _ | assumption | exact held_left (by assumption) | apply Ext.drewN | apply Ext.drew | apply Ext.alloc | (refine Ext.setCell ?_ (by first | (simp; done) | (simp; omega) | omega) _) | (refine Ext.trans ?_ (by assumption)) | (refine Ext.trans ?_ (held_left (by assumption)))))))))
          (first
            | (go_at_call 9; refine (HOA.out _).mono ?_; rintro e w2 ⟨rfl, hb2⟩)
            | (go_at_call 8; refine (HPA.out _).mono ?_; rintro e w3 ⟨v3, rfl, ho3, hb3⟩; have HO3 := Hid.mk' ho3; clear ho3))
        all_goals
          go_wp2
          go_meet
          case rel => exact ⟨rfl, Hid.mk' (by (repeat (with_reducible (first | exact Ext.refl _ | assumption | exact held_left (by assumption) | apply Ext.drewN | apply Ext.drew | apply Ext.alloc | (refine Ext.setCell ?_ (by first | (simp; done) | (simp; omega) | omega) _) | (refine Ext.trans ?_ (by assumption)) | (refine Ext.trans ?_ (held_left (by assumption))))))), Hid.mk' (OB.base HO3.out (by have := hb2.size; simp at this; omega))⟩
    case rest =>
      obtain ⟨rfl, HEC, HO3⟩ := hcut
      have hE_w3 := HEC.out
      clear HE1 HRA
      go_upto_region 9 with (first
        | (go_at_call_of 19 u7; refine (read_any _ LA _ HO3.out.sl (by omega) HBA.out).mono ?_; rintro e w4 ⟨g, rfl, hg, hr, hb4⟩; have hE_w4 : Ext ((w.alloc (.cells #[.int .u8 k, .int .u8 ty, .int .i64 n, .int .u64 x, .int .u64 y, .string s] 26)).alloc (.cells #[.int .u8 kind, .int .u8 (1 + ver % 2)] 28)) w4 := (by (repeat (with_reducible (first | exact Ext.refl _ | assumption | exact held_left (by assumption) | apply Ext.drewN | apply Ext.drew | apply Ext.alloc | (refine Ext.setCell ?_ (by first | (simp; done) | (simp; omega) | omega) _) | (refine Ext.trans ?_ (by assumption)) | (refine Ext.trans ?_ (held_left (by assumption))))))); obtain ⟨hc_w4, hf_w4⟩ := hE_w4.cells; have hz_w4 := hE_w4.size; have HR4 := Hid.mk' hr; have hgl := hr.lt; clear hr)
        | (go_at_call 19; refine (read_any _ lb _ (HL.out.ext (by (repeat (with_reducible (first | exact Ext.refl _ | assumption | exact held_left (by assumption) | apply Ext.drewN | apply Ext.drew | apply Ext.alloc | (refine Ext.setCell ?_ (by first | (simp; done) | (simp; omega) | omega) _) | (refine Ext.trans ?_ (by assumption)) | (refine Ext.trans ?_ (held_left (by assumption)))))))) (by omega) HIB.out).mono ?_; rintro e w5 ⟨q, rfl, hq, hr, hb5⟩; have hE_w5 : Ext ((w.alloc (.cells #[.int .u8 k, .int .u8 ty, .int .i64 n, .int .u64 x, .int .u64 y, .string s] 26)).alloc (.cells #[.int .u8 kind, .int .u8 (1 + ver % 2)] 28)) w5 := (by (repeat (with_reducible (first | exact Ext.refl _ | assumption | exact held_left (by assumption) | apply Ext.drewN | apply Ext.drew | apply Ext.alloc | (refine Ext.setCell ?_ (by first | (simp; done) | (simp; omega) | omega) _) | (refine Ext.trans ?_ (by assumption)) | (refine Ext.trans ?_ (held_left (by assumption))))))); obtain ⟨hc_w5, hf_w5⟩ := hE_w5.cells; have hz_w5 := hE_w5.size; have HR5 := Hid.mk' hr; have HG5 := Hid.mk' (HR4.out.ext hb5); clear hr))
      all_goals try (go_ret; exact ⟨rfl, by (repeat (with_reducible (first | exact Ext.refl _ | assumption | exact held_left (by assumption) | apply Ext.drewN | apply Ext.drew | apply Ext.alloc | (refine Ext.setCell ?_ (by first | (simp; done) | (simp; omega) | omega) _) | (refine Ext.trans ?_ (by assumption)) | (refine Ext.trans ?_ (held_left (by assumption))))))⟩)
      clear hc_w4 hf_w4
      go_upto_region 10 with (first
        | (go_at_call 20; refine (HTR.out g _ _ HG5.out).mono ?_; rintro e w6 ⟨rfl, hr6, ht6⟩; have hb6 : Ext ((w.alloc (.cells #[.int .u8 k, .int .u8 ty, .int .i64 n, .int .u64 x, .int .u64 y, .string s] 26)).alloc (.cells #[.int .u8 kind, .int .u8 (1 + ver % 2)] 28)) w6 := Tch.ext hE_w5 (Nat.le_trans hE_w3.size hg) ht6; have hE_w6 : Ext ((w.alloc (.cells #[.int .u8 k, .int .u8 ty, .int .i64 n, .int .u64 x, .int .u64 y, .string s] 26)).alloc (.cells #[.int .u8 kind, .int .u8 (1 + ver % 2)] 28)) w6 := (by (repeat (with_reducible (first | exact Ext.refl _ | assumption | exact held_left (by assumption) | apply Ext.drewN | apply Ext.drew | apply Ext.alloc | (refine Ext.setCell ?_ (by first | (simp; done) | (simp; omega) | omega) _) | (refine Ext.trans ?_ (by assumption)) | (refine Ext.trans ?_ (held_left (by assumption))))))); obtain ⟨hc_w6, hf_w6⟩ := hE_w6.cells; have hz_w6 := hE_w6.size; have HR6 := Hid.mk' (hr6.ext ((Ext.refl w6).alloc (.cells #[.int .u8 k, .int .u8 ty, .int .i64 n, .complex .f64 x y, .string ds] 37))); have HQ6 := Hid.mk' (HR5.out.tch ht6 (by omega) (.inl hgl)); clear hr6 ht6))
      have hz61 : w.heap.size < w6.heap.size := by have := hE_w6.size; simp at this; omega
      have hz60 : w.heap.size + 1 < w6.heap.size := by have := hE_w6.size; simp at this; omega
      clear hc_w5 hf_w5 hb4 hb5
      have HND := Hid.mk' hND
      clear hND
      go_cut [92] (fun p wx => p = .bool false ∧ Hid (Blk wx w6.heap.size #[.int .u8 k, .int .u8 ty, .int .i64 n, .complex .f64 x y, .string ds] 37) ∧ Hid (Ext w6 wx))
      case first =>
        as_aux_lemma =>
          rcases HND.out with ⟨rfl, rfl, rfl⟩ | ⟨rfl, h64, rfl⟩
          · go_wp2_with (first
              | (go_at_call 25; refine (HEN.out g _ _ HR6.out).mono ?_; rintro e w7 ⟨rfl, rfl⟩)
              | (go_at_call 15; refine (HLG.out _).mono ?_; rintro e w8 ⟨rfl, hb8⟩))
            go_meet
            case rel => exact ⟨rfl, Hid.mk' ((Blk.new w6 _ _).ext hb8), Hid.mk' (((Ext.refl w6).alloc _).trans hb8)⟩
          · have hl0 : (0 : Int) < (s.size : Int) := by omega
            go_wp2_with (first
              | (go_at_call 25; refine (HEN.out g _ _ HR6.out).mono ?_; rintro e w7 ⟨rfl, rfl⟩)
              | (go_at_call 15; refine (HLG.out _).mono ?_; rintro e w8 ⟨rfl, hb8⟩; have hE_w8 : Ext ((w.alloc (.cells #[.int .u8 k, .int .u8 ty, .int .i64 n, .int .u64 x, .int .u64 y, .string s] 26)).alloc (.cells #[.int .u8 kind, .int .u8 (1 + ver % 2)] 28)) w8 := (by (repeat (with_reducible (first | exact Ext.refl _ | assumption | exact held_left (by assumption) | apply Ext.drewN | apply Ext.drew | apply Ext.alloc | (refine Ext.setCell ?_ (by first | (simp; done) | (simp; omega) | omega) _) | (refine Ext.trans ?_ (by assumption)) | (refine Ext.trans ?_ (held_left (by assumption))))))); obtain ⟨hc_w8, hf_w8⟩ := hE_w8.cells; have hz_w8 := hE_w8.size))
            go_meet
            case rel => exact ⟨rfl, Hid.mk' ((Blk.new w6 _ _).ext hb8), Hid.mk' (((Ext.refl w6).alloc _).trans hb8)⟩
      case rest =>
        obtain ⟨rfl, HBD, HED⟩ := hcut
        have hbd : Ext ((w.alloc (.cells #[.int .u8 k, .int .u8 ty, .int .i64 n, .int .u64 x, .int .u64 y, .string s] 26)).alloc (.cells #[.int .u8 kind, .int .u8 (1 + ver % 2)] 28)) wc := hE_w6.trans HED.out
        have hE_wc : Ext ((w.alloc (.cells #[.int .u8 k, .int .u8 ty, .int .i64 n, .int .u64 x, .int .u64 y, .string s] 26)).alloc (.cells #[.int .u8 kind, .int .u8 (1 + ver % 2)] 28)) wc := (by (repeat (with_reducible (first | exact Ext.refl _ | assumption | exact held_left (by assumption) | apply Ext.drewN | apply Ext.drew | apply Ext.alloc | (refine Ext.setCell ?_ (by first | (simp; done) | (simp; omega) | omega) _) | (refine Ext.trans ?_ (by assumption)) | (refine Ext.trans ?_ (held_left (by assumption))))))); obtain ⟨hc_wc, hf_wc⟩ := hE_wc.cells; have hz_wc := hE_wc.size
        have kd := HBD.out.cell
        have fd := HBD.out.frozen
        have zd := HBD.out.lt
        clear hc_w6 hf_w6 hbd
        go_upto_if 94 with (fail)
        go_cut [] (fun wx => Hid (Blk wx w6.heap.size #[.int .u8 k, .int .u8 ty, .int .i64 n, .complex .f64 x y, .string s] 37) ∧ Hid (Ext w6 wx))
        case first =>
          as_aux_lemma =>
            rcases HND.out with ⟨rfl, rfl, -⟩ | ⟨rfl, h64, -⟩
            · go_wp2_with fail
              go_meet
              case rel => exact ⟨HBD, HED⟩
            · have hl0 : (0 : Int) < (s.size : Int) := by omega
              go_wp2_with fail
              go_meet
              case rel => exact ⟨Hid.mk' (HBD.out.set 4 (.string s)), Hid.mk' (HED.out.setCell (by simp) _)⟩
        case rest =>
          clear HBD HED kd fd zd hc_wc hf_wc hE_wc hz_wc
          obtain ⟨HBD, HED⟩ := hcut
          rename World => wz
          have hbz : Ext ((w.alloc (.cells #[.int .u8 k, .int .u8 ty, .int .i64 n, .int .u64 x, .int .u64 y, .string s] 26)).alloc (.cells #[.int .u8 kind, .int .u8 (1 + ver % 2)] 28)) wz := hE_w6.trans HED.out
          have HZ := Hid.mk' hbz
          have HS : Hid (∀ w', Ext wz w' → Ext wz w' ∧ (∀ i, w'.cell? ⟨w6.heap.size, i, none⟩ = (#[.int .u8 k, .int .u8 ty, .int .i64 n, .complex .f64 x y, .string s])[i]?) ∧ (∀ b o, b < ((w.alloc (.cells #[.int .u8 k, .int .u8 ty, .int .i64 n, .int .u64 x, .int .u64 y, .string s] 26)).alloc (.cells #[.int .u8 kind, .int .u8 (1 + ver % 2)] 28)).heap.size → w'.cell? ⟨b, o, none⟩ = ((w.alloc (.cells #[.int .u8 k, .int .u8 ty, .int .i64 n, .int .u64 x, .int .u64 y, .string s] 26)).alloc (.cells #[.int .u8 kind, .int .u8 (1 + ver % 2)] 28)).cell? ⟨b, o, none⟩)) :=
            Hid.mk' (fun w' h => ⟨h, (HBD.out.ext h).cell, (hbz.trans h).cells.1⟩)
          clear hbz
          go_upto_region 14 with (fail)
          go_cut [103] (fun p wx => p = .bool false ∧ Hid (Ext wz wx))
          case first =>
            as_aux_lemma =>
              go_region_held3 (fun w' => Ext wz w' ∧ (∀ i, w'.cell? ⟨w6.heap.size, i, none⟩ = (#[.int .u8 k, .int .u8 ty, .int .i64 n, .complex .f64 x y, .string s])[i]?) ∧ (∀ b o, b < ((w.alloc (.cells #[.int .u8 k, .int .u8 ty, .int .i64 n, .int .u64 x, .int .u64 y, .string s] 26)).alloc (.cells #[.int .u8 kind, .int .u8 (1 + ver % 2)] 28)).heap.size → w'.cell? ⟨b, o, none⟩ = ((w.alloc (.cells #[.int .u8 k, .int .u8 ty, .int .i64 n, .int .u64 x, .int .u64 y, .string s] 26)).alloc (.cells #[.int .u8 kind, .int .u8 (1 + ver % 2)] 28)).cell? ⟨b, o, none⟩)) (exact HS.out _ (by (repeat (with_reducible (first | exact Ext.refl _ | assumption | exact held_left (by assumption) | apply Ext.drewN | apply Ext.drew | apply Ext.alloc | (refine Ext.setCell ?_ (by first | (simp; done) | (simp; omega) | omega) _) | (refine Ext.trans ?_ (by assumption)) | (refine Ext.trans ?_ (held_left (by assumption))))))))
                (first
                  | (go_at_call 17; refine (HBK.out _).mono ?_; rintro e w8 ⟨rfl, hb8⟩))
              all_goals (go_wp2; go_meet; case rel => exact ⟨rfl, Hid.mk' (by (repeat (with_reducible (first | exact Ext.refl _ | assumption | exact held_left (by assumption) | apply Ext.drewN | apply Ext.drew | apply Ext.alloc | (refine Ext.setCell ?_ (by first | (simp; done) | (simp; omega) | omega) _) | (refine Ext.trans ?_ (by assumption)) | (refine Ext.trans ?_ (held_left (by assumption)))))))⟩)
          case rest =>
            obtain ⟨rfl, HEY⟩ := hcut
            rename World => wy
            have hby : Ext ((w.alloc (.cells #[.int .u8 k, .int .u8 ty, .int .i64 n, .int .u64 x, .int .u64 y, .string s] 26)).alloc (.cells #[.int .u8 kind, .int .u8 (1 + ver % 2)] 28)) wy := HZ.out.trans HEY.out
            have hE_wy : Ext ((w.alloc (.cells #[.int .u8 k, .int .u8 ty, .int .i64 n, .int .u64 x, .int .u64 y, .string s] 26)).alloc (.cells #[.int .u8 kind, .int .u8 (1 + ver % 2)] 28)) wy := (by (repeat (with_reducible (first | exact Ext.refl _ | assumption | exact held_left (by assumption) | apply Ext.drewN | apply Ext.drew | apply Ext.alloc | (refine Ext.setCell ?_ (by first | (simp; done) | (simp; omega) | omega) _) | (refine Ext.trans ?_ (by assumption)) | (refine Ext.trans ?_ (held_left (by assumption))))))); obtain ⟨hc_wy, hf_wy⟩ := hE_wy.cells; have hz_wy := hE_wy.size
            have hqsz := hE_w5.size
            have HQC := Hid.mk' (HQ6.out.ext (HED.out.trans HEY.out))
            clear HR6 HR5 HG5 HR4 HBD HS HTR HBK HLG HEN HOA HPA
            go_upto_region 17 with (first
              | (go_at_call 20; refine (HTQ.out q _ _ HQC.out).mono ?_; rintro e w9 ⟨rfl, hr9, ht9⟩; have hb9 : Ext ((w.alloc (.cells #[.int .u8 k, .int .u8 ty, .int .i64 n, .int .u64 x, .int .u64 y, .string s] 26)).alloc (.cells #[.int .u8 kind, .int .u8 (1 + ver % 2)] 28)) w9 := Tch.ext hE_wy (Nat.le_trans hE_w4.size hq) ht9; have hE_w9 : Ext ((w.alloc (.cells #[.int .u8 k, .int .u8 ty, .int .i64 n, .int .u64 x, .int .u64 y, .string s] 26)).alloc (.cells #[.int .u8 kind, .int .u8 (1 + ver % 2)] 28)) w9 := (by (repeat (with_reducible (first | exact Ext.refl _ | assumption | exact held_left (by assumption) | apply Ext.drewN | apply Ext.drew | apply Ext.alloc | (refine Ext.setCell ?_ (by first | (simp; done) | (simp; omega) | omega) _) | (refine Ext.trans ?_ (by assumption)) | (refine Ext.trans ?_ (held_left (by assumption))))))); obtain ⟨hc_w9, hf_w9⟩ := hE_w9.cells; have hz_w9 := hE_w9.size; have HR9 := Hid.mk' (hr9.ext ((Ext.refl w9).alloc (.cells #[.int .u8 yk, .int .u8 yt, .int .i64 yn, .complex .f64 yx yy, .string ys] 37))); clear hr9 ht9))
            have hz91 : w.heap.size < w9.heap.size := by have := hE_w9.size; simp at this; omega
            have hz90 : w.heap.size + 1 < w9.heap.size := by have := hE_w9.size; simp at this; omega
            clear hc_wy hf_wy hby hE_wy hz_wy
            by_cases hE0 : E = 0
            · have hSe : Sy.e = 0 ∧ Sy.l = [] := by
                have h := HEE.out
                rw [hE0] at h
                unfold endE at h
                by_cases h1 : Sy.e = 0 ∧ Sy.l ≠ []
                · rw [if_pos h1] at h; cases h
                · rw [if_neg h1] at h
                  exact ⟨h.symm, Classical.byContradiction fun h2 => h1 ⟨h.symm, h2⟩⟩
              have hq' := HQ.out
              have hSy : Sy = ⟨[], 0⟩ := by cases Sy; simp only at hSe; rw [hSe.1, hSe.2]
              rw [hSy] at hq'
              obtain ⟨hyk, hye, hyw, hyp, hM, hys⟩ := takeC_inv HIB.out hq'
              rw [List.append_nil] at hyp
              simp only [K.fill, K.err, K.put, V.wf] at hye hyw hyp hys hyk
              have HPY := Hid.mk' (fun (w : World) => cput_ok (.slice none 0 0) [] yk yt yn yx yy (fillS ys M) kind (1 + ver % 2) w hye (nilSl w) (Nat.zero_le _) hyk hyw.1 hyw.2.1 hyw.2.2 (by rw [fillS_size]; omega))
              simp only [List.nil_append] at HPY
              rw [← hyp] at HPY
              subst hE0
              have HF0 := Hid.mk' (fillS_zero ys)
              clear hSe hq' hSy hyk hye hyw hyp
              go_upto_block 0 with (first
                | (go_at_call 25; refine (HEQ.out q _ _ HR9.out).mono ?_; rintro e w10 ⟨rfl, rfl⟩))
              go_cut [] (fun wx => Hid (Blk wx w9.heap.size #[.int .u8 yk, .int .u8 yt, .int .i64 yn, .complex .f64 yx yy, .string (fillS ys M)] 37) ∧ Hid (Ext ((w.alloc (.cells #[.int .u8 k, .int .u8 ty, .int .i64 n, .int .u64 x, .int .u64 y, .string s] 26)).alloc (.cells #[.int .u8 kind, .int .u8 (1 + ver % 2)] 28)) wx))
              case first =>
                as_aux_lemma =>
                  go_wp2_with fail
                  go_loopg [15] M (fun z i wr => Hid (∃ j : Nat, z + j = M ∧ i = .int .i64 j ∧ Blk wr w9.heap.size #[.int .u8 yk, .int .u8 yt, .int .i64 yn, .complex .f64 yx yy, .string (fillS ys j)] 37 ∧ Ext ((w.alloc (.cells #[.int .u8 k, .int .u8 ty, .int .i64 n, .int .u64 x, .int .u64 y, .string s] 26)).alloc (.cells #[.int .u8 kind, .int .u8 (1 + ver % 2)] 28)) wr))
                  case atStart =>
                    exact Hid.mk' ⟨0, by omega, rfl, by rw [HF0.out]; exact Blk.new _ _ _, hE_w9.alloc _⟩
                  case round =>
                    obtain ⟨j, hqj, rfl, hB, hE⟩ := hrel.out
                    clear hrel
                    have HB := Hid.mk' hB
                    have kb := hB.cell
                    have fb := hB.frozen
                    have zb := hB.lt
                    have HE := Hid.mk' hE
                    clear hB hE
                    have hsz := fillS_size ys j
                    by_cases hlt : j < M
                    · have hadd : ∀ w : World, (Op.stringOp .add (fillS ys j) (⟨#[97]⟩ : ByteArray)).run Try.prog w = .ok (.string (fillS ys (j + 1))) w := fun w => by
                        rw [run_string_add_sum w _ _ (by have : (⟨#[97]⟩ : ByteArray).size = 1 := rfl; omega), fillS_succ]
                      clear hsz
                      go_wp2
                      go_roundg (M - (j + 1))
                      case measure => omega
                      case rel => exact Hid.mk' ⟨j + 1, by omega, by go_num, HB.out.set 4 (.string (fillS ys (j + 1))), HE.out.setCell (by simp; omega) _⟩
                    · obtain rfl : j = M := by omega
                      clear hlt hsz
                      go_wp2
                      go_meet
                      case rel => exact ⟨HB, HE⟩
              case rest =>
                obtain ⟨HBY, HEW⟩ := hcut
                rename World => wv
                have hE_wv0 := HEW.out
                have hE_wv : Ext ((w.alloc (.cells #[.int .u8 k, .int .u8 ty, .int .i64 n, .int .u64 x, .int .u64 y, .string s] 26)).alloc (.cells #[.int .u8 kind, .int .u8 (1 + ver % 2)] 28)) wv := (by (repeat (with_reducible (first | exact Ext.refl _ | assumption | exact held_left (by assumption) | apply Ext.drewN | apply Ext.drew | apply Ext.alloc | (refine Ext.setCell ?_ (by first | (simp; done) | (simp; omega) | omega) _) | (refine Ext.trans ?_ (by assumption)) | (refine Ext.trans ?_ (held_left (by assumption))))))); obtain ⟨hc_wv, hf_wv⟩ := hE_wv.cells; have hz_wv := hE_wv.size
                have ky := HBY.out.cell
                have zy := HBY.out.lt
                clear hc_w9 hf_w9
                go_upto_region 24 with (first
                  | (go_at_call 8; refine (HPY.out _).mono ?_; rintro e w11 ⟨v11, rfl, ho11, hb11⟩; have hbb11 : Ext ((w.alloc (.cells #[.int .u8 k, .int .u8 ty, .int .i64 n, .int .u64 x, .int .u64 y, .string s] 26)).alloc (.cells #[.int .u8 kind, .int .u8 (1 + ver % 2)] 28)) w11 := hE_wv.trans hb11; have hE_w11 : Ext ((w.alloc (.cells #[.int .u8 k, .int .u8 ty, .int .i64 n, .int .u64 x, .int .u64 y, .string s] 26)).alloc (.cells #[.int .u8 kind, .int .u8 (1 + ver % 2)] 28)) w11 := (by (repeat (with_reducible (first | exact Ext.refl _ | assumption | exact held_left (by assumption) | apply Ext.drewN | apply Ext.drew | apply Ext.alloc | (refine Ext.setCell ?_ (by first | (simp; done) | (simp; omega) | omega) _) | (refine Ext.trans ?_ (by assumption)) | (refine Ext.trans ?_ (held_left (by assumption))))))); obtain ⟨hc_w11, hf_w11⟩ := hE_w11.cells; have hz_w11 := hE_w11.size; have HO11 := Hid.mk' ho11; clear ho11))
                have cv1 := conv_Sl HO11.out.sl
                have cv2 := conv_Sl (HL.out.ext (by (repeat (with_reducible (first | exact Ext.refl _ | assumption | exact held_left (by assumption) | apply Ext.drewN | apply Ext.drew | apply Ext.alloc | (refine Ext.setCell ?_ (by first | (simp; done) | (simp; omega) | omega) _) | (refine Ext.trans ?_ (by assumption)) | (refine Ext.trans ?_ (held_left (by assumption)))))) : Ext w w11))
                go_wp2_with (first
                  | (go_at_call 11; refine (awake07_any _).mono ?_; rintro e w13 ⟨rfl, hb13⟩))
                go_ret
                exact ⟨rfl, by (repeat (with_reducible (first | exact Ext.refl _ | assumption | exact held_left (by assumption) | apply Ext.drewN | apply Ext.drew | apply Ext.alloc | (refine Ext.setCell ?_ (by first | (simp; done) | (simp; omega) | omega) _) | (refine Ext.trans ?_ (by assumption)) | (refine Ext.trans ?_ (held_left (by assumption))))))⟩
            · have hE1 : (E != 0) = true := by simpa using hE0
              clear hE0
              go_wp2_with (first
                | (go_at_call 25; refine (HEQ.out q _ _ HR9.out).mono ?_; rintro e w10 ⟨rfl, rfl⟩)
                | (go_at_call 11; refine (awake07_any _).mono ?_; rintro e w13 ⟨rfl, hb13⟩))
              go_ret
              exact ⟨rfl, by (repeat (with_reducible (first | exact Ext.refl _ | assumption | exact held_left (by assumption) | apply Ext.drewN | apply Ext.drew | apply Ext.alloc | (refine Ext.setCell ?_ (by first | (simp; done) | (simp; omega) | omega) _) | (refine Ext.trans ?_ (by assumption)) | (refine Ext.trans ?_ (held_left (by assumption))))))⟩
  · have hA2 : (RA != 0) = true := by simpa using hA
    go_enter Try.func7, Try.ntmps7
    go_wp2_with (first
      | (go_at_call 12; refine (HRA.out _).mono ?_; rintro e w1 ⟨rfl, hb1⟩; have hE_w1 : Ext ((w.alloc (.cells #[.int .u8 k, .int .u8 ty, .int .i64 n, .int .u64 x, .int .u64 y, .string s] 26)).alloc (.cells #[.int .u8 kind, .int .u8 (1 + ver % 2)] 28)) w1 := (by (repeat (with_reducible (first | exact Ext.refl _ | assumption | exact held_left (by assumption) | apply Ext.drewN | apply Ext.drew | apply Ext.alloc | (refine Ext.setCell ?_ (by first | (simp; done) | (simp; omega) | omega) _) | (refine Ext.trans ?_ (by assumption)) | (refine Ext.trans ?_ (held_left (by assumption))))))); obtain ⟨hc_w1, hf_w1⟩ := hE_w1.cells; have hz_w1 := hE_w1.size))
    all_goals (go_ret; exact ⟨rfl, by (repeat (with_reducible (first | exact Ext.refl _ | assumption | exact held_left (by assumption) | apply Ext.drewN | apply Ext.drew | apply Ext.alloc | (refine Ext.setCell ?_ (by first | (simp; done) | (simp; omega) | omega) _) | (refine Ext.trans ?_ (by assumption)) | (refine Ext.trans ?_ (held_left (by assumption))))))⟩)

end Go.Proofs.Ytmpnopjkpamhaaa
