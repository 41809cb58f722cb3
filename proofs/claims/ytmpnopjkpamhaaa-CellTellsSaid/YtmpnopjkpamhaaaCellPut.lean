/-
The program's cell: long and Put.
-/
import Derived.Test.YtmpnopjkpamhaaaCell
import Derived.Test.YtmpnopjkpamhaaaPutOk
import Derived.Test.YtmpnopjkpamhaaaCellI
import Derived.Test.YtmpnopjkpamhaaaRdrE
import Derived.Test.YtmpnopjkpamhaaaStep
namespace Go.Proofs.Ytmpnopjkpamhaaa
open Go.RowKit

set_option maxRecDepth 100000 in set_option maxHeartbeats 1600000 in
theorem clong_any (v : Value) (l : List Int) (tag : Nat) (k ty n : Int) (x y : Nat) (s : ByteArray) (w : World) (hl : Sl w v 1 (l.map bcell)) (hlen : l.length ≤ 800000) (ht : tag < 128) (hs : s.size ≤ 9223372036854775807) :
    Calls Try.prog 27 #[v, .int .u64 tag, .agg #[.int .u8 k, .int .u8 ty, .int .i64 n, .complex .f64 x y, .string s]] w fun e w' => ∃ v', e = .returned v' ∧ OB w' w.heap.size v' (l ++ (tag : Int) :: sevens s.size) ∧ Ext w w' := by
  have HL := Hid.mk' hl
  have HT := Hid.mk' (sevens_lt ht)
  have hw : IntKind.u64.wrap (s.size : Int) = (s.size : Int) := by rw [u64_wrap]; omega
  clear hl
  go_enter Try.func27, Try.ntmps27
  go_upto_region 1 with (fail)
  go_region_held3 (fun w' => Ext (w.alloc (.cells #[.int .u8 k, .int .u8 ty, .int .i64 n, .complex .f64 x y, .string s] 37)) w' ∧ (∀ b o, b < (w.alloc (.cells #[.int .u8 k, .int .u8 ty, .int .i64 n, .complex .f64 x y, .string s] 37)).heap.size → w'.cell? ⟨b, o, none⟩ = (w.alloc (.cells #[.int .u8 k, .int .u8 ty, .int .i64 n, .complex .f64 x y, .string s] 37)).cell? ⟨b, o, none⟩) ∧ (∀ b o, b < (w.alloc (.cells #[.int .u8 k, .int .u8 ty, .int .i64 n, .complex .f64 x y, .string s] 37)).heap.size → w'.frozen? ⟨b, o, none⟩ = (w.alloc (.cells #[.int .u8 k, .int .u8 ty, .int .i64 n, .complex .f64 x y, .string s] 37)).frozen? ⟨b, o, none⟩)) ((exact held_of (by (repeat (with_reducible (first | exact Ext.refl _ | assumption | exact held_left (by assumption) | apply Ext.drewN | apply Ext.drew | apply Ext.alloc | (refine Ext.setCell ?_ (by first | (simp; done) | (simp; omega) | omega) _) | (refine Ext.trans ?_ (by assumption)) | (refine Ext.trans ?_ (held_left (by assumption)))))))))
    (first
      | (go_at_call_of 29 (Value.int IntKind.u64 (tag : Int)); refine (putUint_any v l tag _ (HL.out.ext (by (repeat (with_reducible (first | exact Ext.refl _ | assumption | exact held_left (by assumption) | apply Ext.drewN | apply Ext.drew | apply Ext.alloc | (refine Ext.setCell ?_ (by first | (simp; done) | (simp; omega) | omega) _) | (refine Ext.trans ?_ (by assumption)) | (refine Ext.trans ?_ (held_left (by assumption)))))))) (by omega) (by omega)).mono ?_; rintro e w1 ⟨v1, rfl, ho1, hb1⟩; have hE1 : Ext w w1 := (by (repeat (with_reducible (first | exact Ext.refl _ | assumption | exact held_left (by assumption) | apply Ext.drewN | apply Ext.drew | apply Ext.alloc | (refine Ext.setCell ?_ (by first | (simp; done) | (simp; omega) | omega) _) | (refine Ext.trans ?_ (by assumption)) | (refine Ext.trans ?_ (held_left (by assumption))))))); have HE1 := Hid.mk' hE1; have HO1 := Hid.mk' (by rw [HT.out] at ho1; exact ho1); clear ho1 hE1)
      | (go_at_call 29; refine (putUint_any v1 (l ++ [(tag : Int)]) s.size _ (HO1.out.sl.ext (by (repeat (with_reducible (first | exact Ext.refl _ | assumption | exact held_left (by assumption) | apply Ext.drewN | apply Ext.drew | apply Ext.alloc | (refine Ext.setCell ?_ (by first | (simp; done) | (simp; omega) | omega) _) | (refine Ext.trans ?_ (by assumption)) | (refine Ext.trans ?_ (held_left (by assumption)))))))) (by omega) (by simp; omega)).mono ?_; rintro e w2 ⟨v2, rfl, ho2, hb2⟩; have hE2 : Ext w1 w2 := (by (repeat (with_reducible (first | exact Ext.refl _ | assumption | exact held_left (by assumption) | apply Ext.drewN | apply Ext.drew | apply Ext.alloc | (refine Ext.setCell ?_ (by first | (simp; done) | (simp; omega) | omega) _) | (refine Ext.trans ?_ (by assumption)) | (refine Ext.trans ?_ (held_left (by assumption))))))); have HE2 := Hid.mk' hE2; have HO2 := Hid.mk' (ho2.base (Ext.size (by (repeat (with_reducible (first | exact Ext.refl _ | assumption | exact held_left (by assumption) | apply Ext.drewN | apply Ext.drew | apply Ext.alloc | (refine Ext.setCell ?_ (by first | (simp; done) | (simp; omega) | omega) _) | (refine Ext.trans ?_ (by assumption)) | (refine Ext.trans ?_ (held_left (by assumption)))))) : Ext w _))); clear ho2 hE2))
  go_wp2
  go_ret
  refine ⟨_, rfl, ?_, HE1.out.trans HE2.out⟩
  have h := HO2.out
  rw [List.append_assoc] at h
  exact h

def CPutPost (l : List Int) (k ty n : Int) (x y : Nat) (s : ByteArray) (kind ver : Int) (w : World) (e : Ending) (w' : World) : Prop :=
  ∃ v', e = .returned (.tuple #[v', .int .i64 (errC k ty n x y s kind ver)]) ∧ (errC k ty n x y s kind ver = 0 → OB w' w.heap.size v' (l ++ putC k ty n x y s kind ver)) ∧ (errC k ty n x y s kind ver ≠ 0 → v' = .slice none 0 0) ∧ Ext w w'

theorem CPutPost.ok {l m : List Int} {k ty n : Int} {x y : Nat} {s : ByteArray} {kind ver : Int} {w w' : World} {v' : Value} (he : errC k ty n x y s kind ver = 0) (hm : putC k ty n x y s kind ver = m) (ho : OB w' w.heap.size v' (l ++ m)) (hE : Ext w w') :
    CPutPost l k ty n x y s kind ver w (.returned (.tuple #[v', .int .i64 0])) w' := by
  subst hm
  exact ⟨v', by rw [he], fun _ => ho, fun h => absurd he h, hE⟩
theorem CPutPost.bad {l : List Int} {k ty n : Int} {x y : Nat} {s : ByteArray} {kind ver : Int} {w w' : World} {E : Int} (he : errC k ty n x y s kind ver = E) (h0 : E ≠ 0) (hE : Ext w w') :
    CPutPost l k ty n x y s kind ver w (.returned (.tuple #[.slice none 0 0, .int .i64 E])) w' := by
  subst he
  exact ⟨_, rfl, fun h => absurd h h0, fun _ => rfl, hE⟩

set_option maxRecDepth 100000 in set_option maxHeartbeats 1600000 in
theorem cput_same (v : Value) (l : List Int) (ty n : Int) (x y : Nat) (s : ByteArray) (kind ver : Int) (w : World) (hl : Sl w v 1 (l.map bcell)) (hlen : l.length ≤ 700000) (hs : s.size ≤ 9223372036854775807)
    (hv : ver = 1 ∨ ver = 2) (hr : rightC 1 ty n x y s kind = 0) :
    Calls Try.prog 8 #[v, .agg #[.int .u8 1, .int .u8 ty, .int .i64 n, .complex .f64 x y, .string s], .int .u8 kind, .int .u8 ver] w (CPutPost l 1 ty n x y s kind ver w) := by
  obtain ⟨i0, hi, hz0, hz1, hz2⟩ := info_parts Try.infoU8
  have HL := Hid.mk' hl
  have HR := Hid.mk' (fun w => cright_any 1 ty n x y s kind w (by decide) hs)
  rw [hr] at HR
  have HE := Hid.mk' (err_mk hv hr ne_one)
  have HP : Hid (putC 1 ty n x y s kind ver = [0]) := Hid.mk' (by unfold putC; rw [if_pos rfl])
  clear hl hr
  have hv1 : 1 ≤ ver := by omega
  have hv2 : ver ≤ 2 := by omega
  clear hv
  go_enter Try.func8, Try.ntmps8
  go_wp2_with (first
    | (go_at_call 13; refine (HR.out _).mono ?_; rintro e w1 ⟨rfl, hb1⟩; have hE1 : Ext w w1 := (by (repeat (with_reducible (first | exact Ext.refl _ | assumption | exact held_left (by assumption) | apply Ext.drewN | apply Ext.drew | apply Ext.alloc | (refine Ext.setCell ?_ (by first | (simp; done) | (simp; omega) | omega) _) | (refine Ext.trans ?_ (by assumption)) | (refine Ext.trans ?_ (held_left (by assumption))))))); have hE_w1 := hb1; obtain ⟨hc_w1, hf_w1⟩ := hE_w1.cells; have hz_w1 := hE_w1.size)
    | (go_at_call 26; refine (clone_any v l _ (HL.out.ext (by (repeat (with_reducible (first | exact Ext.refl _ | assumption | exact held_left (by assumption) | apply Ext.drewN | apply Ext.drew | apply Ext.alloc | (refine Ext.setCell ?_ (by first | (simp; done) | (simp; omega) | omega) _) | (refine Ext.trans ?_ (by assumption)) | (refine Ext.trans ?_ (held_left (by assumption)))))))) (by omega)).mono ?_; rintro e w2 ⟨v2, rfl, ho2, hb2⟩; have hE2 : Ext w w2 := (by (repeat (with_reducible (first | exact Ext.refl _ | assumption | exact held_left (by assumption) | apply Ext.drewN | apply Ext.drew | apply Ext.alloc | (refine Ext.setCell ?_ (by first | (simp; done) | (simp; omega) | omega) _) | (refine Ext.trans ?_ (by assumption)) | (refine Ext.trans ?_ (held_left (by assumption))))))); have hE_w2 := hE_w1.trans hb2; obtain ⟨hc_w2, hf_w2⟩ := hE_w2.cells; have hz_w2 := hE_w2.size; have HO2 := Hid.mk' (ho2.base (hE1.size)); have HB2 := Hid.mk' (ho2.base hz_w1); clear ho2 hc_w1 hf_w1)
    | (at_builtin; refine wpList_append_own _ rfl _ _ 29 rfl w.heap.size 5 i0 _ 1 1 Try.underlying29 hi hz0 hz1 hz2 rfl (by decide) _ _ _ rfl (HO2.out.alloc _) ⟨_, 0, none⟩ 1 1 (bs [0]) rfl rfl ?c1 ?c2 ?c3 ?c4 ?c5 ?_))
  case c1 => exact cells_one _ _
  case c2 => exact bs_one _
  case c3 => unfold maxLen; omega
  case c4 => omega
  case c5 => have := hE2.size; simp; omega
  intro v3 w3 hown hgrow _
  have hE3 := OB.grown (hE2.alloc _) (HO2.out.alloc _) hgrow
  have HO3 := Hid.mk' (OB.push hown (by simp))
  have HE3 := Hid.mk' hE3
  clear hown hgrow hE3
  go_wp2
  go_ret2
  exact CPutPost.ok HE.out HP.out HO3.out HE3.out

set_option maxRecDepth 100000 in set_option maxHeartbeats 1600000 in
theorem cput_large (v : Value) (l : List Int) (ty n : Int) (x y : Nat) (s : ByteArray) (kind ver : Int) (w : World) (hl : Sl w v 1 (l.map bcell)) (hlen : l.length ≤ 700000) (hs : s.size ≤ 9223372036854775807)
    (hv : ver = 1 ∨ ver = 2) (hr : rightC 2 ty n x y s kind = 0) (hL : largeB 2 ty s = true) :
    Calls Try.prog 8 #[v, .agg #[.int .u8 2, .int .u8 ty, .int .i64 n, .complex .f64 x y, .string s], .int .u8 kind, .int .u8 ver] w (CPutPost l 2 ty n x y s kind ver w) := by
  have HL := Hid.mk' hl
  have HR := Hid.mk' (fun w => cright_any 2 ty n x y s kind w (by decide) hs)
  rw [hr] at HR
  have HE := Hid.mk' (err_mk hv hr ne_two)
  have HP := Hid.mk' (putC_large (n := n) (x := x) (y := y) (kind := kind) (ver := ver) hL)
  have HLA := Hid.mk' (fun w => clarge_any 2 ty n x y s w)
  rw [hL] at HLA
  clear hl hr hL
  rcases hv with rfl | rfl
  · go_enter Try.func8, Try.ntmps8
    go_wp2_with (first
      | (go_at_call 13; refine (HR.out _).mono ?_; rintro e w1 ⟨rfl, hb1⟩; have hE1 : Ext w w1 := (by (repeat (with_reducible (first | exact Ext.refl _ | assumption | exact held_left (by assumption) | apply Ext.drewN | apply Ext.drew | apply Ext.alloc | (refine Ext.setCell ?_ (by first | (simp; done) | (simp; omega) | omega) _) | (refine Ext.trans ?_ (by assumption)) | (refine Ext.trans ?_ (held_left (by assumption))))))); have hE_w1 := hb1; obtain ⟨hc_w1, hf_w1⟩ := hE_w1.cells; have hz_w1 := hE_w1.size)
      | (go_at_call 26; refine (clone_any v l _ (HL.out.ext (by (repeat (with_reducible (first | exact Ext.refl _ | assumption | exact held_left (by assumption) | apply Ext.drewN | apply Ext.drew | apply Ext.alloc | (refine Ext.setCell ?_ (by first | (simp; done) | (simp; omega) | omega) _) | (refine Ext.trans ?_ (by assumption)) | (refine Ext.trans ?_ (held_left (by assumption)))))))) (by omega)).mono ?_; rintro e w2 ⟨v2, rfl, ho2, hb2⟩; have hE2 : Ext w w2 := (by (repeat (with_reducible (first | exact Ext.refl _ | assumption | exact held_left (by assumption) | apply Ext.drewN | apply Ext.drew | apply Ext.alloc | (refine Ext.setCell ?_ (by first | (simp; done) | (simp; omega) | omega) _) | (refine Ext.trans ?_ (by assumption)) | (refine Ext.trans ?_ (held_left (by assumption))))))); have hE_w2 := hE_w1.trans hb2; obtain ⟨hc_w2, hf_w2⟩ := hE_w2.cells; have hz_w2 := hE_w2.size; have HO2 := Hid.mk' (ho2.base (hE1.size)); have HB2 := Hid.mk' (ho2.base hz_w1); clear ho2 hc_w1 hf_w1)
      | (go_at_call 14; refine (HLA.out _).mono ?_; rintro e w3 ⟨rfl, hb3⟩; have hE_w3 := hE_w2.trans hb3; have hE3 : Ext w2 w3 := hb3; obtain ⟨hc_w3, hf_w3⟩ := hE_w3.cells; have hz_w3 := hE_w3.size; clear hc_w2 hf_w2)
      | (go_at_call 14; refine (HLA.out _).mono ?_; rintro e w4 ⟨rfl, hb4⟩; have hE_w4 := hE_w3.trans hb4; have hE4 : Ext w2 w4 := hE3.trans hb4; obtain ⟨hc_w4, hf_w4⟩ := hE_w4.cells; have hz_w4 := hE_w4.size; clear hc_w3 hf_w3)
      | (go_at_call 27; refine (clong_any v2 l 2 2 ty n x y s _ (HO2.out.sl.ext (by (repeat (with_reducible (first | exact Ext.refl _ | assumption | exact held_left (by assumption) | apply Ext.drewN | apply Ext.drew | apply Ext.alloc | (refine Ext.setCell ?_ (by first | (simp; done) | (simp; omega) | omega) _) | (refine Ext.trans ?_ (by assumption)) | (refine Ext.trans ?_ (held_left (by assumption)))))))) (by omega) (by decide) hs).mono ?_; rintro e w5 ⟨v4, rfl, ho4, hb5⟩; have HO4 := Hid.mk' (ho4.base (Ext.size (by (repeat (with_reducible (first | exact Ext.refl _ | assumption | exact held_left (by assumption) | apply Ext.drewN | apply Ext.drew | apply Ext.alloc | (refine Ext.setCell ?_ (by first | (simp; done) | (simp; omega) | omega) _) | (refine Ext.trans ?_ (by assumption)) | (refine Ext.trans ?_ (held_left (by assumption)))))) : Ext w _))); have HE4 : Hid (Ext w w5) := Hid.mk' (by (repeat (with_reducible (first | exact Ext.refl _ | assumption | exact held_left (by assumption) | apply Ext.drewN | apply Ext.drew | apply Ext.alloc | (refine Ext.setCell ?_ (by first | (simp; done) | (simp; omega) | omega) _) | (refine Ext.trans ?_ (by assumption)) | (refine Ext.trans ?_ (held_left (by assumption))))))); clear ho4 hb5))
    go_ret2
    exact CPutPost.ok HE.out HP.out HO4.out HE4.out
  · go_enter Try.func8, Try.ntmps8
    go_wp2_with (first
      | (go_at_call 13; refine (HR.out _).mono ?_; rintro e w1 ⟨rfl, hb1⟩; have hE1 : Ext w w1 := (by (repeat (with_reducible (first | exact Ext.refl _ | assumption | exact held_left (by assumption) | apply Ext.drewN | apply Ext.drew | apply Ext.alloc | (refine Ext.setCell ?_ (by first | (simp; done) | (simp; omega) | omega) _) | (refine Ext.trans ?_ (by assumption)) | (refine Ext.trans ?_ (held_left (by assumption))))))); have hE_w1 := hb1; obtain ⟨hc_w1, hf_w1⟩ := hE_w1.cells; have hz_w1 := hE_w1.size)
      | (go_at_call 26; refine (clone_any v l _ (HL.out.ext (by (repeat (with_reducible (first | exact Ext.refl _ | assumption | exact held_left (by assumption) | apply Ext.drewN | apply Ext.drew | apply Ext.alloc | (refine Ext.setCell ?_ (by first | (simp; done) | (simp; omega) | omega) _) | (refine Ext.trans ?_ (by assumption)) | (refine Ext.trans ?_ (held_left (by assumption)))))))) (by omega)).mono ?_; rintro e w2 ⟨v2, rfl, ho2, hb2⟩; have hE2 : Ext w w2 := (by (repeat (with_reducible (first | exact Ext.refl _ | assumption | exact held_left (by assumption) | apply Ext.drewN | apply Ext.drew | apply Ext.alloc | (refine Ext.setCell ?_ (by first | (simp; done) | (simp; omega) | omega) _) | (refine Ext.trans ?_ (by assumption)) | (refine Ext.trans ?_ (held_left (by assumption))))))); have hE_w2 := hE_w1.trans hb2; obtain ⟨hc_w2, hf_w2⟩ := hE_w2.cells; have hz_w2 := hE_w2.size; have HO2 := Hid.mk' (ho2.base (hE1.size)); have HB2 := Hid.mk' (ho2.base hz_w1); clear ho2 hc_w1 hf_w1)
      | (go_at_call 14; refine (HLA.out _).mono ?_; rintro e w3 ⟨rfl, hb3⟩; have hE_w3 := hE_w2.trans hb3; have hE3 : Ext w2 w3 := hb3; obtain ⟨hc_w3, hf_w3⟩ := hE_w3.cells; have hz_w3 := hE_w3.size; clear hc_w2 hf_w2)
      | (go_at_call 27; refine (clong_any v2 l 1 2 ty n x y s _ (HO2.out.sl.ext (by (repeat (with_reducible (first | exact Ext.refl _ | assumption | exact held_left (by assumption) | apply Ext.drewN | apply Ext.drew | apply Ext.alloc | (refine Ext.setCell ?_ (by first | (simp; done) | (simp; omega) | omega) _) | (refine Ext.trans ?_ (by assumption)) | (refine Ext.trans ?_ (held_left (by assumption)))))))) (by omega) (by decide) hs).mono ?_; rintro e w5 ⟨v4, rfl, ho4, hb5⟩; have HO4 := Hid.mk' (ho4.base (Ext.size (by (repeat (with_reducible (first | exact Ext.refl _ | assumption | exact held_left (by assumption) | apply Ext.drewN | apply Ext.drew | apply Ext.alloc | (refine Ext.setCell ?_ (by first | (simp; done) | (simp; omega) | omega) _) | (refine Ext.trans ?_ (by assumption)) | (refine Ext.trans ?_ (held_left (by assumption)))))) : Ext w _))); have HE4 : Hid (Ext w w5) := Hid.mk' (by (repeat (with_reducible (first | exact Ext.refl _ | assumption | exact held_left (by assumption) | apply Ext.drewN | apply Ext.drew | apply Ext.alloc | (refine Ext.setCell ?_ (by first | (simp; done) | (simp; omega) | omega) _) | (refine Ext.trans ?_ (by assumption)) | (refine Ext.trans ?_ (held_left (by assumption))))))); clear ho4 hb5))
    go_ret2
    exact CPutPost.ok HE.out HP.out HO4.out HE4.out

set_option maxRecDepth 100000 in set_option maxHeartbeats 1600000 in
theorem cput_text (v : Value) (l : List Int) (ty n : Int) (x y : Nat) (s : ByteArray) (kind : Int) (w : World) (hl : Sl w v 1 (l.map bcell)) (hlen : l.length ≤ 700000) (hs : s.size ≤ 9223372036854775807)
    (hr : rightC 2 ty n x y s kind = 0) (hL : largeB 2 ty s = false) (hk : kind = 5 ∨ kind = 6) :
    Calls Try.prog 8 #[v, .agg #[.int .u8 2, .int .u8 ty, .int .i64 n, .complex .f64 x y, .string s], .int .u8 kind, .int .u8 2] w (CPutPost l 2 ty n x y s kind 2 w) := by
  have HL := Hid.mk' hl
  have HR := Hid.mk' (fun w => cright_any 2 ty n x y s kind w (by decide) hs)
  rw [hr] at HR
  have HE := Hid.mk' (err_mk (.inr rfl) hr ne_two)
  have HP : Hid (putC 2 ty n x y s kind 2 = sevens (s.size + 2) ++ strL s) := Hid.mk' (by rw [putC_small hL, if_pos rfl, if_pos hk])
  have HLA := Hid.mk' (fun w => clarge_any 2 ty n x y s w)
  rw [hL] at HLA
  have HX := Hid.mk' (fun w => texty_yes kind w hk)
  have hs2 : s.size ≤ 2048 := (right_zero (right_full hr).1).2.2.1
  have hw : IntKind.u64.wrap ((s.size : Int) + 2) = ((s.size + 2 : Nat) : Int) := by rw [u64_wrap]; omega
  have hw2 : IntKind.i64.wrap ((s.size : Int) + 2) = (s.size : Int) + 2 := by rw [i64_wrap]; omega
  have HS10 := Hid.mk' (sevens_len10 (x := s.size + 2) (by omega))
  clear hl hr hL hk
  go_enter Try.func8, Try.ntmps8
  go_upto_region 17 with (first
    | (go_at_call 13; refine (HR.out _).mono ?_; rintro e w1 ⟨rfl, hb1⟩; have hE1 : Ext w w1 := (by (repeat (with_reducible (first | exact Ext.refl _ | assumption | exact held_left (by assumption) | apply Ext.drewN | apply Ext.drew | apply Ext.alloc | (refine Ext.setCell ?_ (by first | (simp; done) | (simp; omega) | omega) _) | (refine Ext.trans ?_ (by assumption)) | (refine Ext.trans ?_ (held_left (by assumption))))))); have hE_w1 := hb1; obtain ⟨hc_w1, hf_w1⟩ := hE_w1.cells; have hz_w1 := hE_w1.size)
    | (go_at_call 26; refine (clone_any v l _ (HL.out.ext (by (repeat (with_reducible (first | exact Ext.refl _ | assumption | exact held_left (by assumption) | apply Ext.drewN | apply Ext.drew | apply Ext.alloc | (refine Ext.setCell ?_ (by first | (simp; done) | (simp; omega) | omega) _) | (refine Ext.trans ?_ (by assumption)) | (refine Ext.trans ?_ (held_left (by assumption)))))))) (by omega)).mono ?_; rintro e w2 ⟨v2, rfl, ho2, hb2⟩; have hE2 : Ext w w2 := (by (repeat (with_reducible (first | exact Ext.refl _ | assumption | exact held_left (by assumption) | apply Ext.drewN | apply Ext.drew | apply Ext.alloc | (refine Ext.setCell ?_ (by first | (simp; done) | (simp; omega) | omega) _) | (refine Ext.trans ?_ (by assumption)) | (refine Ext.trans ?_ (held_left (by assumption))))))); have hE_w2 := hE_w1.trans hb2; obtain ⟨hc_w2, hf_w2⟩ := hE_w2.cells; have hz_w2 := hE_w2.size; have HO2 := Hid.mk' (ho2.base (hE1.size)); have HB2 := Hid.mk' (ho2.base hz_w1); clear ho2 hc_w1 hf_w1)
    | (go_at_call 14; refine (HLA.out _).mono ?_; rintro e w3 ⟨rfl, hb3⟩; have hE_w3 := hE_w2.trans hb3; have hE3 : Ext w2 w3 := hb3; obtain ⟨hc_w3, hf_w3⟩ := hE_w3.cells; have hz_w3 := hE_w3.size; clear hc_w2 hf_w2)
    | (go_at_call 14; refine (HLA.out _).mono ?_; rintro e w4 ⟨rfl, hb4⟩; have hE_w4 := hE_w3.trans hb4; have hE4 : Ext w2 w4 := hE3.trans hb4; obtain ⟨hc_w4, hf_w4⟩ := hE_w4.cells; have hz_w4 := hE_w4.size; clear hc_w3 hf_w3)
    | (go_at_call 28; refine (HX.out _).mono ?_; rintro e w9 ⟨rfl, rfl⟩))
  have hEw4 : Ext w w4 := hE2.trans hE4
  have HS : Hid (∀ w', Ext w4 w' → Ext w4 w' ∧ w'.cell? ⟨w.heap.size, 4, none⟩ = some (.string s)) := Hid.mk' (fun w' h => ⟨h, by rw [(hE_w4.trans h).cells.1 _ _ (by simp), (Blk.new w #[.int .u8 2, .int .u8 ty, .int .i64 n, .complex .f64 x y, .string s] 37).cell 4]; rfl⟩)
  have HEw4 := Hid.mk' hEw4
  have HE24 := Hid.mk' hE4
  clear hEw4 hE1 hE2 hE3 hE4 hE_w1 hE_w2 hE_w3 hE_w4 hc_w4 hf_w4 hb1 hb2 hb3 hb4
  go_region_held3 (fun w' => Ext w4 w' ∧ w'.cell? ⟨w.heap.size, 4, none⟩ = some (.string s)) (exact HS.out _ (by (repeat (with_reducible (first | exact Ext.refl _ | assumption | exact held_left (by assumption) | apply Ext.drewN | apply Ext.drew | apply Ext.alloc | (refine Ext.setCell ?_ (by first | (simp; done) | (simp; omega) | omega) _) | (refine Ext.trans ?_ (by assumption)) | (refine Ext.trans ?_ (held_left (by assumption))))))))
    (first
      | (refine step_app_str (by rfl) _ _ (by rfl) w.heap.size _ _ (by rfl) HO4.out s (by rfl) (by have := HS10.out; simp; omega) HE4.out.size ?_; intro v5 w6 ho5 hgrow; have hE5 : Ext w w6 := OB.grown HE4.out HO4.out hgrow; have hb6' : Ext w4 w6 := OB.grown hb4' HOB4.out hgrow; have HO5 := Hid.mk' ho5; have HE5 := Hid.mk' hE5; clear ho5 hgrow hE5)
      | (go_at_call 29; refine (putUint_any v2 l (s.size + 2) _ (HO2.out.sl.ext (HE24.out.trans (by (repeat (with_reducible (first | exact Ext.refl _ | assumption | exact held_left (by assumption) | apply Ext.drewN | apply Ext.drew | apply Ext.alloc | (refine Ext.setCell ?_ (by first | (simp; done) | (simp; omega) | omega) _) | (refine Ext.trans ?_ (by assumption)) | (refine Ext.trans ?_ (held_left (by assumption))))))))) (by omega) (by omega)).mono ?_; rintro e w5 ⟨v4, rfl, ho4, hb5⟩; have hb4' : Ext w4 w5 := (by (repeat (with_reducible (first | exact Ext.refl _ | assumption | exact held_left (by assumption) | apply Ext.drewN | apply Ext.drew | apply Ext.alloc | (refine Ext.setCell ?_ (by first | (simp; done) | (simp; omega) | omega) _) | (refine Ext.trans ?_ (by assumption)) | (refine Ext.trans ?_ (held_left (by assumption))))))); have HE4 := Hid.mk' (HEw4.out.trans hb4'); have HO4 := Hid.mk' (ho4.base (Ext.size (HEw4.out.trans (by (repeat (with_reducible (first | exact Ext.refl _ | assumption | exact held_left (by assumption) | apply Ext.drewN | apply Ext.drew | apply Ext.alloc | (refine Ext.setCell ?_ (by first | (simp; done) | (simp; omega) | omega) _) | (refine Ext.trans ?_ (by assumption)) | (refine Ext.trans ?_ (held_left (by assumption)))))) : Ext w4 _)))); have HOB4 := Hid.mk' (ho4.base (Ext.size (by (repeat (with_reducible (first | exact Ext.refl _ | assumption | exact held_left (by assumption) | apply Ext.drewN | apply Ext.drew | apply Ext.alloc | (refine Ext.setCell ?_ (by first | (simp; done) | (simp; omega) | omega) _) | (refine Ext.trans ?_ (by assumption)) | (refine Ext.trans ?_ (held_left (by assumption)))))) : Ext w4 _))); clear ho4))
  go_wp2
  go_ret2
  exact CPutPost.ok HE.out HP.out (by have := HO5.out; rw [List.append_assoc] at this; exact this) HE5.out

set_option maxRecDepth 100000 in set_option maxHeartbeats 1600000 in
theorem cput_two (v : Value) (l : List Int) (ty n : Int) (x y : Nat) (s : ByteArray) (kind : Int) (w : World) (hl : Sl w v 1 (l.map bcell)) (hlen : l.length ≤ 700000) (hs : s.size ≤ 9223372036854775807)
    (hn : -9223372036854775808 ≤ n ∧ n < 9223372036854775808) (hx : x < 2 ^ 64) (hy : y < 2 ^ 64)
    (hr : rightC 2 ty n x y s kind = 0) (hL : largeB 2 ty s = false) (hk : kind ≠ 5 ∧ kind ≠ 6) :
    Calls Try.prog 8 #[v, .agg #[.int .u8 2, .int .u8 ty, .int .i64 n, .complex .f64 x y, .string s], .int .u8 kind, .int .u8 2] w (CPutPost l 2 ty n x y s kind 2 w) := by
  have HL := Hid.mk' hl
  have HR := Hid.mk' (fun w => cright_any 2 ty n x y s kind w (by decide) hs)
  rw [hr] at HR
  have HE := Hid.mk' (err_mk (.inr rfl) hr ne_two)
  have HP : Hid (putC 2 ty n x y s kind 2 = putL ty n x y s 2) := Hid.mk' (by rw [putC_small hL, if_pos rfl, if_neg (by omega)])
  have HLA := Hid.mk' (fun w => clarge_any 2 ty n x y s w)
  rw [hL] at HLA
  have HX := Hid.mk' (fun w => texty_no kind w hk)
  have eV : errV ty n x y s 2 = 0 := by unfold errV; rw [if_pos (.inr rfl)]; exact (right_full hr).1
  have HVP := Hid.mk' (fun (v : Value) (l : List Int) (w : World) (hl : Sl w v 1 (l.map bcell)) (hlen : l.length ≤ 800000) => vput_ok v l ty n x y s 2 w eV hl hlen hn hx hy hs)
  clear hl hr hL hk hn hx hy eV
  go_enter Try.func8, Try.ntmps8
  go_wp2_with (first
    | (go_at_call 13; refine (HR.out _).mono ?_; rintro e w1 ⟨rfl, hb1⟩; have hE1 : Ext w w1 := (by (repeat (with_reducible (first | exact Ext.refl _ | assumption | exact held_left (by assumption) | apply Ext.drewN | apply Ext.drew | apply Ext.alloc | (refine Ext.setCell ?_ (by first | (simp; done) | (simp; omega) | omega) _) | (refine Ext.trans ?_ (by assumption)) | (refine Ext.trans ?_ (held_left (by assumption))))))); have hE_w1 := hb1; obtain ⟨hc_w1, hf_w1⟩ := hE_w1.cells; have hz_w1 := hE_w1.size)
    | (go_at_call 26; refine (clone_any v l _ (HL.out.ext (by (repeat (with_reducible (first | exact Ext.refl _ | assumption | exact held_left (by assumption) | apply Ext.drewN | apply Ext.drew | apply Ext.alloc | (refine Ext.setCell ?_ (by first | (simp; done) | (simp; omega) | omega) _) | (refine Ext.trans ?_ (by assumption)) | (refine Ext.trans ?_ (held_left (by assumption)))))))) (by omega)).mono ?_; rintro e w2 ⟨v2, rfl, ho2, hb2⟩; have hE2 : Ext w w2 := (by (repeat (with_reducible (first | exact Ext.refl _ | assumption | exact held_left (by assumption) | apply Ext.drewN | apply Ext.drew | apply Ext.alloc | (refine Ext.setCell ?_ (by first | (simp; done) | (simp; omega) | omega) _) | (refine Ext.trans ?_ (by assumption)) | (refine Ext.trans ?_ (held_left (by assumption))))))); have hE_w2 := hE_w1.trans hb2; obtain ⟨hc_w2, hf_w2⟩ := hE_w2.cells; have hz_w2 := hE_w2.size; have HO2 := Hid.mk' (ho2.base (hE1.size)); have HB2 := Hid.mk' (ho2.base hz_w1); clear ho2 hc_w1 hf_w1)
    | (go_at_call 14; refine (HLA.out _).mono ?_; rintro e w3 ⟨rfl, hb3⟩; have hE_w3 := hE_w2.trans hb3; have hE3 : Ext w2 w3 := hb3; obtain ⟨hc_w3, hf_w3⟩ := hE_w3.cells; have hz_w3 := hE_w3.size; clear hc_w2 hf_w2)
    | (go_at_call 14; refine (HLA.out _).mono ?_; rintro e w4 ⟨rfl, hb4⟩; have hE_w4 := hE_w3.trans hb4; have hE4 : Ext w2 w4 := hE3.trans hb4; obtain ⟨hc_w4, hf_w4⟩ := hE_w4.cells; have hz_w4 := hE_w4.size; clear hc_w3 hf_w3)
    | (go_at_call 28; refine (HX.out _).mono ?_; rintro e w9 ⟨rfl, rfl⟩)
    | (go_at_call 30; refine (HVP.out v2 l _ (HO2.out.sl.ext (by (repeat (with_reducible (first | exact Ext.refl _ | assumption | exact held_left (by assumption) | apply Ext.drewN | apply Ext.drew | apply Ext.alloc | (refine Ext.setCell ?_ (by first | (simp; done) | (simp; omega) | omega) _) | (refine Ext.trans ?_ (by assumption)) | (refine Ext.trans ?_ (held_left (by assumption)))))))) (by omega)).mono ?_; rintro e w5 ⟨v4, rfl, ho4, hb5⟩; have HO4 := Hid.mk' (ho4.base (Ext.size (by (repeat (with_reducible (first | exact Ext.refl _ | assumption | exact held_left (by assumption) | apply Ext.drewN | apply Ext.drew | apply Ext.alloc | (refine Ext.setCell ?_ (by first | (simp; done) | (simp; omega) | omega) _) | (refine Ext.trans ?_ (by assumption)) | (refine Ext.trans ?_ (held_left (by assumption)))))) : Ext w _))); have HE4 : Hid (Ext w w5) := Hid.mk' (by (repeat (with_reducible (first | exact Ext.refl _ | assumption | exact held_left (by assumption) | apply Ext.drewN | apply Ext.drew | apply Ext.alloc | (refine Ext.setCell ?_ (by first | (simp; done) | (simp; omega) | omega) _) | (refine Ext.trans ?_ (by assumption)) | (refine Ext.trans ?_ (held_left (by assumption))))))); clear ho4 hb5))
  go_ret2
  exact CPutPost.ok HE.out HP.out HO4.out HE4.out

set_option maxRecDepth 100000 in set_option maxHeartbeats 1600000 in
theorem cput_one (v : Value) (l : List Int) (ty n : Int) (x y : Nat) (s : ByteArray) (kind : Int) (w : World) (hl : Sl w v 1 (l.map bcell)) (hlen : l.length ≤ 700000) (hs : s.size ≤ 9223372036854775807)
    (hn : -9223372036854775808 ≤ n ∧ n < 9223372036854775808) (hx : x < 2 ^ 64) (hy : y < 2 ^ 64)
    (hr : rightC 2 ty n x y s kind = 0) (hL : largeB 2 ty s = false) :
    Calls Try.prog 8 #[v, .agg #[.int .u8 2, .int .u8 ty, .int .i64 n, .complex .f64 x y, .string s], .int .u8 kind, .int .u8 1] w (CPutPost l 2 ty n x y s kind 1 w) := by
  obtain ⟨i0, hi, hz0, hz1, hz2⟩ := info_parts Try.infoU8
  have HL := Hid.mk' hl
  have HR := Hid.mk' (fun w => cright_any 2 ty n x y s kind w (by decide) hs)
  rw [hr] at HR
  have HE := Hid.mk' (err_mk (.inl rfl) hr ne_two)
  have HP : Hid (putC 2 ty n x y s kind 1 = 1 :: putL ty n x y s 1) := Hid.mk' (by rw [putC_small hL, if_neg (by decide)])
  have HLA := Hid.mk' (fun w => clarge_any 2 ty n x y s w)
  rw [hL] at HLA
  have eV : errV ty n x y s 1 = 0 := by unfold errV; rw [if_pos (.inl rfl)]; exact (right_full hr).1
  have HVP := Hid.mk' (fun (v : Value) (l : List Int) (w : World) (hl : Sl w v 1 (l.map bcell)) (hlen : l.length ≤ 800000) => vput_ok v l ty n x y s 1 w eV hl hlen hn hx hy hs)
  clear hl hr hL hn hx hy eV
  go_enter Try.func8, Try.ntmps8
  go_wp2_with (first
    | (go_at_call 13; refine (HR.out _).mono ?_; rintro e w1 ⟨rfl, hb1⟩; have hE1 : Ext w w1 := (by (repeat (with_reducible (first | exact Ext.refl _ | assumption | exact held_left (by assumption) | apply Ext.drewN | apply Ext.drew | apply Ext.alloc | (refine Ext.setCell ?_ (by first | (simp; done) | (simp; omega) | omega) _) | (refine Ext.trans ?_ (by assumption)) | (refine Ext.trans ?_ (held_left (by assumption))))))); have hE_w1 := hb1; obtain ⟨hc_w1, hf_w1⟩ := hE_w1.cells; have hz_w1 := hE_w1.size)
    | (go_at_call 26; refine (clone_any v l _ (HL.out.ext (by (repeat (with_reducible (first | exact Ext.refl _ | assumption | exact held_left (by assumption) | apply Ext.drewN | apply Ext.drew | apply Ext.alloc | (refine Ext.setCell ?_ (by first | (simp; done) | (simp; omega) | omega) _) | (refine Ext.trans ?_ (by assumption)) | (refine Ext.trans ?_ (held_left (by assumption)))))))) (by omega)).mono ?_; rintro e w2 ⟨v2, rfl, ho2, hb2⟩; have hE2 : Ext w w2 := (by (repeat (with_reducible (first | exact Ext.refl _ | assumption | exact held_left (by assumption) | apply Ext.drewN | apply Ext.drew | apply Ext.alloc | (refine Ext.setCell ?_ (by first | (simp; done) | (simp; omega) | omega) _) | (refine Ext.trans ?_ (by assumption)) | (refine Ext.trans ?_ (held_left (by assumption))))))); have hE_w2 := hE_w1.trans hb2; obtain ⟨hc_w2, hf_w2⟩ := hE_w2.cells; have hz_w2 := hE_w2.size; have HO2 := Hid.mk' (ho2.base (hE1.size)); have HB2 := Hid.mk' (ho2.base hz_w1); clear ho2 hc_w1 hf_w1)
    | (go_at_call 14; refine (HLA.out _).mono ?_; rintro e w3 ⟨rfl, hb3⟩; have hE_w3 := hE_w2.trans hb3; have hE3 : Ext w2 w3 := hb3; obtain ⟨hc_w3, hf_w3⟩ := hE_w3.cells; have hz_w3 := hE_w3.size; clear hc_w2 hf_w2)
    | (go_at_call 14; refine (HLA.out _).mono ?_; rintro e w4 ⟨rfl, hb4⟩; have hE_w4 := hE_w3.trans hb4; have hE4 : Ext w2 w4 := hE3.trans hb4; obtain ⟨hc_w4, hf_w4⟩ := hE_w4.cells; have hz_w4 := hE_w4.size; clear hc_w3 hf_w3)
    | (at_builtin; refine wpList_append_own _ rfl _ _ 29 rfl _ 5 i0 _ 1 1 Try.underlying29 hi hz0 hz1 hz2 rfl (by decide) _ _ _ rfl ((HB2.out.ext hE4).alloc _) ⟨_, 0, none⟩ 1 1 (bs [1]) rfl rfl ?c1 ?c2 ?c3 ?c4 ?c5 ?_))
  case c1 => exact cells_one _ _
  case c2 => exact bs_one _
  case c3 => unfold maxLen; omega
  case c4 => omega
  case c5 => have := hz_w4; simp at this ⊢; omega
  intro v5 w5 hown hgrow _
  have hE_w5 := OB.grown (hE_w4.alloc _) ((HB2.out.ext hE4).alloc _) hgrow
  obtain ⟨hc_w5, hf_w5⟩ := hE_w5.cells
  have hz_w5 := hE_w5.size
  have hE5 : Ext w w5 := by (repeat (with_reducible (first | exact Ext.refl _ | assumption | exact held_left (by assumption) | apply Ext.drewN | apply Ext.drew | apply Ext.alloc | (refine Ext.setCell ?_ (by first | (simp; done) | (simp; omega) | omega) _) | (refine Ext.trans ?_ (by assumption)) | (refine Ext.trans ?_ (held_left (by assumption))))))
  have HO5 := Hid.mk' ((OB.push (l := l) (m := [1]) hown (by simp)).base (show w.heap.size ≤ _ by simp))
  clear hown hgrow hc_w4 hf_w4
  go_wp2_with (go_at_call 30; refine (HVP.out v5 (l ++ [1]) _ (HO5.out.sl.ext (by (repeat (with_reducible (first | exact Ext.refl _ | assumption | exact held_left (by assumption) | apply Ext.drewN | apply Ext.drew | apply Ext.alloc | (refine Ext.setCell ?_ (by first | (simp; done) | (simp; omega) | omega) _) | (refine Ext.trans ?_ (by assumption)) | (refine Ext.trans ?_ (held_left (by assumption)))))))) (by simp; omega)).mono ?_; rintro e w6 ⟨v4, rfl, ho4, hb6⟩; have HO4 := Hid.mk' (ho4.base (Ext.size (by (repeat (with_reducible (first | exact Ext.refl _ | assumption | exact held_left (by assumption) | apply Ext.drewN | apply Ext.drew | apply Ext.alloc | (refine Ext.setCell ?_ (by first | (simp; done) | (simp; omega) | omega) _) | (refine Ext.trans ?_ (by assumption)) | (refine Ext.trans ?_ (held_left (by assumption)))))) : Ext w _))); have HE4 : Hid (Ext w w6) := Hid.mk' (by (repeat (with_reducible (first | exact Ext.refl _ | assumption | exact held_left (by assumption) | apply Ext.drewN | apply Ext.drew | apply Ext.alloc | (refine Ext.setCell ?_ (by first | (simp; done) | (simp; omega) | omega) _) | (refine Ext.trans ?_ (by assumption)) | (refine Ext.trans ?_ (held_left (by assumption))))))); clear ho4 hb6)
  go_ret2
  exact CPutPost.ok HE.out HP.out (by have := HO4.out; rw [List.append_assoc] at this; exact this) HE4.out

theorem rightC_k {k ty n x y : Int} {s : ByteArray} {kind : Int} (h : rightC k ty n x y s kind = 0) : k ≤ 2 := by
  unfold rightC at h
  (repeat' split at h) <;> first | omega | (exfalso; omega)

set_option maxRecDepth 100000 in set_option maxHeartbeats 1600000 in
theorem cput_null (v : Value) (l : List Int) (ty n : Int) (x y : Nat) (s : ByteArray) (kind ver : Int) (w : World) (hl : Sl w v 1 (l.map bcell)) (hlen : l.length ≤ 700000) (hs : s.size ≤ 9223372036854775807)
    (hv : ver = 1 ∨ ver = 2) (hr : rightC 0 ty n x y s kind = 0) :
    Calls Try.prog 8 #[v, .agg #[.int .u8 0, .int .u8 ty, .int .i64 n, .complex .f64 x y, .string s], .int .u8 kind, .int .u8 ver] w (CPutPost l 0 ty n x y s kind ver w) := by
  have HL := Hid.mk' hl
  have HR := Hid.mk' (fun w => cright_any 0 ty n x y s kind w (by decide) hs)
  rw [hr] at HR
  have HE : Hid (errC 0 ty n x y s kind ver = 12) := Hid.mk' (by unfold errC; rw [if_pos hv, if_neg (by simpa using hr), if_pos rfl])
  clear hl hr
  have hv1 : 1 ≤ ver := by omega
  have hv2 : ver ≤ 2 := by omega
  clear hv
  go_enter Try.func8, Try.ntmps8
  go_wp2_with (first
    | (go_at_call 13; refine (HR.out _).mono ?_; rintro e w1 ⟨rfl, hb1⟩; have hE1 : Ext w w1 := (by (repeat (with_reducible (first | exact Ext.refl _ | assumption | exact held_left (by assumption) | apply Ext.drewN | apply Ext.drew | apply Ext.alloc | (refine Ext.setCell ?_ (by first | (simp; done) | (simp; omega) | omega) _) | (refine Ext.trans ?_ (by assumption)) | (refine Ext.trans ?_ (held_left (by assumption))))))); have hE_w1 := hb1; obtain ⟨hc_w1, hf_w1⟩ := hE_w1.cells; have hz_w1 := hE_w1.size)
    | (go_at_call 26; refine (clone_any v l _ (HL.out.ext (by (repeat (with_reducible (first | exact Ext.refl _ | assumption | exact held_left (by assumption) | apply Ext.drewN | apply Ext.drew | apply Ext.alloc | (refine Ext.setCell ?_ (by first | (simp; done) | (simp; omega) | omega) _) | (refine Ext.trans ?_ (by assumption)) | (refine Ext.trans ?_ (held_left (by assumption)))))))) (by omega)).mono ?_; rintro e w2 ⟨v2, rfl, ho2, hb2⟩; have hE2 : Ext w w2 := (by (repeat (with_reducible (first | exact Ext.refl _ | assumption | exact held_left (by assumption) | apply Ext.drewN | apply Ext.drew | apply Ext.alloc | (refine Ext.setCell ?_ (by first | (simp; done) | (simp; omega) | omega) _) | (refine Ext.trans ?_ (by assumption)) | (refine Ext.trans ?_ (held_left (by assumption))))))); have hE_w2 := hE_w1.trans hb2; obtain ⟨hc_w2, hf_w2⟩ := hE_w2.cells; have hz_w2 := hE_w2.size; have HO2 := Hid.mk' (ho2.base (hE1.size)); have HB2 := Hid.mk' (ho2.base hz_w1); clear ho2 hc_w1 hf_w1))
  go_ret2
  exact CPutPost.bad HE.out (by decide) hE2

set_option maxRecDepth 100000 in set_option maxHeartbeats 1600000 in
theorem cput_wrong (v : Value) (l : List Int) (k ty n : Int) (x y : Nat) (s : ByteArray) (kind ver : Int) (w : World) (hs : s.size ≤ 9223372036854775807) (hk0 : 0 ≤ k)
    (hr : rightC k ty n x y s kind ≠ 0 ∨ ¬ (ver = 1 ∨ ver = 2)) :
    Calls Try.prog 8 #[v, .agg #[.int .u8 k, .int .u8 ty, .int .i64 n, .complex .f64 x y, .string s], .int .u8 kind, .int .u8 ver] w (CPutPost l k ty n x y s kind ver w) := by
  by_cases hv : ver = 1 ∨ ver = 2
  · have hr0 : rightC k ty n x y s kind ≠ 0 := hr.resolve_right (fun h => h hv)
    have HR := Hid.mk' (fun w => cright_any k ty n x y s kind w hk0 hs)
    have HE : Hid (errC k ty n x y s kind ver = rightC k ty n x y s kind) := Hid.mk' (by unfold errC; rw [if_pos hv, if_pos hr0])
    generalize rightC k ty n x y s kind = R at *
    have hR2 : (R != 0) = true := by simpa using hr0
    have HR0 := Hid.mk' hr0
    clear hr0 hr
    have hv1 : 1 ≤ ver := by omega
    have hv2 : ver ≤ 2 := by omega
    clear hv
    go_enter Try.func8, Try.ntmps8
    go_wp2_with (go_at_call 13; refine (HR.out _).mono ?_; rintro e w1 ⟨rfl, hb1⟩; have hE1 : Ext w w1 := (by (repeat (with_reducible (first | exact Ext.refl _ | assumption | exact held_left (by assumption) | apply Ext.drewN | apply Ext.drew | apply Ext.alloc | (refine Ext.setCell ?_ (by first | (simp; done) | (simp; omega) | omega) _) | (refine Ext.trans ?_ (by assumption)) | (refine Ext.trans ?_ (held_left (by assumption))))))); have hE_w1 := hb1; obtain ⟨hc_w1, hf_w1⟩ := hE_w1.cells; have hz_w1 := hE_w1.size)
    go_ret2
    exact CPutPost.bad HE.out HR0.out hE1
  · have HE : Hid (errC k ty n x y s kind ver = 18) := Hid.mk' (by unfold errC; rw [if_neg hv])
    clear hr
    by_cases h1 : ver < 1
    · clear hv
      go_enter Try.func8, Try.ntmps8
      go_wp2
      go_ret2
      exact CPutPost.bad HE.out (by decide) (by (repeat (with_reducible (first | exact Ext.refl _ | assumption | exact held_left (by assumption) | apply Ext.drewN | apply Ext.drew | apply Ext.alloc | (refine Ext.setCell ?_ (by first | (simp; done) | (simp; omega) | omega) _) | (refine Ext.trans ?_ (by assumption)) | (refine Ext.trans ?_ (held_left (by assumption)))))))
    · have h2 : 2 < ver := by omega
      clear hv
      go_enter Try.func8, Try.ntmps8
      go_wp2
      go_ret2
      exact CPutPost.bad HE.out (by decide) (by (repeat (with_reducible (first | exact Ext.refl _ | assumption | exact held_left (by assumption) | apply Ext.drewN | apply Ext.drew | apply Ext.alloc | (refine Ext.setCell ?_ (by first | (simp; done) | (simp; omega) | omega) _) | (refine Ext.trans ?_ (by assumption)) | (refine Ext.trans ?_ (held_left (by assumption)))))))

/-- The program's Put of a cell. -/
theorem cput_any (v : Value) (l : List Int) (k ty n : Int) (x y : Nat) (s : ByteArray) (kind ver : Int) (w : World) (hl : Sl w v 1 (l.map bcell)) (hlen : l.length ≤ 700000) (hk0 : 0 ≤ k)
    (hn : -9223372036854775808 ≤ n ∧ n < 9223372036854775808) (hx : x < 2 ^ 64) (hy : y < 2 ^ 64) (hs : s.size ≤ 9223372036854775807) :
    Calls Try.prog 8 #[v, .agg #[.int .u8 k, .int .u8 ty, .int .i64 n, .complex .f64 x y, .string s], .int .u8 kind, .int .u8 ver] w (CPutPost l k ty n x y s kind ver w) := by
  by_cases hr : rightC k ty n x y s kind = 0
  · by_cases hv : ver = 1 ∨ ver = 2
    · have hk2 := rightC_k hr
      have hk : k = 0 ∨ k = 1 ∨ k = 2 := by omega
      rcases hk with rfl | rfl | rfl
      · exact cput_null v l ty n x y s kind ver w hl hlen hs hv hr
      · exact cput_same v l ty n x y s kind ver w hl hlen hs hv hr
      · cases hL : largeB 2 ty s with
        | true => exact cput_large v l ty n x y s kind ver w hl hlen hs hv hr hL
        | false =>
          rcases hv with rfl | rfl
          · exact cput_one v l ty n x y s kind w hl hlen hs hn hx hy hr hL
          · by_cases hk : kind = 5 ∨ kind = 6
            · exact cput_text v l ty n x y s kind w hl hlen hs hr hL hk
            · exact cput_two v l ty n x y s kind w hl hlen hs hn hx hy hr hL (by omega)
    · exact cput_wrong v l k ty n x y s kind ver w hs hk0 (.inr hv)
  · exact cput_wrong v l k ty n x y s kind ver w hs hk0 (.inl hr)

theorem cput_ok (v : Value) (l : List Int) (k ty n : Int) (x y : Nat) (s : ByteArray) (kind ver : Int) (w : World) (h : errC k ty n x y s kind ver = 0) (hl : Sl w v 1 (l.map bcell)) (hlen : l.length ≤ 700000) (hk0 : 0 ≤ k)
    (hn : -9223372036854775808 ≤ n ∧ n < 9223372036854775808) (hx : x < 2 ^ 64) (hy : y < 2 ^ 64) (hs : s.size ≤ 9223372036854775807) :
    Calls Try.prog 8 #[v, .agg #[.int .u8 k, .int .u8 ty, .int .i64 n, .complex .f64 x y, .string s], .int .u8 kind, .int .u8 ver] w fun e w' => ∃ v', e = .returned (.tuple #[v', .int .i64 0]) ∧ OB w' w.heap.size v' (l ++ putC k ty n x y s kind ver) ∧ Ext w w' := by
  refine (cput_any v l k ty n x y s kind ver w hl hlen hk0 hn hx hy hs).mono ?_
  rintro e w' ⟨v', rfl, h1, h2, h3⟩
  exact ⟨v', by rw [h], h1 h, h3⟩
theorem cput_bad (v : Value) (l : List Int) (k ty n : Int) (x y : Nat) (s : ByteArray) (kind ver : Int) (w : World) (h : errC k ty n x y s kind ver ≠ 0) (hl : Sl w v 1 (l.map bcell)) (hlen : l.length ≤ 700000) (hk0 : 0 ≤ k)
    (hn : -9223372036854775808 ≤ n ∧ n < 9223372036854775808) (hx : x < 2 ^ 64) (hy : y < 2 ^ 64) (hs : s.size ≤ 9223372036854775807) :
    Calls Try.prog 8 #[v, .agg #[.int .u8 k, .int .u8 ty, .int .i64 n, .complex .f64 x y, .string s], .int .u8 kind, .int .u8 ver] w fun e w' => e = .returned (.tuple #[.slice none 0 0, .int .i64 (errC k ty n x y s kind ver)]) ∧ Ext w w' := by
  refine (cput_any v l k ty n x y s kind ver w hl hlen hk0 hn hx hy hs).mono ?_
  rintro e w' ⟨v', rfl, h1, h2, h3⟩
  exact ⟨by rw [h2 h], h3⟩

end Go.Proofs.Ytmpnopjkpamhaaa
