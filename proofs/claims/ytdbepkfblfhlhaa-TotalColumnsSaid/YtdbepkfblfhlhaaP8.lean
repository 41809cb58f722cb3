/-
The program's cell: long and Put.
-/
import Derived.Test.YtdbepkfblfhlhaaP7
namespace Go.Proofs.Ytdbepkfblfhlhaa
open Go.RowKit

set_option maxRecDepth 100000 in set_option maxHeartbeats 1600000 in
theorem clong_any (v : Value) (l : List Int) (tag : Nat) (k ty n : Int) (x y : Nat) (s : ByteArray) (w : World) (hl : Sl w v 1 (l.map bcell)) (hlen : l.length ≤ 800000) (ht : tag < 128) (hs : s.size ≤ 9223372036854775807) :
    Calls Try.prog 110 #[v, .int .u64 tag, .agg #[.int .u8 k, .int .u8 ty, .int .i64 n, .complex .f64 x y, .string s]] w fun e w' => ∃ v', e = .returned v' ∧ OB w' w.heap.size v' (l ++ (tag : Int) :: sevens s.size) ∧ Ext w w' := by
  have HL := Hid.mk' hl
  have HT := Hid.mk' (sevens_lt ht)
  have hw : IntKind.u64.wrap (s.size : Int) = (s.size : Int) := by rw [u64_wrap]; omega
  clear hl
  go_enter Try.func110, Try.ntmps110
  go_upto_region 1 with (fail)
  go_region_held3 (fun w' => Ext (w.alloc (.cells #[.int .u8 k, .int .u8 ty, .int .i64 n, .complex .f64 x y, .string s] 78)) w' ∧ (∀ b o, b < (w.alloc (.cells #[.int .u8 k, .int .u8 ty, .int .i64 n, .complex .f64 x y, .string s] 78)).heap.size → w'.cell? ⟨b, o, none⟩ = (w.alloc (.cells #[.int .u8 k, .int .u8 ty, .int .i64 n, .complex .f64 x y, .string s] 78)).cell? ⟨b, o, none⟩) ∧ (∀ b o, b < (w.alloc (.cells #[.int .u8 k, .int .u8 ty, .int .i64 n, .complex .f64 x y, .string s] 78)).heap.size → w'.frozen? ⟨b, o, none⟩ = (w.alloc (.cells #[.int .u8 k, .int .u8 ty, .int .i64 n, .complex .f64 x y, .string s] 78)).frozen? ⟨b, o, none⟩)) ((exact held_of (by (repeat (with_reducible (first | exact Ext.refl _ | assumption | exact held_left (by assumption) | apply Ext.drewN | apply Ext.drew | apply Ext.alloc | (refine Ext.setCell ?_ (by first | (simp; done) | (simp; omega) | omega) _) | (refine Ext.trans ?_ (by assumption)) | (refine Ext.trans ?_ (held_left (by assumption)))))))))
    (first
      | (go_at_call_of 112 (Value.int IntKind.u64 (tag : Int)); refine (putUint_any v l tag _ (HL.out.ext (by (repeat (with_reducible (first | exact Ext.refl _ | assumption | exact held_left (by assumption) | apply Ext.drewN | apply Ext.drew | apply Ext.alloc | (refine Ext.setCell ?_ (by first | (simp; done) | (simp; omega) | omega) _) | (refine Ext.trans ?_ (by assumption)) | (refine Ext.trans ?_ (held_left (by assumption)))))))) (by omega) (by omega)).mono ?_; rintro e w1 ⟨v1, rfl, ho1, hb1⟩; have hE1 : Ext w w1 := (by (repeat (with_reducible (first | exact Ext.refl _ | assumption | exact held_left (by assumption) | apply Ext.drewN | apply Ext.drew | apply Ext.alloc | (refine Ext.setCell ?_ (by first | (simp; done) | (simp; omega) | omega) _) | (refine Ext.trans ?_ (by assumption)) | (refine Ext.trans ?_ (held_left (by assumption))))))); have HE1 := Hid.mk' hE1; have HO1 := Hid.mk' (by rw [HT.out] at ho1; exact ho1); clear ho1 hE1)
      | (go_at_call 112; refine (putUint_any v1 (l ++ [(tag : Int)]) s.size _ (HO1.out.sl.ext (by (repeat (with_reducible (first | exact Ext.refl _ | assumption | exact held_left (by assumption) | apply Ext.drewN | apply Ext.drew | apply Ext.alloc | (refine Ext.setCell ?_ (by first | (simp; done) | (simp; omega) | omega) _) | (refine Ext.trans ?_ (by assumption)) | (refine Ext.trans ?_ (held_left (by assumption)))))))) (by omega) (by simp; omega)).mono ?_; rintro e w2 ⟨v2, rfl, ho2, hb2⟩; have hE2 : Ext w1 w2 := (by (repeat (with_reducible (first | exact Ext.refl _ | assumption | exact held_left (by assumption) | apply Ext.drewN | apply Ext.drew | apply Ext.alloc | (refine Ext.setCell ?_ (by first | (simp; done) | (simp; omega) | omega) _) | (refine Ext.trans ?_ (by assumption)) | (refine Ext.trans ?_ (held_left (by assumption))))))); have HE2 := Hid.mk' hE2; have HO2 := Hid.mk' (ho2.base (Ext.size (by (repeat (with_reducible (first | exact Ext.refl _ | assumption | exact held_left (by assumption) | apply Ext.drewN | apply Ext.drew | apply Ext.alloc | (refine Ext.setCell ?_ (by first | (simp; done) | (simp; omega) | omega) _) | (refine Ext.trans ?_ (by assumption)) | (refine Ext.trans ?_ (held_left (by assumption)))))) : Ext w _))); clear ho2 hE2))
  go_wp2
  go_ret
  refine ⟨_, rfl, ?_, HE1.out.trans HE2.out⟩
  have h := HO2.out
  rw [List.append_assoc] at h
  exact h

def CPutPost (l : List Int) (k ty n : Int) (x y : Nat) (s : ByteArray) (kind ver : Int) (w : World) (e : Ending) (w' : World) : Prop :=
  ∃ v', e = .returned (.tuple #[v', .int .i64 (errC k ty n x y s kind ver)]) ∧ (errC k ty n x y s kind ver = 0 → OB w' w.heap.size v' (l ++ putC k ty n x y s kind ver)) ∧ (errC k ty n x y s kind ver ≠ 0 → v' = .slice none 0 0) ∧ Ext w w'

theorem CPutPost.ok {l m : List Int} {k ty n : Int} {x y : Nat} {s : ByteArray} {kind ver : Int} {w w' : World} {v' : Value} (he : errC k ty n x y s kind ver = 0) (hm : putC k ty n x y s kind ver = m) (ho : OB w' w.heap.size v' (l ++ m)) (hE : Ext w w') :
    CPutPost l k ty n x y s kind ver w (.returned (.tuple #[v', .int .i64 0])) w' := by
  subst hm
  exact ⟨v', by rw [he], fun _ => ho, fun h => absurd he h, hE⟩
theorem CPutPost.bad {l : List Int} {k ty n : Int} {x y : Nat} {s : ByteArray} {kind ver : Int} {w w' : World} {E : Int} (he : errC k ty n x y s kind ver = E) (h0 : E ≠ 0) (hE : Ext w w') :
    CPutPost l k ty n x y s kind ver w (.returned (.tuple #[.slice none 0 0, .int .i64 E])) w' := by
  subst he
  exact ⟨_, rfl, fun h => absurd h h0, fun _ => rfl, hE⟩

set_option maxRecDepth 100000 in set_option maxHeartbeats 1600000 in
theorem cput_same (v : Value) (l : List Int) (ty n : Int) (x y : Nat) (s : ByteArray) (kind ver : Int) (w : World) (hl : Sl w v 1 (l.map bcell)) (hlen : l.length ≤ 700000) (hs : s.size ≤ 9223372036854775807)
    (hv : ver = 1 ∨ ver = 2) (hr : rightC 1 ty n x y s kind = 0) :
    Calls Try.prog 78 #[v, .agg #[.int .u8 1, .int .u8 ty, .int .i64 n, .complex .f64 x y, .string s], .int .u8 kind, .int .u8 ver] w (CPutPost l 1 ty n x y s kind ver w) := by
  obtain ⟨i0, hi, hz0, hz1, hz2⟩ := info_parts Try.infoU8
  have HL := Hid.mk' hl
  have HR := Hid.mk' (fun w => cright_any 1 ty n x y s kind w (by decide) hs)
  rw [hr] at HR
  have HE := Hid.mk' (err_mk hv hr ne_one)
  have HP : Hid (putC 1 ty n x y s kind ver = [0]) := Hid.mk' (by unfold putC; rw [if_pos rfl])
  clear hl hr
  have hv1 : 1 ≤ ver := by omega
  have hv2 : ver ≤ 2 := by omega
  clear hv
  go_enter Try.func78, Try.ntmps78
  go_wp2_with (first
    | (go_at_call 83; refine (HR.out _).mono ?_; rintro e w1 ⟨rfl, hb1⟩; have hE1 : Ext w w1 := (by (repeat (with_reducible (first | exact Ext.refl _ | assumption | exact held_left (by assumption) | apply Ext.drewN | apply Ext.drew | apply Ext.alloc | (refine Ext.setCell ?_ (by first | (simp; done) | (simp; omega) | omega) _) | (refine Ext.trans ?_ (by assumption)) | (refine Ext.trans ?_ (held_left (by assumption))))))); have hE_w1 := hb1; obtain ⟨hc_w1, hf_w1⟩ := hE_w1.cells; have hz_w1 := hE_w1.size)
    | (go_at_call 85; refine (clone_any v l _ (HL.out.ext (by (repeat (with_reducible (first | exact Ext.refl _ | assumption | exact held_left (by assumption) | apply Ext.drewN | apply Ext.drew | apply Ext.alloc | (refine Ext.setCell ?_ (by first | (simp; done) | (simp; omega) | omega) _) | (refine Ext.trans ?_ (by assumption)) | (refine Ext.trans ?_ (held_left (by assumption)))))))) (by omega)).mono ?_; rintro e w2 ⟨v2, rfl, ho2, hb2⟩; have hE2 : Ext w w2 := (by (repeat (with_reducible (first | exact Ext.refl _ | assumption | exact held_left (by assumption) | apply Ext.drewN | apply Ext.drew | apply Ext.alloc | (refine Ext.setCell ?_ (by first | (simp; done) | (simp; omega) | omega) _) | (refine Ext.trans ?_ (by assumption)) | (refine Ext.trans ?_ (held_left (by assumption))))))); have hE_w2 := hE_w1.trans hb2; obtain ⟨hc_w2, hf_w2⟩ := hE_w2.cells; have hz_w2 := hE_w2.size; have HO2 := Hid.mk' (ho2.base (hE1.size)); have HB2 := Hid.mk' (ho2.base hz_w1); clear ho2 hc_w1 hf_w1)
    | (at_builtin; refine wpList_append_own _ rfl _ _ 80 rfl w.heap.size 5 i0 _ 1 1 Try.underlying80 hi hz0 hz1 hz2 rfl (by decide) _ _ _ rfl (HO2.out.alloc _) ⟨_, 0, none⟩ 1 1 (bs [0]) rfl rfl ?c1 ?c2 ?c3 ?c4 ?c5 ?_))
  case c1 => exact cells_one _ _
  case c2 => exact bs_one _
  case c3 => unfold maxLen; omega
  case c4 => omega
  case c5 => have := hE2.size; simp; omega
  intro v3 w3 hown hgrow _
  have hE3 := OB.grown (hE2.alloc _) (HO2.out.alloc _) hgrow
  have HO3 := Hid.mk' (OB.push hown (by simp))
  have HE3 := Hid.mk' hE3
  clear hown hgrow hE3
  go_wp2
  go_ret2
  exact CPutPost.ok HE.out HP.out HO3.out HE3.out

set_option maxRecDepth 100000 in set_option maxHeartbeats 1600000 in
theorem cput_large (v : Value) (l : List Int) (ty n : Int) (x y : Nat) (s : ByteArray) (kind ver : Int) (w : World) (hl : Sl w v 1 (l.map bcell)) (hlen : l.length ≤ 700000) (hs : s.size ≤ 9223372036854775807)
    (hv : ver = 1 ∨ ver = 2) (hr : rightC 2 ty n x y s kind = 0) (hL : largeB 2 ty s = true) :
    Calls Try.prog 78 #[v, .agg #[.int .u8 2, .int .u8 ty, .int .i64 n, .complex .f64 x y, .string s], .int .u8 kind, .int .u8 ver] w (CPutPost l 2 ty n x y s kind ver w) := by
  have HL := Hid.mk' hl
  have HR := Hid.mk' (fun w => cright_any 2 ty n x y s kind w (by decide) hs)
  rw [hr] at HR
  have HE := Hid.mk' (err_mk hv hr ne_two)
  have HP := Hid.mk' (putC_large (n := n) (x := x) (y := y) (kind := kind) (ver := ver) hL)
  have HLA := Hid.mk' (fun w => clarge_any 2 ty n x y s w)
  rw [hL] at HLA
  clear hl hr hL
  rcases hv with rfl | rfl
  · go_enter Try.func78, Try.ntmps78
    go_wp2_with (first
      | (go_at_call 83; refine (HR.out _).mono ?_; rintro e w1 ⟨rfl, hb1⟩; have hE1 : Ext w w1 := (by (repeat (with_reducible (first | exact Ext.refl _ | assumption | exact held_left (by assumption) | apply Ext.drewN | apply Ext.drew | apply Ext.alloc | (refine Ext.setCell ?_ (by first | (simp; done) | (simp; omega) | omega) _) | (refine Ext.trans ?_ (by assumption)) | (refine Ext.trans ?_ (held_left (by assumption))))))); have hE_w1 := hb1; obtain ⟨hc_w1, hf_w1⟩ := hE_w1.cells; have hz_w1 := hE_w1.size)
      | (go_at_call 85; refine (clone_any v l _ (HL.out.ext (by (repeat (with_reducible (first | exact Ext.refl _ | assumption | exact held_left (by assumption) | apply Ext.drewN | apply Ext.drew | apply Ext.alloc | (refine Ext.setCell ?_ (by first | (simp; done) | (simp; omega) | omega) _) | (refine Ext.trans ?_ (by assumption)) | (refine Ext.trans ?_ (held_left (by assumption)))))))) (by omega)).mono ?_; rintro e w2 ⟨v2, rfl, ho2, hb2⟩; have hE2 : Ext w w2 := (by (repeat (with_reducible (first | exact Ext.refl _ | assumption | exact held_left (by assumption) | apply Ext.drewN | apply Ext.drew | apply Ext.alloc | (refine Ext.setCell ?_ (by first | (simp; done) | (simp; omega) | omega) _) | (refine Ext.trans ?_ (by assumption)) | (refine Ext.trans ?_ (held_left (by assumption))))))); have hE_w2 := hE_w1.trans hb2; obtain ⟨hc_w2, hf_w2⟩ := hE_w2.cells; have hz_w2 := hE_w2.size; have HO2 := Hid.mk' (ho2.base (hE1.size)); have HB2 := Hid.mk' (ho2.base hz_w1); clear ho2 hc_w1 hf_w1)
      | (go_at_call 109; refine (HLA.out _).mono ?_; rintro e w3 ⟨rfl, hb3⟩; have hE_w3 := hE_w2.trans hb3; have hE3 : Ext w2 w3 := hb3; obtain ⟨hc_w3, hf_w3⟩ := hE_w3.cells; have hz_w3 := hE_w3.size; clear hc_w2 hf_w2)
      | (go_at_call 109; refine (HLA.out _).mono ?_; rintro e w4 ⟨rfl, hb4⟩; have hE_w4 := hE_w3.trans hb4; have hE4 : Ext w2 w4 := hE3.trans hb4; obtain ⟨hc_w4, hf_w4⟩ := hE_w4.cells; have hz_w4 := hE_w4.size; clear hc_w3 hf_w3)
      | (go_at_call 110; refine (clong_any v2 l 2 2 ty n x y s _ (HO2.out.sl.ext (by (repeat (with_reducible (first | exact Ext.refl _ | assumption | exact held_left (by assumption) | apply Ext.drewN | apply Ext.drew | apply Ext.alloc | (refine Ext.setCell ?_ (by first | (simp; done) | (simp; omega) | omega) _) | (refine Ext.trans ?_ (by assumption)) | (refine Ext.trans ?_ (held_left (by assumption)))))))) (by omega) (by decide) hs).mono ?_; rintro e w5 ⟨v4, rfl, ho4, hb5⟩; have HO4 := Hid.mk' (ho4.base (Ext.size (by (repeat (with_reducible (first | exact Ext.refl _ | assumption | exact held_left (by assumption) | apply Ext.drewN | apply Ext.drew | apply Ext.alloc | (refine Ext.setCell ?_ (by first | (simp; done) | (simp; omega) | omega) _) | (refine Ext.trans ?_ (by assumption)) | (refine Ext.trans ?_ (held_left (by assumption)))))) : Ext w _))); have HE4 : Hid (Ext w w5) := Hid.mk' (by (repeat (with_reducible (first | exact Ext.refl _ | assumption | exact held_left (by assumption) | apply Ext.drewN | apply Ext.drew | apply Ext.alloc | (refine Ext.setCell ?_ (by first | (simp; done) | (simp; omega) | omega) _) | (refine Ext.trans ?_ (by assumption)) | (refine Ext.trans ?_ (held_left (by assumption))))))); clear ho4 hb5))
    go_ret2
    exact CPutPost.ok HE.out HP.out HO4.out HE4.out
  · go_enter Try.func78, Try.ntmps78
    go_wp2_with (first
      | (go_at_call 83; refine (HR.out _).mono ?_; rintro e w1 ⟨rfl, hb1⟩; have hE1 : Ext w w1 := (by (repeat (with_reducible (first | exact Ext.refl _ | assumption | exact held_left (by assumption) | apply Ext.drewN | apply Ext.drew | apply Ext.alloc | (refine Ext.setCell ?_ (by first | (simp; done) | (simp; omega) | omega) _) | (refine Ext.trans ?_ (by assumption)) | (refine Ext.trans ?_ (held_left (by assumption))))))); have hE_w1 := hb1; obtain ⟨hc_w1, hf_w1⟩ := hE_w1.cells; have hz_w1 := hE_w1.size)
      | (go_at_call 85; refine (clone_any v l _ (HL.out.ext (by (repeat (with_reducible (first | exact Ext.refl _ | assumption | exact held_left (by assumption) | apply Ext.drewN | apply Ext.drew | apply Ext.alloc | (refine Ext.setCell ?_ (by first | (simp; done) | (simp; omega) | omega) _) | (refine Ext.trans ?_ (by assumption)) | (refine Ext.trans ?_ (held_left (by assumption)))))))) (by omega)).mono ?_; rintro e w2 ⟨v2, rfl, ho2, hb2⟩; have hE2 : Ext w w2 := (by (repeat (with_reducible (first | exact Ext.refl _ | assumption | exact held_left (by assumption) | apply Ext.drewN | apply Ext.drew | apply Ext.alloc | (refine Ext.setCell ?_ (by first | (simp; done) | (simp; omega) | omega) _) | (refine Ext.trans ?_ (by assumption)) | (refine Ext.trans ?_ (held_left (by assumption))))))); have hE_w2 := hE_w1.trans hb2; obtain ⟨hc_w2, hf_w2⟩ := hE_w2.cells; have hz_w2 := hE_w2.size; have HO2 := Hid.mk' (ho2.base (hE1.size)); have HB2 := Hid.mk' (ho2.base hz_w1); clear ho2 hc_w1 hf_w1)
      | (go_at_call 109; refine (HLA.out _).mono ?_; rintro e w3 ⟨rfl, hb3⟩; have hE_w3 := hE_w2.trans hb3; have hE3 : Ext w2 w3 := hb3; obtain ⟨hc_w3, hf_w3⟩ := hE_w3.cells; have hz_w3 := hE_w3.size; clear hc_w2 hf_w2)
      | (go_at_call 110; refine (clong_any v2 l 1 2 ty n x y s _ (HO2.out.sl.ext (by (repeat (with_reducible (first | exact Ext.refl _ | assumption | exact held_left (by assumption) | apply Ext.drewN | apply Ext.drew | apply Ext.alloc | (refine Ext.setCell ?_ (by first | (simp; done) | (simp; omega) | omega) _) | (refine Ext.trans ?_ (by assumption)) | (refine Ext.trans ?_ (held_left (by assumption)))))))) (by omega) (by decide) hs).mono ?_; rintro e w5 ⟨v4, rfl, ho4, hb5⟩; have HO4 := Hid.mk' (ho4.base (Ext.size (by (repeat (with_reducible (first | exact Ext.refl _ | assumption | exact held_left (by assumption) | apply Ext.drewN | apply Ext.drew | apply Ext.alloc | (refine Ext.setCell ?_ (by first | (simp; done) | (simp; omega) | omega) _) | (refine Ext.trans ?_ (by assumption)) | (refine Ext.trans ?_ (held_left (by assumption)))))) : Ext w _))); have HE4 : Hid (Ext w w5) := Hid.mk' (by (repeat (with_reducible (first | exact Ext.refl _ | assumption | exact held_left (by assumption) | apply Ext.drewN | apply Ext.drew | apply Ext.alloc | (refine Ext.setCell ?_ (by first | (simp; done) | (simp; omega) | omega) _) | (refine Ext.trans ?_ (by assumption)) | (refine Ext.trans ?_ (held_left (by assumption))))))); clear ho4 hb5))
    go_ret2
    exact CPutPost.ok HE.out HP.out HO4.out HE4.out

set_option maxRecDepth 100000 in set_option maxHeartbeats 1600000 in
theorem cput_text (v : Value) (l : List Int) (ty n : Int) (x y : Nat) (s : ByteArray) (kind : Int) (w : World) (hl : Sl w v 1 (l.map bcell)) (hlen : l.length ≤ 700000) (hs : s.size ≤ 9223372036854775807)
    (hr : rightC 2 ty n x y s kind = 0) (hL : largeB 2 ty s = false) (hk : kind = 5 ∨ kind = 6) :
    Calls Try.prog 78 #[v, .agg #[.int .u8 2, .int .u8 ty, .int .i64 n, .complex .f64 x y, .string s], .int .u8 kind, .int .u8 2] w (CPutPost l 2 ty n x y s kind 2 w) := by
  have HL := Hid.mk' hl
  have HR := Hid.mk' (fun w => cright_any 2 ty n x y s kind w (by decide) hs)
  rw [hr] at HR
  have HE := Hid.mk' (err_mk (.inr rfl) hr ne_two)
  have HP : Hid (putC 2 ty n x y s kind 2 = sevens (s.size + 2) ++ strL s) := Hid.mk' (by rw [putC_small hL, if_pos rfl, if_pos hk])
  have HLA := Hid.mk' (fun w => clarge_any 2 ty n x y s w)
  rw [hL] at HLA
  have HX := Hid.mk' (fun w => texty_yes kind w hk)
  have hs2 : s.size ≤ 2048 := (right_zero (right_full hr).1).2.2.1
  have hw : IntKind.u64.wrap ((s.size : Int) + 2) = ((s.size + 2 : Nat) : Int) := by rw [u64_wrap]; omega
  have hw2 : IntKind.i64.wrap ((s.size : Int) + 2) = (s.size : Int) + 2 := by rw [i64_wrap]; omega
  have HS10 := Hid.mk' (sevens_len10 (x := s.size + 2) (by omega))
  clear hl hr hL hk
  go_enter Try.func78, Try.ntmps78
  go_upto_region 17 with (first
    | (go_at_call 83; refine (HR.out _).mono ?_; rintro e w1 ⟨rfl, hb1⟩; have hE1 : Ext w w1 := (by (repeat (with_reducible (first | exact Ext.refl _ | assumption | exact held_left (by assumption) | apply Ext.drewN | apply Ext.drew | apply Ext.alloc | (refine Ext.setCell ?_ (by first | (simp; done) | (simp; omega) | omega) _) | (refine Ext.trans ?_ (by assumption)) | (refine Ext.trans ?_ (held_left (by assumption))))))); have hE_w1 := hb1; obtain ⟨hc_w1, hf_w1⟩ := hE_w1.cells; have hz_w1 := hE_w1.size)
    | (go_at_call 85; refine (clone_any v l _ (HL.out.ext (by (repeat (with_reducible (first | exact Ext.refl _ | assumption | exact held_left (by assumption) | apply Ext.drewN | apply Ext.drew | apply Ext.alloc | (refine Ext.setCell ?_ (by first | (simp; done) | (simp; omega) | omega) _) | (refine Ext.trans ?_ (by assumption)) | (refine Ext.trans ?_ (held_left (by assumption)))))))) (by omega)).mono ?_; rintro e w2 ⟨v2, rfl, ho2, hb2⟩; have hE2 : Ext w w2 := (by (repeat (with_reducible (first | exact Ext.refl _ | assumption | exact held_left (by assumption) | apply Ext.drewN | apply Ext.drew | apply Ext.alloc | (refine Ext.setCell ?_ (by first | (simp; done) | (simp; omega) | omega) _) | (refine Ext.trans ?_ (by assumption)) | (refine Ext.trans ?_ (held_left (by assumption))))))); have hE_w2 := hE_w1.trans hb2; obtain ⟨hc_w2, hf_w2⟩ := hE_w2.cells; have hz_w2 := hE_w2.size; have HO2 := Hid.mk' (ho2.base (hE1.size)); have HB2 := Hid.mk' (ho2.base hz_w1); clear ho2 hc_w1 hf_w1)
    | (go_at_call 109; refine (HLA.out _).mono ?_; rintro e w3 ⟨rfl, hb3⟩; have hE_w3 := hE_w2.trans hb3; have hE3 : Ext w2 w3 := hb3; obtain ⟨hc_w3, hf_w3⟩ := hE_w3.cells; have hz_w3 := hE_w3.size; clear hc_w2 hf_w2)
    | (go_at_call 109; refine (HLA.out _).mono ?_; rintro e w4 ⟨rfl, hb4⟩; have hE_w4 := hE_w3.trans hb4; have hE4 : Ext w2 w4 := hE3.trans hb4; obtain ⟨hc_w4, hf_w4⟩ := hE_w4.cells; have hz_w4 := hE_w4.size; clear hc_w3 hf_w3)
    | (go_at_call 111; refine (HX.out _).mono ?_; rintro e w9 ⟨rfl, rfl⟩))
  have hEw4 : Ext w w4 := hE2.trans hE4
  have HS : Hid (∀ w', Ext w4 w' → Ext w4 w' ∧ w'.cell? ⟨w.heap.size, 4, none⟩ = some (.string s)) := Hid.mk' (fun w' h => ⟨h, by rw [(hE_w4.trans h).cells.1 _ _ (by simp), (Blk.new w #[.int .u8 2, .int .u8 ty, .int .i64 n, .complex .f64 x y, .string s] 78).cell 4]; rfl⟩)
  have HEw4 := Hid.mk' hEw4
  have HE24 := Hid.mk' hE4
  clear hEw4 hE1 hE2 hE3 hE4 hE_w1 hE_w2 hE_w3 hE_w4 hc_w4 hf_w4 hb1 hb2 hb3 hb4
  go_region_held3 (fun w' => Ext w4 w' ∧ w'.cell? ⟨w.heap.size, 4, none⟩ = some (.string s)) (exact HS.out _ (by (repeat (with_reducible (first | exact Ext.refl _ | assumption | exact held_left (by assumption) | apply Ext.drewN | apply Ext.drew | apply Ext.alloc | (refine Ext.setCell ?_ (by first | (simp; done) | (simp; omega) | omega) _) | (refine Ext.trans ?_ (by assumption)) | (refine Ext.trans ?_ (held_left (by assumption))))))))
    (first
      | (refine step_app_str (by rfl) _ _ (by rfl) w.heap.size _ _ (by rfl) HO4.out s (by rfl) (by have := HS10.out; simp; omega) HE4.out.size ?_; intro v5 w6 ho5 hgrow; have hE5 : Ext w w6 := OB.grown HE4.out HO4.out hgrow; have hb6' : Ext w4 w6 := OB.grown hb4' HOB4.out hgrow; have HO5 := Hid.mk' ho5; have HE5 := Hid.mk' hE5; clear ho5 hgrow hE5)
      | (go_at_call 112; refine (putUint_any v2 l (s.size + 2) _ (HO2.out.sl.ext (HE24.out.trans (by (repeat (with_reducible (first | exact Ext.refl _ | assumption | exact held_left (by assumption) | apply Ext.drewN | apply Ext.drew | apply Ext.alloc | (refine Ext.setCell ?_ (by first | (simp; done) | (simp; omega) | omega) _) | (refine Ext.trans ?_ (by assumption)) | (refine Ext.trans ?_ (held_left (by assumption))))))))) (by omega) (by omega)).mono ?_; rintro e w5 ⟨v4, rfl, ho4, hb5⟩; have hb4' : Ext w4 w5 := (by (repeat (with_reducible (first | exact Ext.refl _ | assumption | exact held_left (by assumption) | apply Ext.drewN | apply Ext.drew | apply Ext.alloc | (refine Ext.setCell ?_ (by first | (simp; done) | (simp; omega) | omega) _) | (refine Ext.trans ?_ (by assumption)) | (refine Ext.trans ?_ (held_left (by assumption))))))); have HE4 := Hid.mk' (HEw4.out.trans hb4'); have HO4 := Hid.mk' (ho4.base (Ext.size (HEw4.out.trans (by (repeat (with_reducible (first | exact Ext.refl _ | assumption | exact held_left (by assumption) | apply Ext.drewN | apply Ext.drew | apply Ext.alloc | (refine Ext.setCell ?_ (by first | (simp; done) | (simp; omega) | omega) _) | (refine Ext.trans ?_ (by assumption)) | (refine Ext.trans ?_ (held_left (by assumption)))))) : Ext w4 _)))); have HOB4 := Hid.mk' (ho4.base (Ext.size (by (repeat (with_reducible (first | exact Ext.refl _ | assumption | exact held_left (by assumption) | apply Ext.drewN | apply Ext.drew | apply Ext.alloc | (refine Ext.setCell ?_ (by first | (simp; done) | (simp; omega) | omega) _) | (refine Ext.trans ?_ (by assumption)) | (refine Ext.trans ?_ (held_left (by assumption)))))) : Ext w4 _))); clear ho4))
  go_wp2
  go_ret2
  exact CPutPost.ok HE.out HP.out (by have := HO5.out; rw [List.append_assoc] at this; exact this) HE5.out

set_option maxRecDepth 100000 in set_option maxHeartbeats 1600000 in
theorem cput_two (v : Value) (l : List Int) (ty n : Int) (x y : Nat) (s : ByteArray) (kind : Int) (w : World) (hl : Sl w v 1 (l.map bcell)) (hlen : l.length ≤ 700000) (hs : s.size ≤ 9223372036854775807)
    (hn : -9223372036854775808 ≤ n ∧ n < 9223372036854775808) (hx : x < 2 ^ 64) (hy : y < 2 ^ 64)
    (hr : rightC 2 ty n x y s kind = 0) (hL : largeB 2 ty s = false) (hk : kind ≠ 5 ∧ kind ≠ 6) :
    Calls Try.prog 78 #[v, .agg #[.int .u8 2, .int .u8 ty, .int .i64 n, .complex .f64 x y, .string s], .int .u8 kind, .int .u8 2] w (CPutPost l 2 ty n x y s kind 2 w) := by
  have HL := Hid.mk' hl
  have HR := Hid.mk' (fun w => cright_any 2 ty n x y s kind w (by decide) hs)
  rw [hr] at HR
  have HE := Hid.mk' (err_mk (.inr rfl) hr ne_two)
  have HP : Hid (putC 2 ty n x y s kind 2 = putL ty n x y s 2) := Hid.mk' (by rw [putC_small hL, if_pos rfl, if_neg (by omega)])
  have HLA := Hid.mk' (fun w => clarge_any 2 ty n x y s w)
  rw [hL] at HLA
  have HX := Hid.mk' (fun w => texty_no kind w hk)
  have eV : errV ty n x y s 2 = 0 := by unfold errV; rw [if_pos (.inr rfl)]; exact (right_full hr).1
  have HVP := Hid.mk' (fun (v : Value) (l : List Int) (w : World) (hl : Sl w v 1 (l.map bcell)) (hlen : l.length ≤ 800000) => vput_ok v l ty n x y s 2 w eV hl hlen hn hx hy hs)
  clear hl hr hL hk hn hx hy eV
  go_enter Try.func78, Try.ntmps78
  go_wp2_with (first
    | (go_at_call 83; refine (HR.out _).mono ?_; rintro e w1 ⟨rfl, hb1⟩; have hE1 : Ext w w1 := (by (repeat (with_reducible (first | exact Ext.refl _ | assumption | exact held_left (by assumption) | apply Ext.drewN | apply Ext.drew | apply Ext.alloc | (refine Ext.setCell ?_ (by first | (simp; done) | (simp; omega) | omega) _) | (refine Ext.trans ?_ (by assumption)) | (refine Ext.trans ?_ (held_left (by assumption))))))); have hE_w1 := hb1; obtain ⟨hc_w1, hf_w1⟩ := hE_w1.cells; have hz_w1 := hE_w1.size)
    | (go_at_call 85; refine (clone_any v l _ (HL.out.ext (by (repeat (with_reducible (first | exact Ext.refl _ | assumption | exact held_left (by assumption) | apply Ext.drewN | apply Ext.drew | apply Ext.alloc | (refine Ext.setCell ?_ (by first | (simp; done) | (simp; omega) | omega) _) | (refine Ext.trans ?_ (by assumption)) | (refine Ext.trans ?_ (held_left (by assumption)))))))) (by omega)).mono ?_; rintro e w2 ⟨v2, rfl, ho2, hb2⟩; have hE2 : Ext w w2 := (by (repeat (with_reducible (first | exact Ext.refl _ | assumption | exact held_left (by assumption) | apply Ext.drewN | apply Ext.drew | apply Ext.alloc | (refine Ext.setCell ?_ (by first | (simp; done) | (simp; omega) | omega) _) | (refine Ext.trans ?_ (by assumption)) | (refine Ext.trans ?_ (held_left (by assumption))))))); have hE_w2 := hE_w1.trans hb2; obtain ⟨hc_w2, hf_w2⟩ := hE_w2.cells; have hz_w2 := hE_w2.size; have HO2 := Hid.mk' (ho2.base (hE1.size)); have HB2 := Hid.mk' (ho2.base hz_w1); clear ho2 hc_w1 hf_w1)
    | (go_at_call 109; refine (HLA.out _).mono ?_; rintro e w3 ⟨rfl, hb3⟩; have hE_w3 := hE_w2.trans hb3; have hE3 : Ext w2 w3 := hb3; obtain ⟨hc_w3, hf_w3⟩ := hE_w3.cells; have hz_w3 := hE_w3.size; clear hc_w2 hf_w2)
    | (go_at_call 109; refine (HLA.out _).mono ?_; rintro e w4 ⟨rfl, hb4⟩; have hE_w4 := hE_w3.trans hb4; have hE4 : Ext w2 w4 := hE3.trans hb4; obtain ⟨hc_w4, hf_w4⟩ := hE_w4.cells; have hz_w4 := hE_w4.size; clear hc_w3 hf_w3)
    | (go_at_call 111; refine (HX.out _).mono ?_; rintro e w9 ⟨rfl, rfl⟩)
    | (go_at_call 113; refine (HVP.out v2 l _ (HO2.out.sl.ext (by (repeat (with_reducible (first | exact Ext.refl _ | assumption | exact held_left (by assumption) | apply Ext.drewN | apply Ext.drew | apply Ext.alloc | (refine Ext.setCell ?_ (by first | (simp; done) | (simp; omega) | omega) _) | (refine Ext.trans ?_ (by assumption)) | (refine Ext.trans ?_ (held_left (by assumption)))))))) (by omega)).mono ?_; rintro e w5 ⟨v4, rfl, ho4, hb5⟩; have HO4 := Hid.mk' (ho4.base (Ext.size (by (repeat (with_reducible (first | exact Ext.refl _ | assumption | exact held_left (by assumption) | apply Ext.drewN | apply Ext.drew | apply Ext.alloc | (refine Ext.setCell ?_ (by first | (simp; done) | (simp; omega) | omega) _) | (refine Ext.trans ?_ (by assumption)) | (refine Ext.trans ?_ (held_left (by assumption)))))) : Ext w _))); have HE4 : Hid (Ext w w5) := Hid.mk' (by (repeat (with_reducible (first | exact Ext.refl _ | assumption | exact held_left (by assumption) | apply Ext.drewN | apply Ext.drew | apply Ext.alloc | (refine Ext.setCell ?_ (by first | (simp; done) | (simp; omega) | omega) _) | (refine Ext.trans ?_ (by assumption)) | (refine Ext.trans ?_ (held_left (by assumption))))))); clear ho4 hb5))
  go_ret2
  exact CPutPost.ok HE.out HP.out HO4.out HE4.out

set_option maxRecDepth 100000 in set_option maxHeartbeats 1600000 in
theorem cput_one (v : Value) (l : List Int) (ty n : Int) (x y : Nat) (s : ByteArray) (kind : Int) (w : World) (hl : Sl w v 1 (l.map bcell)) (hlen : l.length ≤ 700000) (hs : s.size ≤ 9223372036854775807)
    (hn : -9223372036854775808 ≤ n ∧ n < 9223372036854775808) (hx : x < 2 ^ 64) (hy : y < 2 ^ 64)
    (hr : rightC 2 ty n x y s kind = 0) (hL : largeB 2 ty s = false) :
    Calls Try.prog 78 #[v, .agg #[.int .u8 2, .int .u8 ty, .int .i64 n, .complex .f64 x y, .string s], .int .u8 kind, .int .u8 1] w (CPutPost l 2 ty n x y s kind 1 w) := by
  obtain ⟨i0, hi, hz0, hz1, hz2⟩ := info_parts Try.infoU8
  have HL := Hid.mk' hl
  have HR := Hid.mk' (fun w => cright_any 2 ty n x y s kind w (by decide) hs)
  rw [hr] at HR
  have HE := Hid.mk' (err_mk (.inl rfl) hr ne_two)
  have HP : Hid (putC 2 ty n x y s kind 1 = 1 :: putL ty n x y s 1) := Hid.mk' (by rw [putC_small hL, if_neg (by decide)])
  have HLA := Hid.mk' (fun w => clarge_any 2 ty n x y s w)
  rw [hL] at HLA
  have eV : errV ty n x y s 1 = 0 := by unfold errV; rw [if_pos (.inl rfl)]; exact (right_full hr).1
  have HVP := Hid.mk' (fun (v : Value) (l : List Int) (w : World) (hl : Sl w v 1 (l.map bcell)) (hlen : l.length ≤ 800000) => vput_ok v l ty n x y s 1 w eV hl hlen hn hx hy hs)
  clear hl hr hL hn hx hy eV
  go_enter Try.func78, Try.ntmps78
  go_wp2_with (first
    | (go_at_call 83; refine (HR.out _).mono ?_; rintro e w1 ⟨rfl, hb1⟩; have hE1 : Ext w w1 := (by (repeat (with_reducible (first | exact Ext.refl _ | assumption | exact held_left (by assumption) | apply Ext.drewN | apply Ext.drew | apply Ext.alloc | (refine Ext.setCell ?_ (by first | (simp; done) | (simp; omega) | omega) _) | (refine Ext.trans ?_ (by assumption)) | (refine Ext.trans ?_ (held_left (by assumption))))))); have hE_w1 := hb1; obtain ⟨hc_w1, hf_w1⟩ := hE_w1.cells; have hz_w1 := hE_w1.size)
    | (go_at_call 85; refine (clone_any v l _ (HL.out.ext (by (repeat (with_reducible (first | exact Ext.refl _ | assumption | exact held_left (by assumption) | apply Ext.drewN | apply Ext.drew | apply Ext.alloc | (refine Ext.setCell ?_ (by first | (simp; done) | (simp; omega) | omega) _) | (refine Ext.trans ?_ (by assumption)) | (refine Ext.trans ?_ (held_left (by assumption)))))))) (by omega)).mono ?_; rintro e w2 ⟨v2, rfl, ho2, hb2⟩; have hE2 : Ext w w2 := (by (repeat (with_reducible (first | exact Ext.refl _ | assumption | exact held_left (by assumption) | apply Ext.drewN | apply Ext.drew | apply Ext.alloc | (refine Ext.setCell ?_ (by first | (simp; done) | (simp; omega) | omega) _) | (refine Ext.trans ?_ (by assumption)) | (refine Ext.trans ?_ (held_left (by assumption))))))); have hE_w2 := hE_w1.trans hb2; obtain ⟨hc_w2, hf_w2⟩ := hE_w2.cells; have hz_w2 := hE_w2.size; have HO2 := Hid.mk' (ho2.base (hE1.size)); have HB2 := Hid.mk' (ho2.base hz_w1); clear ho2 hc_w1 hf_w1)
    | (go_at_call 109; refine (HLA.out _).mono ?_; rintro e w3 ⟨rfl, hb3⟩; have hE_w3 := hE_w2.trans hb3; have hE3 : Ext w2 w3 := hb3; obtain ⟨hc_w3, hf_w3⟩ := hE_w3.cells; have hz_w3 := hE_w3.size; clear hc_w2 hf_w2)
    | (go_at_call 109; refine (HLA.out _).mono ?_; rintro e w4 ⟨rfl, hb4⟩; have hE_w4 := hE_w3.trans hb4; have hE4 : Ext w2 w4 := hE3.trans hb4; obtain ⟨hc_w4, hf_w4⟩ := hE_w4.cells; have hz_w4 := hE_w4.size; clear hc_w3 hf_w3)
    | (at_builtin; refine wpList_append_own _ rfl _ _ 80 rfl _ 5 i0 _ 1 1 Try.underlying80 hi hz0 hz1 hz2 rfl (by decide) _ _ _ rfl ((HB2.out.ext hE4).alloc _) ⟨_, 0, none⟩ 1 1 (bs [1]) rfl rfl ?c1 ?c2 ?c3 ?c4 ?c5 ?_))
  case c1 => exact cells_one _ _
  case c2 => exact bs_one _
  case c3 => unfold maxLen; omega
  case c4 => omega
  case c5 => have := hz_w4; simp at this ⊢; omega
  intro v5 w5 hown hgrow _
  have hE_w5 := OB.grown (hE_w4.alloc _) ((HB2.out.ext hE4).alloc _) hgrow
  obtain ⟨hc_w5, hf_w5⟩ := hE_w5.cells
  have hz_w5 := hE_w5.size
  have hE5 : Ext w w5 := by (repeat (with_reducible (first | exact Ext.refl _ | assumption | exact held_left (by assumption) | apply Ext.drewN | apply Ext.drew | apply Ext.alloc | (refine Ext.setCell ?_ (by first | (simp; done) | (simp; omega) | omega) _) | (refine Ext.trans ?_ (by assumption)) | (refine Ext.trans ?_ (held_left (by assumption))))))
  have HO5 := Hid.mk' ((OB.push (l := l) (m := [1]) hown (by simp)).base (show w.heap.size ≤ _ by simp))
  clear hown hgrow hc_w4 hf_w4
  go_wp2_with (go_at_call 113; refine (HVP.out v5 (l ++ [1]) _ (HO5.out.sl.ext (by (repeat (with_reducible (first | exact Ext.refl _ | assumption | exact held_left (by assumption) | apply Ext.drewN | apply Ext.drew | apply Ext.alloc | (refine Ext.setCell ?_ (by first | (simp; done) | (simp; omega) | omega) _) | (refine Ext.trans ?_ (by assumption)) | (refine Ext.trans ?_ (held_left (by assumption)))))))) (by simp; omega)).mono ?_; rintro e w6 ⟨v4, rfl, ho4, hb6⟩; have HO4 := Hid.mk' (ho4.base (Ext.size (by (repeat (with_reducible (first | exact Ext.refl _ | assumption | exact held_left (by assumption) | apply Ext.drewN | apply Ext.drew | apply Ext.alloc | (refine Ext.setCell ?_ (by first | (simp; done) | (simp; omega) | omega) _) | (refine Ext.trans ?_ (by assumption)) | (refine Ext.trans ?_ (held_left (by assumption)))))) : Ext w _))); have HE4 : Hid (Ext w w6) := Hid.mk' (by (repeat (with_reducible (first | exact Ext.refl _ | assumption | exact held_left (by assumption) | apply Ext.drewN | apply Ext.drew | apply Ext.alloc | (refine Ext.setCell ?_ (by first | (simp; done) | (simp; omega) | omega) _) | (refine Ext.trans ?_ (by assumption)) | (refine Ext.trans ?_ (held_left (by assumption))))))); clear ho4 hb6)
  go_ret2
  exact CPutPost.ok HE.out HP.out (by have := HO4.out; rw [List.append_assoc] at this; exact this) HE4.out

theorem rightC_k {k ty n x y : Int} {s : ByteArray} {kind : Int} (h : rightC k ty n x y s kind = 0) : k ≤ 2 := by
  unfold rightC at h
  (repeat' split at h) <;> first | omega | (exfalso; omega)

set_option maxRecDepth 100000 in set_option maxHeartbeats 1600000 in
theorem cput_null (v : Value) (l : List Int) (ty n : Int) (x y : Nat) (s : ByteArray) (kind ver : Int) (w : World) (hl : Sl w v 1 (l.map bcell)) (hlen : l.length ≤ 700000) (hs : s.size ≤ 9223372036854775807)
    (hv : ver = 1 ∨ ver = 2) (hr : rightC 0 ty n x y s kind = 0) :
    Calls Try.prog 78 #[v, .agg #[.int .u8 0, .int .u8 ty, .int .i64 n, .complex .f64 x y, .string s], .int .u8 kind, .int .u8 ver] w (CPutPost l 0 ty n x y s kind ver w) := by
  have HL := Hid.mk' hl
  have HR := Hid.mk' (fun w => cright_any 0 ty n x y s kind w (by decide) hs)
  rw [hr] at HR
  have HE : Hid (errC 0 ty n x y s kind ver = 12) := Hid.mk' (by unfold errC; rw [if_pos hv, if_neg (by simpa using hr), if_pos rfl])
  clear hl hr
  have hv1 : 1 ≤ ver := by omega
  have hv2 : ver ≤ 2 := by omega
  clear hv
  go_enter Try.func78, Try.ntmps78
  go_wp2_with (first
    | (go_at_call 83; refine (HR.out _).mono ?_; rintro e w1 ⟨rfl, hb1⟩; have hE1 : Ext w w1 := (by (repeat (with_reducible (first | exact Ext.refl _ | assumption | exact held_left (by assumption) | apply Ext.drewN | apply Ext.drew | apply Ext.alloc | (refine Ext.setCell ?_ (by first | (simp; done) | (simp; omega) | omega) _) | (refine Ext.trans ?_ (by assumption)) | (refine Ext.trans ?_ (held_left (by assumption))))))); have hE_w1 := hb1; obtain ⟨hc_w1, hf_w1⟩ := hE_w1.cells; have hz_w1 := hE_w1.size)
    | (go_at_call 85; refine (clone_any v l _ (HL.out.ext (by (repeat (with_reducible (first | exact Ext.refl _ | assumption | exact held_left (by assumption) | apply Ext.drewN | apply Ext.drew | apply Ext.alloc | (refine Ext.setCell ?_ (by first | (simp; done) | (simp; omega) | omega) _) | (refine Ext.trans ?_ (by assumption)) | (refine Ext.trans ?_ (held_left (by assumption)))))))) (by omega)).mono ?_; rintro e w2 ⟨v2, rfl, ho2, hb2⟩; have hE2 : Ext w w2 := (by (repeat (with_reducible (first | exact Ext.refl _ | assumption | exact held_left (by assumption) | apply Ext.drewN | apply Ext.drew | apply Ext.alloc | (refine Ext.setCell ?_ (by first | (simp; done) | (simp; omega) | omega) _) | (refine Ext.trans ?_ (by assumption)) | (refine Ext.trans ?_ (held_left (by assumption))))))); have hE_w2 := hE_w1.trans hb2; obtain ⟨hc_w2, hf_w2⟩ := hE_w2.cells; have hz_w2 := hE_w2.size; have HO2 := Hid.mk' (ho2.base (hE1.size)); have HB2 := Hid.mk' (ho2.base hz_w1); clear ho2 hc_w1 hf_w1))
  go_ret2
  exact CPutPost.bad HE.out (by decide) hE2

set_option maxRecDepth 100000 in set_option maxHeartbeats 1600000 in
theorem cput_wrong (v : Value) (l : List Int) (k ty n : Int) (x y : Nat) (s : ByteArray) (kind ver : Int) (w : World) (hs : s.size ≤ 9223372036854775807) (hk0 : 0 ≤ k)
    (hr : rightC k ty n x y s kind ≠ 0 ∨ ¬ (ver = 1 ∨ ver = 2)) :
    Calls Try.prog 78 #[v, .agg #[.int .u8 k, .int .u8 ty, .int .i64 n, .complex .f64 x y, .string s], .int .u8 kind, .int .u8 ver] w (CPutPost l k ty n x y s kind ver w) := by
  by_cases hv : ver = 1 ∨ ver = 2
  · have hr0 : rightC k ty n x y s kind ≠ 0 := hr.resolve_right (fun h => h hv)
    have HR := Hid.mk' (fun w => cright_any k ty n x y s kind w hk0 hs)
    have HE : Hid (errC k ty n x y s kind ver = rightC k ty n x y s kind) := Hid.mk' (by unfold errC; rw [if_pos hv, if_pos hr0])
    generalize rightC k ty n x y s kind = R at *
    have hR2 : (R != 0) = true := by simpa using hr0
    have HR0 := Hid.mk' hr0
    clear hr0 hr
    have hv1 : 1 ≤ ver := by omega
    have hv2 : ver ≤ 2 := by omega
    clear hv
    go_enter Try.func78, Try.ntmps78
    go_wp2_with (go_at_call 83; refine (HR.out _).mono ?_; rintro e w1 ⟨rfl, hb1⟩; have hE1 : Ext w w1 := (by (repeat (with_reducible (first | exact Ext.refl _ | assumption | exact held_left (by assumption) | apply Ext.drewN | apply Ext.drew | apply Ext.alloc | (refine Ext.setCell ?_ (by first | (simp; done) | (simp; omega) | omega) _) | (refine Ext.trans ?_ (by assumption)) | (refine Ext.trans ?_ (held_left (by assumption))))))); have hE_w1 := hb1; obtain ⟨hc_w1, hf_w1⟩ := hE_w1.cells; have hz_w1 := hE_w1.size)
    go_ret2
    exact CPutPost.bad HE.out HR0.out hE1
  · have HE : Hid (errC k ty n x y s kind ver = 18) := Hid.mk' (by unfold errC; rw [if_neg hv])
    clear hr
    by_cases h1 : ver < 1
    · clear hv
      go_enter Try.func78, Try.ntmps78
      go_wp2
      go_ret2
      exact CPutPost.bad HE.out (by decide) (by (repeat (with_reducible (first | exact Ext.refl _ | assumption | exact held_left (by assumption) | apply Ext.drewN | apply Ext.drew | apply Ext.alloc | (refine Ext.setCell ?_ (by first | (simp; done) | (simp; omega) | omega) _) | (refine Ext.trans ?_ (by assumption)) | (refine Ext.trans ?_ (held_left (by assumption)))))))
    · have h2 : 2 < ver := by omega
      clear hv
      go_enter Try.func78, Try.ntmps78
      go_wp2
      go_ret2
      exact CPutPost.bad HE.out (by decide) (by (repeat (with_reducible (first | exact Ext.refl _ | assumption | exact held_left (by assumption) | apply Ext.drewN | apply Ext.drew | apply Ext.alloc | (refine Ext.setCell ?_ (by first | (simp; done) | (simp; omega) | omega) _) | (refine Ext.trans ?_ (by assumption)) | (refine Ext.trans ?_ (held_left (by assumption)))))))

/-- The program's Put of a cell. -/
theorem cput_any (v : Value) (l : List Int) (k ty n : Int) (x y : Nat) (s : ByteArray) (kind ver : Int) (w : World) (hl : Sl w v 1 (l.map bcell)) (hlen : l.length ≤ 700000) (hk0 : 0 ≤ k)
    (hn : -9223372036854775808 ≤ n ∧ n < 9223372036854775808) (hx : x < 2 ^ 64) (hy : y < 2 ^ 64) (hs : s.size ≤ 9223372036854775807) :
    Calls Try.prog 78 #[v, .agg #[.int .u8 k, .int .u8 ty, .int .i64 n, .complex .f64 x y, .string s], .int .u8 kind, .int .u8 ver] w (CPutPost l k ty n x y s kind ver w) := by
  by_cases hr : rightC k ty n x y s kind = 0
  · by_cases hv : ver = 1 ∨ ver = 2
    · have hk2 := rightC_k hr
      have hk : k = 0 ∨ k = 1 ∨ k = 2 := by omega
      rcases hk with rfl | rfl | rfl
      · exact cput_null v l ty n x y s kind ver w hl hlen hs hv hr
      · exact cput_same v l ty n x y s kind ver w hl hlen hs hv hr
      · cases hL : largeB 2 ty s with
        | true => exact cput_large v l ty n x y s kind ver w hl hlen hs hv hr hL
        | false =>
          rcases hv with rfl | rfl
          · exact cput_one v l ty n x y s kind w hl hlen hs hn hx hy hr hL
          · by_cases hk : kind = 5 ∨ kind = 6
            · exact cput_text v l ty n x y s kind w hl hlen hs hr hL hk
            · exact cput_two v l ty n x y s kind w hl hlen hs hn hx hy hr hL (by omega)
    · exact cput_wrong v l k ty n x y s kind ver w hs hk0 (.inr hv)
  · exact cput_wrong v l k ty n x y s kind ver w hs hk0 (.inl hr)

theorem cput_ok (v : Value) (l : List Int) (k ty n : Int) (x y : Nat) (s : ByteArray) (kind ver : Int) (w : World) (h : errC k ty n x y s kind ver = 0) (hl : Sl w v 1 (l.map bcell)) (hlen : l.length ≤ 700000) (hk0 : 0 ≤ k)
    (hn : -9223372036854775808 ≤ n ∧ n < 9223372036854775808) (hx : x < 2 ^ 64) (hy : y < 2 ^ 64) (hs : s.size ≤ 9223372036854775807) :
    Calls Try.prog 78 #[v, .agg #[.int .u8 k, .int .u8 ty, .int .i64 n, .complex .f64 x y, .string s], .int .u8 kind, .int .u8 ver] w fun e w' => ∃ v', e = .returned (.tuple #[v', .int .i64 0]) ∧ OB w' w.heap.size v' (l ++ putC k ty n x y s kind ver) ∧ Ext w w' := by
  refine (cput_any v l k ty n x y s kind ver w hl hlen hk0 hn hx hy hs).mono ?_
  rintro e w' ⟨v', rfl, h1, h2, h3⟩
  exact ⟨v', by rw [h], h1 h, h3⟩
theorem cput_bad (v : Value) (l : List Int) (k ty n : Int) (x y : Nat) (s : ByteArray) (kind ver : Int) (w : World) (h : errC k ty n x y s kind ver ≠ 0) (hl : Sl w v 1 (l.map bcell)) (hlen : l.length ≤ 700000) (hk0 : 0 ≤ k)
    (hn : -9223372036854775808 ≤ n ∧ n < 9223372036854775808) (hx : x < 2 ^ 64) (hy : y < 2 ^ 64) (hs : s.size ≤ 9223372036854775807) :
    Calls Try.prog 78 #[v, .agg #[.int .u8 k, .int .u8 ty, .int .i64 n, .complex .f64 x y, .string s], .int .u8 kind, .int .u8 ver] w fun e w' => e = .returned (.tuple #[.slice none 0 0, .int .i64 (errC k ty n x y s kind ver)]) ∧ Ext w w' := by
  refine (cput_any v l k ty n x y s kind ver w hl hlen hk0 hn hx hy hs).mono ?_
  rintro e w' ⟨v', rfl, h1, h2, h3⟩
  exact ⟨by rw [h2 h], h3⟩

end Go.Proofs.Ytdbepkfblfhlhaa

/-
How long a cell's bytes are.
-/
namespace Go.Proofs.Ytdbepkfblfhlhaa
open Go.RowKit

theorem putC_len2 {k ty n : Int} {x y : Nat} {s : ByteArray} {kind ver : Int} (hk0 : 0 ≤ k) (h : errC k ty n x y s kind ver = 0) (hn : -9223372036854775808 ≤ n ∧ n < 9223372036854775808) : (putC k ty n x y s kind ver).length ≤ 4000 := by
  obtain ⟨hv, hr, hk, hkd⟩ := errC_zero hk0 h
  rcases hk with rfl | rfl
  · unfold putC; rw [if_pos rfl]; simp
  · have h3 := (right_full hr).1
    have hs := (right_zero h3).2.2.1
    have e1 : errV ty n x y s 1 = 0 := by unfold errV; rw [if_pos (.inl rfl)]; exact h3
    have e2 : errV ty n x y s 2 = 0 := by unfold errV; rw [if_pos (.inr rfl)]; exact h3
    have l1 := putL_len e1 hn
    have l2 := putL_len e2 hn
    have l3 := sevens_len10 (x := s.size) (by omega)
    have l4 := sevens_len10 (x := s.size + 2) (by omega)
    have l5 := strL_len s
    unfold putC
    (repeat' split) <;> (try simp only [List.length_append, List.length_cons, List.length_nil]) <;> omega

end Go.Proofs.Ytdbepkfblfhlhaa

/-
Rows in plain words: what bytes begin with, by a relation and a version; what is put is taken.
-/
namespace Go.Proofs.Ytdbepkfblfhlhaa
open Go.RowKit

/-- Bytes, one by one. -/
def byByte (st : RS) : Nat → List Int × RS
  | 0 => ([], st)
  | k + 1 => ((byByte st k).1 ++ [(byteR (byByte st k).2).1], (byteR (byByte st k).2).2)
theorem byByte_len (st : RS) : ∀ k, (byByte st k).1.length = k
  | 0 => rfl
  | k + 1 => by unfold byByte; simp [byByte_len st k]
theorem byByte_gave {e : Int} (he : e ≠ 0) : ∀ k, byByte ⟨[], e⟩ k = (List.replicate k 0, ⟨[], e⟩)
  | 0 => rfl
  | k + 1 => by unfold byByte; rw [byByte_gave he k, byteR_gave he, List.replicate_succ']
theorem byByte_ok {st : RS} (h : st.ok) : ∀ k, (byByte st k).2.ok
  | 0 => h
  | k + 1 => byteR_ok (byByte_ok h k)
theorem byByte_isB {st : RS} (h : st.ok) : ∀ k, isB (byByte st k).1
  | 0 => isB.nil
  | k + 1 => by
    unfold byByte
    refine (byByte_isB h k).append ?_
    intro x hx
    obtain rfl : x = _ := by simpa using hx
    unfold byteR
    simp only
    have := bytesR_isB (byByte_ok h k) 1
    cases hq : (bytesR 1 (byByte st k).2).1 with
    | nil => simp
    | cons a l => rw [hq] at this; exact this.head
theorem byByte_has (st : RS) : ∀ k, k ≤ st.l.length → byByte st k = (st.l.take k, ⟨st.l.drop k, st.e⟩)
  | 0, _ => by simp [byByte]
  | k + 1, h => by
    unfold byByte
    rw [byByte_has st k (by omega)]
    unfold byteR bytesR
    simp only
    rw [if_neg (by simp; omega)]
    have hk : k < st.l.length := by omega
    rw [List.drop_eq_getElem_cons hk]
    simp only [List.take_succ_cons, List.take_zero, List.headD_cons, List.drop_succ_cons, List.drop_zero]
    rw [List.take_succ_eq_append_getElem hk]

/-- The cells of the first k columns, their holes, what is left. -/
def tkUp (nulls : List Bool) (cols : List Col) (ver : Int) (st : RS) : Nat → (List K × List Ho) × RS
  | 0 => (([], []), st)
  | k + 1 =>
    if h : k < nulls.length ∧ k < cols.length then
      (if nulls[k]'h.1 = true then (((tkUp nulls cols ver st k).1.1 ++ [K.zero], (tkUp nulls cols ver st k).1.2), (tkUp nulls cols ver st k).2)
       else (((tkUp nulls cols ver st k).1.1 ++ [(takeC (cols[k]'h.2).ty ver (tkUp nulls cols ver st k).2).1.1],
              (if 0 < (takeC (cols[k]'h.2).ty ver (tkUp nulls cols ver st k).2).1.2 then (tkUp nulls cols ver st k).1.2 ++ [⟨k, ((takeC (cols[k]'h.2).ty ver (tkUp nulls cols ver st k).2).1.2 : Nat)⟩] else (tkUp nulls cols ver st k).1.2)),
             (takeC (cols[k]'h.2).ty ver (tkUp nulls cols ver st k).2).2))
    else tkUp nulls cols ver st k
theorem tkUp_null {nulls : List Bool} {cols : List Col} {ver : Int} {st : RS} {k : Nat} (h1 : k < nulls.length) (h2 : k < cols.length) (h : nulls[k] = true) :
    tkUp nulls cols ver st (k + 1) = (((tkUp nulls cols ver st k).1.1 ++ [K.zero], (tkUp nulls cols ver st k).1.2), (tkUp nulls cols ver st k).2) := by
  conv => lhs; unfold tkUp
  rw [dif_pos ⟨h1, h2⟩, if_pos h]
theorem tkUp_cell {nulls : List Bool} {cols : List Col} {ver : Int} {st : RS} {k : Nat} (h1 : k < nulls.length) (h2 : k < cols.length) (h : nulls[k] = false) {c : K} {m : Nat} {S : RS} (ht : takeC cols[k].ty ver (tkUp nulls cols ver st k).2 = ((c, m), S)) :
    tkUp nulls cols ver st (k + 1) = (((tkUp nulls cols ver st k).1.1 ++ [c], if 0 < m then (tkUp nulls cols ver st k).1.2 ++ [⟨k, (m : Nat)⟩] else (tkUp nulls cols ver st k).1.2), S) := by
  conv => lhs; unfold tkUp
  rw [dif_pos ⟨h1, h2⟩, if_neg (by rw [h]; simp), ht]
theorem tkUp_len {nulls : List Bool} {cols : List Col} {ver : Int} {st : RS} : ∀ k, k ≤ nulls.length → k ≤ cols.length → (tkUp nulls cols ver st k).1.1.length = k
  | 0, _, _ => rfl
  | k + 1, h1, h2 => by
    have ih := tkUp_len (nulls := nulls) (cols := cols) (ver := ver) (st := st) k (by omega) (by omega)
    unfold tkUp
    rw [dif_pos ⟨by omega, by omega⟩]
    split <;> simp [ih]
theorem tkUp_holes {nulls : List Bool} {cols : List Col} {ver : Int} {st : RS} : ∀ k, (tkUp nulls cols ver st k).1.2.length ≤ k
  | 0 => Nat.le_refl _
  | k + 1 => by
    have ih := tkUp_holes (nulls := nulls) (cols := cols) (ver := ver) (st := st) k
    unfold tkUp
    split
    · split
      · simp only; omega
      · simp only
        split
        · simp only [List.length_append, List.length_cons, List.length_nil]; omega
        · omega
    · omega
theorem tkUp_ok {nulls : List Bool} {cols : List Col} {ver : Int} {st : RS} (h : st.ok) : ∀ k, (tkUp nulls cols ver st k).2.ok
  | 0 => h
  | k + 1 => by
    have ih := tkUp_ok (nulls := nulls) (cols := cols) (ver := ver) h k
    unfold tkUp
    split
    · split
      · exact ih
      · exact takeC_ok ih
    · exact ih

/-- Reading a relation's row begins: is it right, is the version one of two? -/
def begR (r : Rl) (ver : Int) (st : RS) : RS := if ver = 1 ∨ ver = 2 then failS st r.right else giveS (failS st r.right) 18
def finT (t : (List K × List Ho) × RS) : (List K × List Ho) × RS := if t.2.e ≠ 0 then (([], []), t.2) else t
/-- The next row of a relation, its holes, what is left. -/
def takeT (r : Rl) (ver : Int) (st : RS) : (List K × List Ho) × RS :=
  if (begR r ver st).e ≠ 0 then (([], []), begR r ver st)
  else if (bytesR (mapSize r.cols.length) (begR r ver st)).2.e ≠ 0 then (([], []), (bytesR (mapSize r.cols.length) (begR r ver st)).2)
  else finT (tkUp (unmapL (bytesR (mapSize r.cols.length) (begR r ver st)).1 r.cols.length).1 r.cols ver (failS (bytesR (mapSize r.cols.length) (begR r ver st)).2 (unmapL (bytesR (mapSize r.cols.length) (begR r ver st)).1 r.cols.length).2) (unmapL (bytesR (mapSize r.cols.length) (begR r ver st)).1 r.cols.length).1.length)

end Go.Proofs.Ytdbepkfblfhlhaa

/-
The reference's reader: what it tells; giving up; bytes.
-/
namespace Go.Proofs.Ytdbepkfblfhlhaa
open Go.RowKit

/-- The reference's reader in block g, its bytes in a block from d on, below g. -/
def RF (w : World) (g d : Nat) (st : RS) : Prop := ∃ v L at', Blk w g #[v, .int .i64 (at' : Nat), .int .i64 st.e] 108 ∧ SB w g d v L ∧ at' ≤ L.length ∧ st.l = (if st.e = 0 then L.drop at' else []) ∧ isB L ∧ L.length ≤ 1000000
theorem RF.ext {w w1 : World} {g d : Nat} {st : RS} (hr : RF w g d st) (he : Ext w w1) : RF w1 g d st := by
  obtain ⟨v, L, a, h1, h2, h3⟩ := hr
  exact ⟨v, L, a, h1.ext he, h2.ext he, h3⟩
theorem RF.drewN {w : World} {g d : Nat} {st : RS} (hr : RF w g d st) (n : Nat) : RF (w.drewN n) g d st := hr.ext ((Ext.refl w).drewN n)
theorem RF.tch {w w1 : World} {g d h : Nat} {st : RS} (hr : RF w g d st) (he : Tch h w w1) (hg : h ≠ g) (hd : h < d ∨ g ≤ h) : RF w1 g d st := by
  obtain ⟨v, L, a, h1, h2, h3⟩ := hr
  exact ⟨v, L, a, h1.tch he hg.symm, h2.tch he hd, h3⟩
theorem RF.lt {w : World} {g d : Nat} {st : RS} (hr : RF w g d st) : g < w.heap.size := by obtain ⟨v, L, a, h1, _⟩ := hr; exact h1.lt
theorem RF.ok {w : World} {g d : Nat} {st : RS} (hr : RF w g d st) : st.ok := by
  obtain ⟨v, L, a, _, _, _, hl, hb, _⟩ := hr
  refine ⟨fun h => by rw [hl, if_neg h], ?_⟩
  rw [hl]; split; exact hb.drop _; exact isB.nil
def FPost (g d : Nat) (w : World) (r : Value) (st : RS) (e : Ending) (w' : World) : Prop := e = .returned r ∧ RF w' g d st ∧ Tch g w w'

set_option maxRecDepth 100000 in set_option maxHeartbeats 1600000 in
theorem fgive_any (g d : Nat) (st : RS) (x : Int) (w : World) (h : RF w g d st) (hx : x ≠ 0) :
    Calls Try.prog 89 #[.pointer (some ⟨g, 0, none⟩), .int .i64 x] w (FPost g d w (.tuple #[]) (giveS st x)) := by
  obtain ⟨v, L, a, hb, hsb, hat, hl, hB, hlen⟩ := h
  have hc := hb.cell
  have hf := hb.frozen
  have hlt := hb.lt
  have HB := Hid.mk' hb
  have HS := Hid.mk' hsb
  have HL := Hid.mk' hl
  clear hb hsb hl
  by_cases he : st.e = 0
  · rw [he] at hc HB
    have HE := Hid.mk' he
    clear he
    go_enter Try.func89, Try.ntmps89
    go_wp2
    go_end0
    refine ⟨rfl, ?_, (Tch.refl g w).set 2 _⟩
    unfold giveS; rw [if_pos HE.out]
    exact ⟨_, L, a, HB.out.set 2 _, HS.out.tch ((Tch.refl g w).set 2 _) (.inr (Nat.le_refl _)), hat, by simp [hx], hB, hlen⟩
  · have he2 : (st.e == 0) = false := by simpa using he
    have HE := Hid.mk' he
    clear he
    go_enter Try.func89, Try.ntmps89
    go_wp2
    go_end0
    exact ⟨rfl, by unfold giveS; rw [if_neg HE.out]; exact ⟨_, L, a, HB.out, HS.out, hat, HL.out, hB, hlen⟩, Tch.refl g w⟩

set_option maxRecDepth 100000 in set_option maxHeartbeats 1600000 in
theorem fleft_any (g d : Nat) (st : RS) (w : World) (h : RF w g d st) :
    Calls Try.prog 54 #[.pointer (some ⟨g, 0, none⟩)] w fun e w' => e = .returned (.int .i64 st.l.length) ∧ ∃ m, w' = w.drewN m := by
  obtain ⟨v, L, a, hb, ⟨ad, cap, rfl, -, -, -⟩, hat, hl, hB, hlen⟩ := h
  have hc := hb.cell
  clear hb
  by_cases he : st.e = 0
  · rw [he] at hc
    have hll : st.l.length = L.length - a := by rw [hl, if_pos he, List.length_drop]
    have HLL : Hid ((st.l.length : Int) = (L.length : Int) - (a : Int)) := Hid.mk' (by rw [hll]; omega)
    clear he hl hll
    go_enter Try.func54, Try.ntmps54
    go_wp2
    go_quiet (fail)
    go_wp2
    go_ret
    exact ⟨ret_int (by rw [HLL.out]), nq, rfl⟩
  · have he2 : (st.e != 0) = true := by simpa using he
    have HL : Hid (st.l.length = 0) := Hid.mk' (by rw [hl, if_neg he]; rfl)
    clear he hl
    go_enter Try.func54, Try.ntmps54
    go_wp2
    go_ret
    exact ⟨ret_int (by rw [HL.out]; rfl), 0, rfl⟩

end Go.Proofs.Ytdbepkfblfhlhaa

/-
Rows beside a reader; a map of bits taken: the program's mapped.
-/
namespace Go.Proofs.Ytdbepkfblfhlhaa
open Go.RowKit

theorem owns_tch {w w1 : World} {g base : Nat} {e : TypeId} {size n : Nat} {v : Value} {xs : List Value} (h : w.ownsRow base e size v n xs) (ht : Tch g w w1) (hg : g < base) : w1.ownsRow base e size v n xs := by
  obtain ⟨h1, h2⟩ := h
  refine ⟨h1, ?_⟩
  rcases h2 with h2 | ⟨k, cap, cur, hv, hb, hh, hr⟩
  · exact .inl h2
  · exact .inr ⟨k, cap, cur, hv, hb, Blk.tch (b := k) hh ht (by omega), hr⟩
theorem OB.tch {w w1 : World} {g base : Nat} {v : Value} {l : List Int} (h : OB w base v l) (ht : Tch g w w1) (hg : g < base) : OB w1 base v l := owns_tch h ht hg
theorem Tch.grown {g : Nat} {w w1 w2 : World} {row : Option Nat} (h : Tch g w w1) (hg : w1.grownBy w2 row) (hr : ∀ j, row = some j → w.heap.size ≤ j) : Tch g w w2 :=
  ⟨hg.os.trans h.os, hg.tape.trans h.tape, hg.output.trans h.output, Nat.le_trans h.size hg.size, fun k hk hne => (hg.block k (Nat.lt_of_lt_of_le hk h.size) (fun e => by have := hr k e.symm; omega)).trans (h.block k hk hne)⟩
theorem RD.grown {w1 w2 : World} {g d : Nat} {st : RS} {row : Option Nat} (h : RD w1 g d st) (hg : w1.grownBy w2 row) (hr : ∀ j, row = some j → g < j) : RD w2 g d st := by
  cases row with
  | none => exact h.ext ⟨hg.os, hg.tape, hg.output, hg.size, fun k hk => hg.block k hk (by simp)⟩
  | some j =>
    have := hr j rfl
    exact h.tch (h := j) ⟨hg.os, hg.tape, hg.output, hg.size, fun k hk hne => hg.block k hk (by simpa using hne)⟩ (by omega) (.inr (by omega))
theorem RF.grown {w1 w2 : World} {g d : Nat} {st : RS} {row : Option Nat} (h : RF w1 g d st) (hg : w1.grownBy w2 row) (hr : ∀ j, row = some j → g < j) : RF w2 g d st := by
  cases row with
  | none => exact h.ext ⟨hg.os, hg.tape, hg.output, hg.size, fun k hk => hg.block k hk (by simp)⟩
  | some j =>
    have := hr j rfl
    exact h.tch (h := j) ⟨hg.os, hg.tape, hg.output, hg.size, fun k hk hne => hg.block k hk (by simpa using hne)⟩ (by omega) (.inr (by omega))
theorem Sl.tch {w w1 : World} {g k : Nat} {a : Option Addr} {n cap : Nat} {xss : List (List Value)} (h : Sl w (.slice a n cap) k xss) (ht : Tch g w w1) (hg : ∀ b o, a = some ⟨b, o, none⟩ → b ≠ g) : Sl w1 (.slice a n cap) k xss := by
  obtain ⟨a', c', hv, h⟩ := h
  simp only [Value.slice.injEq] at hv
  obtain ⟨rfl, hn, rfl⟩ := hv
  refine ⟨a, cap, by rw [hn], ?_⟩
  rcases h with h | ⟨b, o, rfl, hb, hc⟩
  · exact .inl h
  · exact .inr ⟨b, o, rfl, Nat.lt_of_lt_of_le hb ht.size, fun i hi j hj => (ht.cell hb (hg b o rfl) _).trans (hc i hi j hj)⟩

/-- A map taken, byte by byte. -/
def mapS (n : Nat) (st : RS) : RS := if st.l.length < mapSize n then giveS st 1 else st
def mapR (n : Nat) (st : RS) : List Bool × RS := ((unmapL (byByte (mapS n st) (mapSize n)).1 n).1, failS (byByte (mapS n st) (mapSize n)).2 (unmapL (byByte (mapS n st) (mapSize n)).1 n).2)
theorem mapS_ok {n : Nat} {st : RS} (h : st.ok) : (mapS n st).ok := by unfold mapS; split; exact giveS_ok h 1; exact h
theorem failS_one (st : RS) : failS st 1 = giveS st 1 := by unfold failS; rw [if_pos (by decide)]
def MapPost (n : Nat) (g d : Nat) (st : RS) (w : World) (e : Ending) (w' : World) : Prop :=
  ∃ a c, e = .returned (.slice a (mapR n st).1.length c) ∧ Sl w' (.slice a (mapR n st).1.length c) 1 ((mapR n st).1.map boolC) ∧ (∀ k o, a = some ⟨k, o, none⟩ → w.heap.size ≤ k) ∧ RD w' g d (mapR n st).2 ∧ Tch g w w'

set_option maxRecDepth 100000 in set_option maxHeartbeats 4000000 in
theorem mapped_any (g d n : Nat) (st : RS) (w : World) (h : RD w g d st) (h16 : n ≤ 16) :
    Calls Try.prog 87 #[.pointer (some ⟨g, 0, none⟩), .int .i64 n] w (MapPost n g d st w) := by
  obtain ⟨i0, hi, hz0, hz1, hz2⟩ := info_parts Try.infoU8
  have hg := h.lt
  have hok : st.ok := by obtain ⟨_, _, _, hok, _⟩ := h; exact hok
  have H := Hid.mk' h
  have HZ := Hid.mk' (fun w => msize_any n w h16)
  have HLF := Hid.mk' (fun w h => rleft_any g d st w h)
  have HFA := Hid.mk' (fun w h => fail_any g d st 1 w h)
  rw [failS_one] at HFA
  have hs2 : mapSize n ≤ 2 := by unfold mapSize; omega
  obtain ⟨S0, hS0⟩ : ∃ S0, S0 = mapS n st := ⟨_, rfl⟩
  have hok0 : S0.ok := hS0 ▸ mapS_ok hok
  have HS0 := Hid.mk' hS0
  have HOK := Hid.mk' hok0
  obtain ⟨B, hB⟩ : ∃ B, B = byByte S0 (mapSize n) := ⟨_, rfl⟩
  have hBl : B.1.length = mapSize n := by rw [hB, byByte_len]
  have hBb : isB B.1 := by rw [hB]; exact byByte_isB hok0 _
  have HU := Hid.mk' (fun W a c h => unpack_any B.1 n a c W h hBb h16 hBl)
  rw [hBl] at HU
  have HF2 := Hid.mk' (fun w h => fail_any g d B.2 (unmapL B.1 n).2 w h)
  have HMR : Hid (mapR n st = ((unmapL B.1 n).1, failS B.2 (unmapL B.1 n).2)) := Hid.mk' (by unfold mapR; rw [← hS0, ← hB])
  have HB := Hid.mk' hB
  clear h hok hS0 hok0 hB hBl hBb
  unfold UnPost at HU
  obtain ⟨L, hL⟩ : ∃ L, L = (unmapL B.1 n).1 := ⟨_, rfl⟩
  obtain ⟨E, hE⟩ : ∃ E, E = (unmapL B.1 n).2 := ⟨_, rfl⟩
  rw [← hL, ← hE] at HU HMR
  rw [← hE] at HF2
  clear hL hE
  by_cases hsh : st.l.length < mapSize n
  case pos =>
    have HS1 := Hid.mk' (HS0.out.trans (by unfold mapS; rw [if_pos hsh]))
    clear HS0
    go_enter Try.func87, Try.ntmps87
    go_wp2_with (first
      | (go_at_call 53; refine (HLF.out _ H.out).mono ?_; rintro e w1 ⟨rfl, rfl⟩)
      | (go_at_call 108; refine (HZ.out _).mono ?_; rintro e w1 ⟨rfl, rfl⟩)
      | (go_at_call 86; refine (HFA.out _ H.out).mono ?_; rintro e w2 ⟨rfl, hr2, ht2⟩; have HR2 := Hid.mk' hr2; have HT2 := Hid.mk' ht2; clear hr2 ht2))
    go_loopw [5, 17] (fun v i wr => ∃ k : Nat, k ≤ mapSize n ∧ i = .int .i64 k ∧ Hid (OB wr w.heap.size v (byByte S0 k).1) ∧ Hid (RD wr g d (byByte S0 k).2) ∧ Hid (Tch g w wr)) (fun _ i _ => mapSize n - (intOf i).toNat)
    case atStart => exact ⟨0, Nat.zero_le _, rfl, Hid.mk' (OB.nil _ _), Hid.mk' (by have := HR2.out; rw [← HS1.out] at this; exact this), HT2⟩
    case round =>
      obtain ⟨k, hk, rfl, hown, hr, hT⟩ := hrel
      by_cases hlt : k < mapSize n
      · have HBY := Hid.mk' (fun w h => rbyte_any g d (byByte S0 k).2 w h)
        have HS := Hid.mk' (show byByte S0 (k + 1) = ((byByte S0 k).1 ++ [(byteR (byByte S0 k).2).1], (byteR (byByte S0 k).2).2) from rfl)
        have hlb := byByte_len S0 k
        obtain ⟨Bk, hBk⟩ : ∃ Bk, Bk = byByte S0 k := ⟨_, rfl⟩
        rw [← hBk] at HBY HS hown hr hlb
        obtain ⟨x, hx⟩ : ∃ x, x = (byteR Bk.2).1 := ⟨_, rfl⟩
        rw [← hx] at HBY HS
        clear hBk hx
        go_wp2_with (first
          | (go_at_call 122; refine (HBY.out _ hr.out).mono ?_; rintro e w2 ⟨rfl, hr2, ht2⟩; have HR3 := Hid.mk' hr2; have HO3 := Hid.mk' (hown.out.tch ht2 hg); have HT3 := Hid.mk' (hT.out.trans ht2); clear hr2 ht2)
          | (at_builtin; refine wpList_append_own _ rfl _ _ 80 rfl w.heap.size 5 i0 _ 1 1 Try.underlying80 hi hz0 hz1 hz2 rfl (by decide) _ _ _ rfl (HO3.out.alloc _) ⟨_, 0, none⟩ 1 1 (bs [x]) rfl rfl ?c1 ?c2 ?c3 ?c4 ?c5 ?_))
        case c1 => exact cells_new _ #[.int .u8 x] _
        case c2 => exact bs_one _
        case c3 => unfold maxLen; omega
        case c4 => omega
        case c5 => have := HT3.out.size; simp; omega
        intro v' w3 hown' hgrow _
        have HO4 := Hid.mk' (OB.push hown' (by rw [hlb]; rfl))
        have HR4 := Hid.mk' ((HR3.out.ext ((Ext.refl _).alloc (.cells #[.int .u8 x] 5))).grown hgrow (fun j hj => by have := (World.ownsRow.lt HO3.out j hj).1; omega))
        have HT4 := Hid.mk' ((HT3.out.alloc (.cells #[.int .u8 x] 5)).grown hgrow (fun j hj => (World.ownsRow.lt HO3.out j hj).1))
        clear hown' hgrow
        go_wp2
        go_roundw
        case rel => exact ⟨k + 1, by omega, by go_num, Hid.mk' (by rw [HS.out]; exact HO4.out), Hid.mk' (by rw [HS.out]; exact HR4.out), HT4⟩
        case measure => simp [intOf]; omega
      · have hkk : k = mapSize n := by omega
        subst hkk
        rw [← HB.out] at hown hr
        obtain ⟨ab, cb, rfl⟩ := hown.out.shape
        have hbl : B.1.length = mapSize n := by rw [HB.out, byByte_len]
        rw [hbl]
        have HSL := Hid.mk' (hown.out.sl)
        rw [hbl] at HSL
        clear hown hbl
        go_wp2_with (first
          | (go_at_call 123; refine (HU.out _ _ _ HSL.out).mono ?_; rintro e w4 ⟨a4, c4, rfl, hs4, ha4, hb4⟩; have H4 := Hid.mk' hs4; have HE4 := Hid.mk' hb4; clear hs4 hb4)
          | (go_at_call 86; refine (HF2.out _ (hr.out.ext HE4.out)).mono ?_; rintro e w5 ⟨rfl, hr5, ht5⟩; have HR5 := Hid.mk' hr5; have HT5 := Hid.mk' ht5; clear hr5 ht5))
        go_ret
        unfold MapPost
        rw [HMR.out]
        have hz4 := hT.out.size
        exact ⟨a4, c4, rfl, H4.out.tch HT5.out (fun k o e => by have := ha4 k o e; omega), (fun k o e => by have := ha4 k o e; omega), HR5.out, (hT.out.trans (Tch.of_ext HE4.out)).trans HT5.out⟩
  case neg =>
    have HS1 := Hid.mk' (HS0.out.trans (by unfold mapS; rw [if_neg hsh]))
    clear HS0
    go_enter Try.func87, Try.ntmps87
    go_wp2_with (first
      | (go_at_call 53; refine (HLF.out _ H.out).mono ?_; rintro e w1 ⟨rfl, rfl⟩)
      | (go_at_call 108; refine (HZ.out _).mono ?_; rintro e w1 ⟨rfl, rfl⟩)
      | (go_at_call 86; refine (HFA.out _ H.out).mono ?_; rintro e w2 ⟨rfl, hr2, ht2⟩; have HR2 := Hid.mk' hr2; have HT2 := Hid.mk' ht2; clear hr2 ht2))
    go_loopw [5, 17] (fun v i wr => ∃ k : Nat, k ≤ mapSize n ∧ i = .int .i64 k ∧ Hid (OB wr w.heap.size v (byByte S0 k).1) ∧ Hid (RD wr g d (byByte S0 k).2) ∧ Hid (Tch g w wr)) (fun _ i _ => mapSize n - (intOf i).toNat)
    case atStart => exact ⟨0, Nat.zero_le _, rfl, Hid.mk' (OB.nil _ _), Hid.mk' (by have := H.out; rw [← HS1.out] at this; exact this), Hid.mk' (Tch.refl g w)⟩
    case round =>
      obtain ⟨k, hk, rfl, hown, hr, hT⟩ := hrel
      by_cases hlt : k < mapSize n
      · have HBY := Hid.mk' (fun w h => rbyte_any g d (byByte S0 k).2 w h)
        have HS := Hid.mk' (show byByte S0 (k + 1) = ((byByte S0 k).1 ++ [(byteR (byByte S0 k).2).1], (byteR (byByte S0 k).2).2) from rfl)
        have hlb := byByte_len S0 k
        obtain ⟨Bk, hBk⟩ : ∃ Bk, Bk = byByte S0 k := ⟨_, rfl⟩
        rw [← hBk] at HBY HS hown hr hlb
        obtain ⟨x, hx⟩ : ∃ x, x = (byteR Bk.2).1 := ⟨_, rfl⟩
        rw [← hx] at HBY HS
        clear hBk hx
        go_wp2_with (first
          | (go_at_call 122; refine (HBY.out _ hr.out).mono ?_; rintro e w2 ⟨rfl, hr2, ht2⟩; have HR3 := Hid.mk' hr2; have HO3 := Hid.mk' (hown.out.tch ht2 hg); have HT3 := Hid.mk' (hT.out.trans ht2); clear hr2 ht2)
          | (at_builtin; refine wpList_append_own _ rfl _ _ 80 rfl w.heap.size 5 i0 _ 1 1 Try.underlying80 hi hz0 hz1 hz2 rfl (by decide) _ _ _ rfl (HO3.out.alloc _) ⟨_, 0, none⟩ 1 1 (bs [x]) rfl rfl ?c1 ?c2 ?c3 ?c4 ?c5 ?_))
        case c1 => exact cells_new _ #[.int .u8 x] _
        case c2 => exact bs_one _
        case c3 => unfold maxLen; omega
        case c4 => omega
        case c5 => have := HT3.out.size; simp; omega
        intro v' w3 hown' hgrow _
        have HO4 := Hid.mk' (OB.push hown' (by rw [hlb]; rfl))
        have HR4 := Hid.mk' ((HR3.out.ext ((Ext.refl _).alloc (.cells #[.int .u8 x] 5))).grown hgrow (fun j hj => by have := (World.ownsRow.lt HO3.out j hj).1; omega))
        have HT4 := Hid.mk' ((HT3.out.alloc (.cells #[.int .u8 x] 5)).grown hgrow (fun j hj => (World.ownsRow.lt HO3.out j hj).1))
        clear hown' hgrow
        go_wp2
        go_roundw
        case rel => exact ⟨k + 1, by omega, by go_num, Hid.mk' (by rw [HS.out]; exact HO4.out), Hid.mk' (by rw [HS.out]; exact HR4.out), HT4⟩
        case measure => simp [intOf]; omega
      · have hkk : k = mapSize n := by omega
        subst hkk
        rw [← HB.out] at hown hr
        obtain ⟨ab, cb, rfl⟩ := hown.out.shape
        have hbl : B.1.length = mapSize n := by rw [HB.out, byByte_len]
        rw [hbl]
        have HSL := Hid.mk' (hown.out.sl)
        rw [hbl] at HSL
        clear hown hbl
        go_wp2_with (first
          | (go_at_call 123; refine (HU.out _ _ _ HSL.out).mono ?_; rintro e w4 ⟨a4, c4, rfl, hs4, ha4, hb4⟩; have H4 := Hid.mk' hs4; have HE4 := Hid.mk' hb4; clear hs4 hb4)
          | (go_at_call 86; refine (HF2.out _ (hr.out.ext HE4.out)).mono ?_; rintro e w5 ⟨rfl, hr5, ht5⟩; have HR5 := Hid.mk' hr5; have HT5 := Hid.mk' ht5; clear hr5 ht5))
        go_ret
        unfold MapPost
        rw [HMR.out]
        have hz4 := hT.out.size
        exact ⟨a4, c4, rfl, H4.out.tch HT5.out (fun k o e => by have := ha4 k o e; omega), (fun k o e => by have := ha4 k o e; omega), HR5.out, (hT.out.trans (Tch.of_ext HE4.out)).trans HT5.out⟩

end Go.Proofs.Ytdbepkfblfhlhaa

/-
Storing a cell, the program's or the document's, into a block that is known whole.
-/
namespace Go.Proofs.Ytdbepkfblfhlhaa
open Go.RowKit

theorem Blk.five {W : World} {b : Nat} {u0 u1 u2 u3 u4 v0 v1 v2 v3 v4 : Value} {T : TypeId} (h : Blk W b #[u0, u1, u2, u3, u4] T) :
    Blk (((((W.setCell ⟨b, 0, none⟩ v0).setCell ⟨b, 1, none⟩ v1).setCell ⟨b, 2, none⟩ v2).setCell ⟨b, 3, none⟩ v3).setCell ⟨b, 4, none⟩ v4) b #[v0, v1, v2, v3, v4] T := ((((h.set 0 _).set 1 _).set 2 _).set 3 _).set 4 _
theorem Blk.four {W : World} {b : Nat} {u0 u1 u2 u3 v0 v1 v2 v3 : Value} {T : TypeId} (h : Blk W b #[u0, u1, u2, u3] T) :
    Blk ((((W.setCell ⟨b, 0, none⟩ v0).setCell ⟨b, 1, none⟩ v1).setCell ⟨b, 2, none⟩ v2).setCell ⟨b, 3, none⟩ v3) b #[v0, v1, v2, v3] T := (((h.set 0 _).set 1 _).set 2 _).set 3 _
theorem Blk.six {W : World} {b : Nat} {u0 u1 u2 u3 u4 u5 v0 v1 v2 v3 v4 v5 : Value} {T : TypeId} (h : Blk W b #[u0, u1, u2, u3, u4, u5] T) :
    Blk ((((((W.setCell ⟨b, 0, none⟩ v0).setCell ⟨b, 1, none⟩ v1).setCell ⟨b, 2, none⟩ v2).setCell ⟨b, 3, none⟩ v3).setCell ⟨b, 4, none⟩ v4).setCell ⟨b, 5, none⟩ v5) b #[v0, v1, v2, v3, v4, v5] T := (((((h.set 0 _).set 1 _).set 2 _).set 3 _).set 4 _).set 5 _
theorem RD.set {W : World} {g d b : Nat} {st : RS} (h : RD W g d st) (hb : g < b) (i : Nat) (v : Value) : RD (W.setCell ⟨b, i, none⟩ v) g d st := h.tch (Tch.set1 b W i v) (by omega) (.inr (by omega))
theorem RF.set {W : World} {g d b : Nat} {st : RS} (h : RF W g d st) (hb : g < b) (i : Nat) (v : Value) : RF (W.setCell ⟨b, i, none⟩ v) g d st := h.tch (Tch.set1 b W i v) (by omega) (.inr (by omega))
theorem RD.five {W : World} {g d b : Nat} {st : RS} {v0 v1 v2 v3 v4 : Value} (h : RD W g d st) (hb : g < b) :
    RD (((((W.setCell ⟨b, 0, none⟩ v0).setCell ⟨b, 1, none⟩ v1).setCell ⟨b, 2, none⟩ v2).setCell ⟨b, 3, none⟩ v3).setCell ⟨b, 4, none⟩ v4) g d st := ((((h.set hb 0 _).set hb 1 _).set hb 2 _).set hb 3 _).set hb 4 _
theorem Tch.five {w W : World} {g b : Nat} {v0 v1 v2 v3 v4 : Value} (h : Tch g w W) (hb : w.heap.size ≤ b) :
    Tch g w (((((W.setCell ⟨b, 0, none⟩ v0).setCell ⟨b, 1, none⟩ v1).setCell ⟨b, 2, none⟩ v2).setCell ⟨b, 3, none⟩ v3).setCell ⟨b, 4, none⟩ v4) := ((((h.setNew hb 0 _).setNew hb 1 _).setNew hb 2 _).setNew hb 3 _).setNew hb 4 _
theorem RF.six {W : World} {g d b : Nat} {st : RS} {v0 v1 v2 v3 v4 v5 : Value} (h : RF W g d st) (hb : g < b) :
    RF ((((((W.setCell ⟨b, 0, none⟩ v0).setCell ⟨b, 1, none⟩ v1).setCell ⟨b, 2, none⟩ v2).setCell ⟨b, 3, none⟩ v3).setCell ⟨b, 4, none⟩ v4).setCell ⟨b, 5, none⟩ v5) g d st := (((((h.set hb 0 _).set hb 1 _).set hb 2 _).set hb 3 _).set hb 4 _).set hb 5 _
theorem Tch.six {w W : World} {g b : Nat} {v0 v1 v2 v3 v4 v5 : Value} (h : Tch g w W) (hb : w.heap.size ≤ b) :
    Tch g w ((((((W.setCell ⟨b, 0, none⟩ v0).setCell ⟨b, 1, none⟩ v1).setCell ⟨b, 2, none⟩ v2).setCell ⟨b, 3, none⟩ v3).setCell ⟨b, 4, none⟩ v4).setCell ⟨b, 5, none⟩ v5) := (((((h.setNew hb 0 _).setNew hb 1 _).setNew hb 2 _).setNew hb 3 _).setNew hb 4 _).setNew hb 5 _

def K.agg (c : K) : Value := .agg #[.int .u8 c.k, .int .u8 c.v.ty, .int .i64 c.v.n, .complex .f64 c.v.x c.v.y, .string c.v.s]
def CTPost (g d : Nat) (w : World) (R : (K × Nat) × RS) (e : Ending) (w' : World) : Prop := ∃ (c : K) (m : Nat), e = .returned (.tuple #[c.agg, .int .i64 m]) ∧ (R.2.e = 0 → (c, m) = R.1) ∧ RD w' g d R.2 ∧ Tch g w w'
theorem CTPost.mk' {g d : Nat} {w w' : World} {R : (K × Nat) × RS} (c : K) (m : Nat) {S : RS} (h2 : R.2 = S) (h1 : R.2.e = 0 → (c, m) = R.1) (hr : RD w' g d S) (ht : Tch g w w') : CTPost g d w R (.returned (.tuple #[c.agg, .int .i64 m])) w' :=
  ⟨c, m, rfl, h1, by rw [h2]; exact hr, ht⟩

set_option maxRecDepth 20000 in
theorem res_first {W : World} {b : Nat} {k ty n : Int} {x y : Nat} {s : ByteArray} {m : Int} {tm : Array Value} (h : Blk W b #[.int .u8 k, .int .u8 ty, .int .i64 n, .complex .f64 x y, .string s] 78) (ht : tm.getD 4 undef = .pointer (some ⟨b, 0, none⟩)) (hm : tm.getD 5 undef = .int .i64 m) :
    (results Try.f124 tm).run Try.prog W = .ok (.tuple #[.agg #[.int .u8 k, .int .u8 ty, .int .i64 n, .complex .f64 x y, .string s], .int .i64 m]) W := by
  have c := h.cell
  have c0 := c 0
  have c1 := c 1
  have c2 := c 2
  have c3 := c 3
  have c4 := c 4
  clear c h
  simp at c0 c1 c2 c3 c4
  rw [Array.getD_eq_getD_getElem?] at ht hm
  simp [results, Try.results124, go_sem, ht, hm, c0, c1, c2, c3, c4]
set_option maxRecDepth 20000 in
theorem res_second {W : World} {b : Nat} {k ty n : Int} {x y : Nat} {s : ByteArray} {m : Int} {tm : Array Value} (h : Blk W b #[.int .u8 k, .int .u8 ty, .int .i64 n, .complex .f64 x y, .string s] 78) (ht : tm.getD 4 undef = .pointer (some ⟨b, 0, none⟩)) (hm : tm.getD 5 undef = .int .i64 m) :
    (results Try.f125 tm).run Try.prog W = .ok (.tuple #[.agg #[.int .u8 k, .int .u8 ty, .int .i64 n, .complex .f64 x y, .string s], .int .i64 m]) W := by
  have c := h.cell
  have c0 := c 0
  have c1 := c 1
  have c2 := c 2
  have c3 := c 3
  have c4 := c 4
  clear c h
  simp at c0 c1 c2 c3 c4
  rw [Array.getD_eq_getD_getElem?] at ht hm
  simp [results, Try.results125, go_sem, ht, hm, c0, c1, c2, c3, c4]
set_option maxRecDepth 20000 in
theorem res_ctake {W : World} {b : Nat} {k ty n : Int} {x y : Nat} {s : ByteArray} {m : Int} {tm : Array Value} (h : Blk W b #[.int .u8 k, .int .u8 ty, .int .i64 n, .complex .f64 x y, .string s] 78) (ht : tm.getD 6 undef = .pointer (some ⟨b, 0, none⟩)) (hm : tm.getD 7 undef = .int .i64 m) :
    (results Try.f88 tm).run Try.prog W = .ok (.tuple #[.agg #[.int .u8 k, .int .u8 ty, .int .i64 n, .complex .f64 x y, .string s], .int .i64 m]) W := by
  have c := h.cell
  have c0 := c 0
  have c1 := c 1
  have c2 := c 2
  have c3 := c 3
  have c4 := c 4
  clear c h
  simp at c0 c1 c2 c3 c4
  rw [Array.getD_eq_getD_getElem?] at ht hm
  simp [results, Try.results88, go_sem, ht, hm, c0, c1, c2, c3, c4]

end Go.Proofs.Ytdbepkfblfhlhaa

/-
The program's cell: large and first.
-/
namespace Go.Proofs.Ytdbepkfblfhlhaa
open Go.RowKit

set_option maxRecDepth 100000 in set_option maxHeartbeats 1600000 in
theorem clr_any (g d : Nat) (st : RS) (w : World) (h : RD w g d st) :
    Calls Try.prog 148 #[.pointer (some ⟨g, 0, none⟩)] w (RPost g d w (.int .i64 (largeR st).1) (largeR st).2) := by
  have H := Hid.mk' h
  have HU := Hid.mk' (fun w h => ruint2_any g d st 2048 w h (by omega))
  have hle := uintR_le (st := st) 2048
  unfold largeR
  simp only
  generalize uintR 2048 st = U at *
  obtain ⟨n, st1⟩ := U
  simp only at *
  clear h
  by_cases h64 : n ≤ 64
  · rw [if_pos h64]
    have HF := Hid.mk' (fun w h => fail_any g d st1 4 w h)
    go_enter Try.func148, Try.ntmps148
    go_wp2_with (first
      | (go_at_call 150; refine (HU.out _ H.out).mono ?_; rintro e w1 ⟨rfl, hr, ht⟩; have HR := Hid.mk' hr; have HT := Hid.mk' ht; clear hr ht)
      | (go_at_call 86; refine (HF.out _ HR.out).mono ?_; rintro e w2 ⟨rfl, hr, ht⟩; have HR2 := Hid.mk' hr; have HT2 := Hid.mk' ht; clear hr ht))
    go_ret
    exact ⟨rfl, HR2.out, HT.out.trans HT2.out⟩
  · rw [if_neg h64]
    have h64' : 64 < n := by omega
    clear h64
    go_enter Try.func148, Try.ntmps148
    go_wp2_with (first
      | (go_at_call 150; refine (HU.out _ H.out).mono ?_; rintro e w1 ⟨rfl, hr, ht⟩; have HR := Hid.mk' hr; have HT := Hid.mk' ht; clear hr ht))
    go_ret
    exact ⟨rfl, HR.out, HT.out⟩

set_option maxRecDepth 100000 in set_option maxHeartbeats 1600000 in
theorem first_same (g d : Nat) (st : RS) (kind : Int) (w : World) (h : RD w g d st) (S : RS) (hb : byteR st = (0, S)) (he : S.e = 0) (hk : kind = 5 ∨ kind = 6) :
    Calls Try.prog 124 #[.pointer (some ⟨g, 0, none⟩), .int .u8 kind] w (CTPost g d w (firstC kind st)) := by
  have H := Hid.mk' h
  have hg := h.lt
  have HB := Hid.mk' (fun w h => rbyte_any g d st w h)
  rw [hb] at HB
  have HER := Hid.mk' (fun w h => rerr_any g d S w h)
  rw [he] at HER
  have HX := Hid.mk' (fun w => texty_yes kind w hk)
  have HO : Hid (firstC kind st = ((⟨1, V.zero⟩, 0), S)) := Hid.mk' (by unfold firstC; rw [hb]; simp only; rw [if_neg (by simpa using he), if_neg (by omega)]; exact if_pos trivial)
  have hB0 := Blk.new w #[.int .u8 0, .int .u8 0, .int .i64 0, .complex .f64 0 0, .string ByteArray.empty] 78
  clear h hb he hk
  go_enter Try.func124, Try.ntmps124
  go_wp2_with (first
    | (go_at_call 122; refine (HB.out _ (H.out.ext (by (repeat (with_reducible (first | exact Ext.refl _ | assumption | exact held_left (by assumption) | apply Ext.drewN | apply Ext.drew | apply Ext.alloc | (refine Ext.setCell ?_ (by first | (simp; done) | (simp; omega) | omega) _) | (refine Ext.trans ?_ (by assumption)) | (refine Ext.trans ?_ (held_left (by assumption))))))))).mono ?_; rintro e w1 ⟨rfl, hr1, ht1⟩; have HR1 := Hid.mk' hr1; have hT1 := hB0.tch ht1 (by omega); have k1 := hT1.cell; have f1 := hT1.frozen; have z1 := hT1.lt; have HT1 : Hid (Tch g w w1) := Hid.mk' (((Tch.refl g w).alloc _).trans ht1); have HB1 := Hid.mk' hT1; clear hr1 ht1 hT1)
    | (go_at_call 52; refine (HER.out _ HR1.out).mono ?_; rintro e w9 ⟨rfl, rfl⟩)
    | (go_at_call 111; refine (HX.out _).mono ?_; rintro e w8 ⟨rfl, rfl⟩))
  refine bodyPost_ret (v := .tuple #[(⟨1, V.zero⟩ : K).agg, .int .i64 (0 : Nat)]) (res_first (Blk.five HB1.out) rfl rfl) rfl ?_
  exact CTPost.mk' ⟨1, V.zero⟩ 0 (by rw [HO.out]) (fun _ => by rw [HO.out]) (RD.five HR1.out hg) (Tch.five HT1.out (Nat.le_refl _))

set_option maxRecDepth 100000 in set_option maxHeartbeats 1600000 in
theorem first_large (g d : Nat) (st : RS) (kind : Int) (w : World) (h : RD w g d st) (S : RS) (hb : byteR st = (2, S)) (he : S.e = 0) (hk : kind = 5 ∨ kind = 6) :
    Calls Try.prog 124 #[.pointer (some ⟨g, 0, none⟩), .int .u8 kind] w (CTPost g d w (firstC kind st)) := by
  have H := Hid.mk' h
  have hg := h.lt
  have HB := Hid.mk' (fun w h => rbyte_any g d st w h)
  rw [hb] at HB
  have HER := Hid.mk' (fun w h => rerr_any g d S w h)
  rw [he] at HER
  have HX := Hid.mk' (fun w => texty_yes kind w hk)
  have HL := Hid.mk' (fun w h => clr_any g d S w h)
  have HO : Hid (firstC kind st = ((fullT kind, (largeR S).1), (largeR S).2)) := Hid.mk' (by unfold firstC; rw [hb]; simp only; rw [if_neg (by simpa using he), if_neg (by omega), if_neg (by decide)]; exact if_pos trivial)
  have hB0 := Blk.new w #[.int .u8 0, .int .u8 0, .int .i64 0, .complex .f64 0 0, .string ByteArray.empty] 78
  generalize largeR S = U at *
  obtain ⟨m, S2⟩ := U
  simp only at HL HO
  clear h hb he hk
  go_enter Try.func124, Try.ntmps124
  go_wp2_with (first
    | (go_at_call 122; refine (HB.out _ (H.out.ext (by (repeat (with_reducible (first | exact Ext.refl _ | assumption | exact held_left (by assumption) | apply Ext.drewN | apply Ext.drew | apply Ext.alloc | (refine Ext.setCell ?_ (by first | (simp; done) | (simp; omega) | omega) _) | (refine Ext.trans ?_ (by assumption)) | (refine Ext.trans ?_ (held_left (by assumption))))))))).mono ?_; rintro e w1 ⟨rfl, hr1, ht1⟩; have HR1 := Hid.mk' hr1; have hT1 := hB0.tch ht1 (by omega); have k1 := hT1.cell; have f1 := hT1.frozen; have z1 := hT1.lt; have HT1 : Hid (Tch g w w1) := Hid.mk' (((Tch.refl g w).alloc _).trans ht1); have HB1 := Hid.mk' hT1; clear hr1 ht1 hT1)
    | (go_at_call 52; refine (HER.out _ HR1.out).mono ?_; rintro e w9 ⟨rfl, rfl⟩)
    | (go_at_call 111; refine (HX.out _).mono ?_; rintro e w8 ⟨rfl, rfl⟩)
    | (go_at_call 64; refine (cof_any kind 0 0 0 ByteArray.empty _).mono ?_; rintro e w7 ⟨rfl, hb7⟩; have hT7 := HB1.out.ext hb7; have HB7 := Hid.mk' hT7; have HR7 := Hid.mk' (HR1.out.ext hb7); have HT7 : Hid (Tch g w w7) := Hid.mk' (HT1.out.trans (Tch.of_ext hb7)); clear hT7)
    | (go_at_call 148; refine (HL.out _ HR7.out).mono ?_; rintro e w2 ⟨rfl, hr2, ht2⟩; have HR2 := Hid.mk' hr2; have hT2 := HB7.out.tch ht2 (by omega); have k2 := hT2.cell; have f2 := hT2.frozen; have z2 := hT2.lt; have HT2 : Hid (Tch g w w2) := Hid.mk' (HT7.out.trans ht2); have HB2 := Hid.mk' hT2; clear hr2 ht2 hT2))
  refine bodyPost_ret (v := .tuple #[(fullT kind).agg, .int .i64 (m : Nat)]) (res_first (Blk.five HB2.out) rfl rfl) rfl ?_
  exact CTPost.mk' (fullT kind) m (by rw [HO.out]) (fun _ => by rw [HO.out]) (RD.five HR2.out hg) (Tch.five HT2.out (Nat.le_refl _))

set_option maxRecDepth 100000 in set_option maxHeartbeats 1600000 in
theorem first_rest (g d : Nat) (st : RS) (kind : Int) (w : World) (h : RD w g d st) (t : Int) (S T : RS) (hb : byteR st = (t, S)) (hk0 : 0 ≤ kind) (hk1 : kind < 256)
    (hc : (S.e ≠ 0 ∧ T = S) ∨ (S.e = 0 ∧ (2 < t ∨ (t ≠ 1 ∧ kind ≠ 5 ∧ kind ≠ 6)) ∧ T = giveS S 7) ∨ (S.e = 0 ∧ t = 1 ∧ T = S))
    (h2 : (firstC kind st).2 = (tailC kind T).2) (h1 : (firstC kind st).2.e = 0 → (firstC kind st).1 = (tailC kind T).1) :
    Calls Try.prog 124 #[.pointer (some ⟨g, 0, none⟩), .int .u8 kind] w (CTPost g d w (firstC kind st)) := by
  have H := Hid.mk' h
  have hg := h.lt
  have HB := Hid.mk' (fun w h => rbyte_any g d st w h)
  rw [hb] at HB
  have HER := Hid.mk' (fun w h => rerr_any g d S w h)
  have HF := Hid.mk' (fun w h => fail_any g d S 7 w h)
  have hB0 := Blk.new w #[.int .u8 0, .int .u8 0, .int .i64 0, .complex .f64 0 0, .string ByteArray.empty] 78
  have HC := Hid.mk' hc
  have H2 := Hid.mk' h2
  have H1 := Hid.mk' h1
  clear h hb hc h1 h2
  go_enter Try.func124, Try.ntmps124
  go_upto_block 0 with (first | (go_at_call 122; refine (HB.out _ (H.out.ext (by (repeat (with_reducible (first | exact Ext.refl _ | assumption | exact held_left (by assumption) | apply Ext.drewN | apply Ext.drew | apply Ext.alloc | (refine Ext.setCell ?_ (by first | (simp; done) | (simp; omega) | omega) _) | (refine Ext.trans ?_ (by assumption)) | (refine Ext.trans ?_ (held_left (by assumption))))))))).mono ?_; rintro e w1 ⟨rfl, hr1, ht1⟩; have HR1 := Hid.mk' hr1; have hT1 := hB0.tch ht1 (by omega); have k1 := hT1.cell; have f1 := hT1.frozen; have z1 := hT1.lt; have HT1 : Hid (Tch g w w1) := Hid.mk' (((Tch.refl g w).alloc _).trans ht1); have HB1 := Hid.mk' hT1; clear hr1 ht1 hT1))
  clear k1 f1 z1
  go_cut [] (fun wx => Hid (RD wx g d T) ∧ Hid (Tch g w wx) ∧ Hid (Blk wx w.heap.size #[.int .u8 0, .int .u8 0, .int .i64 0, .complex .f64 0 0, .string ByteArray.empty] 78))
  case first =>
    as_aux_lemma =>
      rcases HC.out with ⟨he, rfl⟩ | ⟨he, ht, rfl⟩ | ⟨he, rfl, rfl⟩
      · have he2 : (T.e != 0) = true := by simpa using he
        clear he
        go_wp2_with (go_at_call 52; refine (HER.out _ HR1.out).mono ?_; rintro e w9 ⟨rfl, rfl⟩)
        go_meet
        case rel => exact ⟨HR1, HT1, HB1⟩
      · rw [he] at HER
        have hf : failS S 7 = giveS S 7 := by unfold failS; rw [if_pos (by decide)]
        rw [hf] at HF
        clear hf he
        by_cases h3 : 2 < t
        · clear ht
          go_wp2_with (first
            | (go_at_call 52; refine (HER.out _ HR1.out).mono ?_; rintro e w9 ⟨rfl, rfl⟩)
            | (go_at_call 86; refine (HF.out _ HR1.out).mono ?_; rintro e w2 ⟨rfl, hr2, ht2⟩; have HR2 := Hid.mk' hr2; have HT2 := Hid.mk' (HT1.out.trans ht2); have HB2 := Hid.mk' (HB1.out.tch ht2 (by omega)); clear hr2 ht2))
          go_meet
          case rel => exact ⟨HR2, HT2, HB2⟩
        · have ht2 := ht.resolve_left h3
          have htn : (t != 1) = true := by simpa using ht2.1
          have HX := Hid.mk' (fun w => texty_no kind w ht2.2)
          have h3' : t ≤ 2 := by omega
          clear ht ht2 h3
          go_wp2_with (first
            | (go_at_call 52; refine (HER.out _ HR1.out).mono ?_; rintro e w9 ⟨rfl, rfl⟩)
            | (go_at_call 111; refine (HX.out _).mono ?_; rintro e w8 ⟨rfl, rfl⟩)
            | (go_at_call 86; refine (HF.out _ HR1.out).mono ?_; rintro e w2 ⟨rfl, hr2, ht2⟩; have HR2 := Hid.mk' hr2; have HT2 := Hid.mk' (HT1.out.trans ht2); have HB2 := Hid.mk' (HB1.out.tch ht2 (by omega)); clear hr2 ht2))
          go_meet
          case rel => exact ⟨HR2, HT2, HB2⟩
      · rw [he] at HER
        clear he
        go_wp2_with (go_at_call 52; refine (HER.out _ HR1.out).mono ?_; rintro e w9 ⟨rfl, rfl⟩)
        go_meet
        case rel => exact ⟨HR1, HT1, HB1⟩
  case rest =>
    clear HC HER HF HB HR1 HT1 HB1 hB0 H
    obtain ⟨HR1, HT1, HB1⟩ := hcut
    have hok : T.ok := by obtain ⟨_, _, _, hok, _⟩ := HR1.out; exact hok
    have hlen : T.l.length ≤ 1000000 := by obtain ⟨_, _, _, _, hlen⟩ := HR1.out; exact hlen
    by_cases hk : kind = 5 ∨ kind = 6
    · have hto : tailC kind T = textK kind (textR 64 T) := by unfold tailC; rw [if_pos hk]
      have HX := Hid.mk' (fun w => texty_yes kind w hk)
      have HTX := Hid.mk' (fun w h => rtxt_any g d T 64 w h (by decide) (by decide))
      have hsz := textR_len (st := T) 64 hlen
      rw [hto] at H2 H1
      generalize textR 64 T = U at *
      obtain ⟨L, S2⟩ := U
      simp only at HTX hsz
      have hss : (strOfNums L).size ≤ 1000000 := by rw [strOfNums_size]; exact hsz
      generalize hstr : strOfNums L = str at *
      unfold textK at H2 H1
      rw [hstr] at H2 H1
      simp only at H2 H1
      have HVR := Hid.mk' (fun w => vright_any kind 0 0 0 str w (by omega))
      generalize rightV kind 0 ((0 : Nat) : Int) ((0 : Nat) : Int) str = R at *
      have HF := Hid.mk' (fun w h => fail_any g d S2 R w h)
      generalize failS S2 R = S3 at *
      clear hto hok hlen hsz hstr hk
      go_wp2_with (first
        | (go_at_call 111; refine (HX.out _).mono ?_; rintro e w8 ⟨rfl, rfl⟩)
        | (go_at_call 149; refine (HTX.out _ HR1.out).mono ?_; rintro e w2 ⟨rfl, hr2, ht2⟩; have hB2 := HB1.out.tch ht2 (by omega); have hz2 := hB2.lt; have HR2 := Hid.mk' (hr2.ext ((Ext.refl w2).alloc (.cells #[.int .u8 kind, .int .i64 0, .complex .f64 0 0, .string str] 55))); have HT2 : Hid (Tch g w (w2.alloc (.cells #[.int .u8 kind, .int .i64 0, .complex .f64 0 0, .string str] 55))) := Hid.mk' ((HT1.out.trans ht2).alloc _); have HB2 := Hid.mk' (hB2.alloc (.cells #[.int .u8 kind, .int .i64 0, .complex .f64 0 0, .string str] 55)); have HV2 := Hid.mk' (Blk.new w2 #[.int .u8 kind, .int .i64 0, .complex .f64 0 0, .string str] 55); have hg2 := hr2.lt; clear hr2 ht2 hB2)
        | (go_at_call 119; refine (HVR.out _).mono ?_; rintro e w3 ⟨rfl, hb3⟩; have HR3 := Hid.mk' (HR2.out.ext hb3); have HT3 := Hid.mk' (HT2.out.trans (Tch.of_ext hb3)); have HB3 := Hid.mk' (HB2.out.ext hb3); have HV3 := Hid.mk' (HV2.out.ext hb3); clear hb3)
        | (go_at_call 86; refine (HF.out _ HR3.out).mono ?_; rintro e w4 ⟨rfl, hr4, ht4⟩; have HR4 := Hid.mk' hr4; have HT4 := Hid.mk' (HT3.out.trans ht4); have HB4 := Hid.mk' (HB3.out.tch ht4 (by omega)); have hv4 := HV3.out.tch ht4 (by omega); have kv4 := hv4.cell; clear hr4 ht4 hv4)
        | (go_at_call 64; refine (cof_any kind 0 0 0 str _).mono ?_; rintro e w7 ⟨rfl, hb7⟩; have hT7 := HB4.out.ext hb7; have k7 := hT7.cell; have f7 := hT7.frozen; have z7 := hT7.lt; have HB7 := Hid.mk' hT7; have HR7 := Hid.mk' (HR4.out.ext hb7); have HT7 : Hid (Tch g w w7) := Hid.mk' (HT4.out.trans (Tch.of_ext hb7)); clear hT7))
      refine bodyPost_ret (v := .tuple #[(⟨2, ⟨kind, 0, 0, 0, str⟩⟩ : K).agg, .int .i64 (0 : Nat)]) (res_first (Blk.five HB7.out) rfl rfl) rfl ?_
      exact CTPost.mk' ⟨2, ⟨kind, 0, 0, 0, str⟩⟩ 0 H2.out (fun he => (H1.out he).symm) (RD.five HR7.out hg) (Tch.five HT7.out (Nat.le_refl _))
    · have hto : tailC kind T = ((⟨2, (takeV kind 1 T).1⟩, 0), (takeV kind 1 T).2) := by unfold tailC; rw [if_neg hk]
      have HX := Hid.mk' (fun w => texty_no kind w (by omega))
      have HV := Hid.mk' (fun w h => vtake_any g d T kind 1 w h hk0 hk1)
      rw [hto] at H2 H1
      generalize takeV kind 1 T = U at *
      obtain ⟨⟨ty, n, x, y, s⟩, S2⟩ := U
      simp only at HV H2 H1
      clear hto hok hlen hk
      go_wp2_with (first
        | (go_at_call 111; refine (HX.out _).mono ?_; rintro e w8 ⟨rfl, rfl⟩)
        | (go_at_call 126; refine (HV.out _ HR1.out).mono ?_; rintro e w2 ⟨rfl, hr2, ht2⟩; have HR2 := Hid.mk' hr2; have HT2 := Hid.mk' (HT1.out.trans ht2); have HB2 := Hid.mk' (HB1.out.tch ht2 (by omega)); clear hr2 ht2)
        | (go_at_call 64; refine (cof_any _ _ _ _ _ _).mono ?_; rintro e w7 ⟨rfl, hb7⟩; have hT7 := HB2.out.ext hb7; have k7 := hT7.cell; have f7 := hT7.frozen; have z7 := hT7.lt; have HB7 := Hid.mk' hT7; have HR7 := Hid.mk' (HR2.out.ext hb7); have HT7 : Hid (Tch g w w7) := Hid.mk' (HT2.out.trans (Tch.of_ext hb7)); clear hT7))
      refine bodyPost_ret (v := .tuple #[(⟨2, ⟨ty, n, x, y, s⟩⟩ : K).agg, .int .i64 (0 : Nat)]) (res_first (Blk.five HB7.out) rfl rfl) rfl ?_
      exact CTPost.mk' ⟨2, ⟨ty, n, x, y, s⟩⟩ 0 H2.out (fun he => (H1.out he).symm) (RD.five HR7.out hg) (Tch.five HT7.out (Nat.le_refl _))

/-- The program's first cell. -/
theorem first_any (g d : Nat) (st : RS) (kind : Int) (w : World) (h : RD w g d st) (hk0 : 0 ≤ kind) (hk1 : kind < 256) :
    Calls Try.prog 124 #[.pointer (some ⟨g, 0, none⟩), .int .u8 kind] w (CTPost g d w (firstC kind st)) := by
  have hok : st.ok := by obtain ⟨_, _, _, hok, _⟩ := h; exact hok
  obtain ⟨t, S, hb⟩ : ∃ t S, byteR st = (t, S) := ⟨_, _, rfl⟩
  have hSok : S.ok := by have := byteR_ok hok; rw [hb] at this; exact this
  have htr := byteR_rng hok
  rw [hb] at htr
  simp only at htr
  by_cases he : S.e = 0
  · by_cases hbad : 2 < t ∨ (t ≠ 1 ∧ kind ≠ 5 ∧ kind ≠ 6)
    · obtain ⟨e, he2, hg⟩ := giveS_nil (x := 7) (by decide) hSok
      have hF : firstC kind st = ((K.zero, 0), giveS S 7) := by unfold firstC; rw [hb]; simp only; rw [if_neg (by simpa using he), if_pos hbad]
      refine first_rest g d st kind w h t S (giveS S 7) hb hk0 hk1 (.inr (.inl ⟨he, hbad, rfl⟩)) ?_ ?_
      · rw [hF, hg, tailC_gave he2]
      · intro h0; rw [hF, hg] at h0; exact absurd h0 he2
    · have hF : firstC kind st = if t = 0 then ((⟨1, V.zero⟩, 0), S) else if t = 2 then ((fullT kind, (largeR S).1), (largeR S).2) else tailC kind S := by
        unfold firstC tailC; rw [hb]; simp only; rw [if_neg (by simpa using he), if_neg hbad]
      by_cases h0 : t = 0
      · subst h0
        exact first_same g d st kind w h S hb he (by omega)
      · by_cases h2 : t = 2
        · subst h2
          exact first_large g d st kind w h S hb he (by omega)
        · have h1 : t = 1 := by omega
          rw [if_neg h0, if_neg h2] at hF
          refine first_rest g d st kind w h t S S hb hk0 hk1 (.inr (.inr ⟨he, h1, rfl⟩)) (by rw [hF]) (fun _ => by rw [hF])
  · have hF : firstC kind st = ((K.zero, 0), S) := by unfold firstC; rw [hb]; simp only; rw [if_pos he]
    refine first_rest g d st kind w h t S S hb hk0 hk1 (.inl ⟨he, rfl⟩) ?_ ?_
    · rw [hF, gave_form hSok he, tailC_gave he]
    · intro h0; rw [hF] at h0; exact absurd h0 he

end Go.Proofs.Ytdbepkfblfhlhaa
