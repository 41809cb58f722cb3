/-
The reference's Put of a cell.
-/
import Derived.Test.YtmpnopjkpamhaaaRefCell
import Derived.Test.YtmpnopjkpamhaaaCellI
import Derived.Test.YtmpnopjkpamhaaaPutOk
import Derived.Test.YtmpnopjkpamhaaaStep
import Derived.Deep.RegionLaw
namespace Go.Proofs.Ytmpnopjkpamhaaa
open Go.RowKit

def RCPost (k ty n : Int) (x y : Nat) (s : ByteArray) (kind ver : Int) (w : World) (e : Ending) (w' : World) : Prop :=
  ∃ v', e = .returned (.tuple #[v', .int .i64 (errC k ty n x y s kind ver)]) ∧ (errC k ty n x y s kind ver = 0 → OB w' w.heap.size v' (putC k ty n x y s kind ver)) ∧ (errC k ty n x y s kind ver ≠ 0 → v' = .slice none 0 0) ∧ Ext w w'
theorem RCPost.ok {m : List Int} {k ty n : Int} {x y : Nat} {s : ByteArray} {kind ver : Int} {w w' : World} {v' : Value} (he : errC k ty n x y s kind ver = 0) (hm : putC k ty n x y s kind ver = m) (ho : OB w' w.heap.size v' m) (hE : Ext w w') :
    RCPost k ty n x y s kind ver w (.returned (.tuple #[v', .int .i64 0])) w' := by
  subst hm
  exact ⟨v', by rw [he], fun _ => ho, fun h => absurd he h, hE⟩
theorem RCPost.bad {k ty n : Int} {x y : Nat} {s : ByteArray} {kind ver : Int} {w w' : World} {E : Int} (he : errC k ty n x y s kind ver = E) (h0 : E ≠ 0) (hE : Ext w w') :
    RCPost k ty n x y s kind ver w (.returned (.tuple #[.slice none 0 0, .int .i64 E])) w' := by
  subst he
  exact ⟨_, rfl, fun h => absurd h h0, fun _ => rfl, hE⟩

theorem one_blk {w : World} {base : Nat} (x : Int) (h : base ≤ w.heap.size) : OB (w.alloc (.cells #[.int .u8 x] 5)) base (.slice (some ⟨w.heap.size, 0, none⟩) 1 1) [x] := OB.of_blk (l := [x]) (Blk.new w _ _) h rfl (by simp)

set_option maxRecDepth 100000 in set_option maxHeartbeats 1600000 in
theorem rcput_same (ty n : Int) (x y : Nat) (s : ByteArray) (kind ver : Int) (w : World) (hs : s.size ≤ 9223372036854775807) (hv : ver = 1 ∨ ver = 2) (hr : rightC 1 ty n x y s kind = 0) :
    Calls Try.prog 10 #[.agg #[.int .u8 1, .int .u8 ty, .int .i64 n, .int .u64 x, .int .u64 y, .string s], .int .u8 kind, .int .u8 ver] w (RCPost 1 ty n x y s kind ver w) := by
  have HR := Hid.mk' (fun w => rcright_any 1 ty n x y s kind w (by decide) hs)
  rw [hr] at HR
  have HE := Hid.mk' (err_mk hv hr ne_one)
  have HP : Hid (putC 1 ty n x y s kind ver = [0]) := Hid.mk' (by unfold putC; rw [if_pos rfl])
  clear hr
  rcases hv with rfl | rfl
  all_goals
    go_enter Try.func10, Try.ntmps10
    go_wp2_with (go_at_call 12; refine (HR.out _).mono ?_; rintro e w1 ⟨rfl, hb1⟩; have hE1 : Ext w w1 := (by (repeat (with_reducible (first | exact Ext.refl _ | assumption | exact held_left (by assumption) | apply Ext.drewN | apply Ext.drew | apply Ext.alloc | (refine Ext.setCell ?_ (by first | (simp; done) | (simp; omega) | omega) _) | (refine Ext.trans ?_ (by assumption)) | (refine Ext.trans ?_ (held_left (by assumption))))))); have hE_w1 := hb1; obtain ⟨hc_w1, hf_w1⟩ := hE_w1.cells; have hz_w1 := hE_w1.size)
    go_ret2
    exact RCPost.ok HE.out HP.out (one_blk 0 hE1.size) (by (repeat (with_reducible (first | exact Ext.refl _ | assumption | exact held_left (by assumption) | apply Ext.drewN | apply Ext.drew | apply Ext.alloc | (refine Ext.setCell ?_ (by first | (simp; done) | (simp; omega) | omega) _) | (refine Ext.trans ?_ (by assumption)) | (refine Ext.trans ?_ (held_left (by assumption)))))))

set_option maxRecDepth 100000 in set_option maxHeartbeats 1600000 in
theorem rcput_large (ty n : Int) (x y : Nat) (s : ByteArray) (kind ver : Int) (w : World) (hs : s.size ≤ 9223372036854775807) (hv : ver = 1 ∨ ver = 2) (hr : rightC 2 ty n x y s kind = 0) (hL : largeB 2 ty s = true) :
    Calls Try.prog 10 #[.agg #[.int .u8 2, .int .u8 ty, .int .i64 n, .int .u64 x, .int .u64 y, .string s], .int .u8 kind, .int .u8 ver] w (RCPost 2 ty n x y s kind ver w) := by
  have HR := Hid.mk' (fun w => rcright_any 2 ty n x y s kind w (by decide) hs)
  rw [hr] at HR
  have HE := Hid.mk' (err_mk hv hr ne_two)
  have HP := Hid.mk' (putC_large (n := n) (x := x) (y := y) (kind := kind) (ver := ver) hL)
  have HLA := Hid.mk' (fun w => rclarge_any 2 ty n x y s w)
  rw [hL] at HLA
  have HS10 := Hid.mk' (sevens_len10 (x := s.size) (by omega))
  clear hr hL
  rcases hv with rfl | rfl
  all_goals
    go_enter Try.func10, Try.ntmps10
    go_wp2_with (first
      | (go_at_call 12; refine (HR.out _).mono ?_; rintro e w1 ⟨rfl, hb1⟩; have hE1 : Ext w w1 := (by (repeat (with_reducible (first | exact Ext.refl _ | assumption | exact held_left (by assumption) | apply Ext.drewN | apply Ext.drew | apply Ext.alloc | (refine Ext.setCell ?_ (by first | (simp; done) | (simp; omega) | omega) _) | (refine Ext.trans ?_ (by assumption)) | (refine Ext.trans ?_ (held_left (by assumption))))))); have hE_w1 := hb1; obtain ⟨hc_w1, hf_w1⟩ := hE_w1.cells; have hz_w1 := hE_w1.size)
      | (go_at_call 15; refine (HLA.out _).mono ?_; rintro e w2 ⟨rfl, hb2⟩; have hE2 : Ext w w2 := hE1.trans hb2; have hE_w2 := hE_w1.trans hb2; obtain ⟨hc_w2, hf_w2⟩ := hE_w2.cells; have hz_w2 := hE_w2.size; clear hc_w1 hf_w1)
      | (go_at_call 32; refine (ruint_any s.size _ (by omega)).mono ?_; rintro e w3 ⟨v3, rfl, ho3, hb3⟩; have HO3 := Hid.mk' ho3; have HB3 := Hid.mk' hb3; clear ho3 hb3)
      | (at_builtin; refine app_bytes rfl _ _ rfl w.heap.size _ _ rfl ((one_blk _ hE2.size).ext HB3.out) v3 (sevens s.size) rfl (NB.of_own HO3.out) ?c1 ?c2 ?_))
    case c1 => have := HS10.out; simp; omega
    case c2 => have := HB3.out.size; have := hE2.size; simp at *; omega
    intro v4 w4 ho4 hgrow
    have hE4 := OB.grown ((hE2.alloc _).trans HB3.out) ((one_blk _ hE2.size).ext HB3.out) hgrow
    have HO4 := Hid.mk' ho4
    have HE4 := Hid.mk' hE4
    clear ho4 hgrow hE4
    go_wp2
    go_ret2
    exact RCPost.ok HE.out HP.out HO4.out HE4.out

set_option maxRecDepth 100000 in set_option maxHeartbeats 1600000 in
theorem rcput_text (ty n : Int) (x y : Nat) (s : ByteArray) (kind : Int) (w : World) (hs : s.size ≤ 9223372036854775807) (hr : rightC 2 ty n x y s kind = 0) (hL : largeB 2 ty s = false) (hk : kind = 5 ∨ kind = 6) :
    Calls Try.prog 10 #[.agg #[.int .u8 2, .int .u8 ty, .int .i64 n, .int .u64 x, .int .u64 y, .string s], .int .u8 kind, .int .u8 2] w (RCPost 2 ty n x y s kind 2 w) := by
  have HR := Hid.mk' (fun w => rcright_any 2 ty n x y s kind w (by decide) hs)
  rw [hr] at HR
  have HE := Hid.mk' (err_mk (.inr rfl) hr ne_two)
  have HP : Hid (putC 2 ty n x y s kind 2 = sevens (s.size + 2) ++ strL s) := Hid.mk' (by rw [putC_small hL, if_pos rfl, if_pos hk])
  have HLA := Hid.mk' (fun w => rclarge_any 2 ty n x y s w)
  rw [hL] at HLA
  have HX := Hid.mk' (fun w => rtexty_yes kind w hk)
  have hs2 : s.size ≤ 2048 := (right_zero (right_full hr).1).2.2.1
  have hw : IntKind.u64.wrap ((s.size : Int) + 2) = ((s.size + 2 : Nat) : Int) := by rw [u64_wrap]; omega
  have HS10 := Hid.mk' (sevens_len10 (x := s.size + 2) (by omega))
  clear hr hL hk
  go_enter Try.func10, Try.ntmps10
  go_upto_region 15 with (first
    | (go_at_call 12; refine (HR.out _).mono ?_; rintro e w1 ⟨rfl, hb1⟩; have hE1 : Ext w w1 := (by (repeat (with_reducible (first | exact Ext.refl _ | assumption | exact held_left (by assumption) | apply Ext.drewN | apply Ext.drew | apply Ext.alloc | (refine Ext.setCell ?_ (by first | (simp; done) | (simp; omega) | omega) _) | (refine Ext.trans ?_ (by assumption)) | (refine Ext.trans ?_ (held_left (by assumption))))))); have hE_w1 := hb1; obtain ⟨hc_w1, hf_w1⟩ := hE_w1.cells; have hz_w1 := hE_w1.size)
    | (go_at_call 15; refine (HLA.out _).mono ?_; rintro e w2 ⟨rfl, hb2⟩; have hE2 : Ext w w2 := hE1.trans hb2; have hE_w2 := hE_w1.trans hb2; obtain ⟨hc_w2, hf_w2⟩ := hE_w2.cells; have hz_w2 := hE_w2.size; clear hc_w1 hf_w1)
    | (go_at_call 33; refine (HX.out _).mono ?_; rintro e w9 ⟨rfl, rfl⟩))
  have HS : Hid (∀ w', Ext w2 w' → Ext w2 w' ∧ w'.cell? ⟨w.heap.size, 5, none⟩ = some (.string s)) := Hid.mk' (fun w' h => ⟨h, by rw [(hE_w2.trans h).cells.1 _ _ (by simp), (Blk.new w #[.int .u8 2, .int .u8 ty, .int .i64 n, .int .u64 x, .int .u64 y, .string s] 26).cell 5]; rfl⟩)
  have HE2 := Hid.mk' hE2
  clear hE1 hE2 hE_w1 hE_w2 hc_w2 hf_w2 hb1 hb2
  have hld : ∀ w', Ext w2 w' → w'.cell? ⟨w.heap.size, 5, none⟩ = some (.string s) := fun w' h => (HS.out w' h).2
  have HLD := Hid.mk' hld
  have l0 := hld _ ((Ext.refl w2).drew)
  clear hld HS
  have hcv := fun w => conv_str w s
  go_region_law
    (first
      | (go_simp; go_at_call 32; refine (ruint_any (s.size + 2) _ (by omega)).mono ?_; rintro e w3 ⟨v3, rfl, ho3, hb3⟩; have hb3' : Ext w2 w3 := (by (repeat (with_reducible (first | exact Ext.refl _ | assumption | apply Ext.drew | apply Ext.conv | (refine Ext.trans ?_ (by assumption)))))); have HO3 := Hid.mk' (ho3.base (Ext.size (by (repeat (with_reducible (first | exact Ext.refl _ | assumption | apply Ext.drew | apply Ext.conv | (refine Ext.trans ?_ (by assumption))))) : Ext w2 _))); have l3 := HLD.out _ hb3'; clear ho3)
      | (refine step_app_nb (by rfl) _ _ (by rfl) w2.heap.size _ _ (by rfl) (HO3.out.ext (by (repeat (with_reducible (first | exact Ext.refl _ | assumption | apply Ext.drew | apply Ext.conv | (refine Ext.trans ?_ (by assumption))))))) _ (strL s) (by rfl) (nb_conv (by (repeat (with_reducible (first | exact Ext.refl _ | assumption | apply Ext.drew | apply Ext.conv | (refine Ext.trans ?_ (by assumption))))))) (by have := HS10.out; rw [strL_len]; omega) (Ext.size (by (repeat (with_reducible (first | exact Ext.refl _ | assumption | apply Ext.drew | apply Ext.conv | (refine Ext.trans ?_ (by assumption))))) : Ext w2 _)) ?_; intro v5 w5 ho5 hgrow; have hE5 : Ext w2 w5 := OB.grown (by (repeat (with_reducible (first | exact Ext.refl _ | assumption | apply Ext.drew | apply Ext.conv | (refine Ext.trans ?_ (by assumption)))))) (HO3.out.ext (by (repeat (with_reducible (first | exact Ext.refl _ | assumption | apply Ext.drew | apply Ext.conv | (refine Ext.trans ?_ (by assumption))))))) hgrow; have HO5 := Hid.mk' ho5; have HE5 := Hid.mk' hE5; clear ho5 hgrow)
      | (refine step_app_nb (by rfl) _ _ (by rfl) w2.heap.size _ _ (by rfl) (HO3.out.ext (by (repeat (with_reducible (first | exact Ext.refl _ | assumption | apply Ext.drew | apply Ext.conv | (refine Ext.trans ?_ (by assumption))))))) _ (strL s) (by rfl) (nb_conv (w := w2.drew) (by (repeat (with_reducible (first | exact Ext.refl _ | assumption | apply Ext.drew | apply Ext.conv | (refine Ext.trans ?_ (by assumption))))))) (by have := HS10.out; rw [strL_len]; omega) (Ext.size (by (repeat (with_reducible (first | exact Ext.refl _ | assumption | apply Ext.drew | apply Ext.conv | (refine Ext.trans ?_ (by assumption))))) : Ext w2 _)) ?_; intro v5 w5 ho5 hgrow; have hE5 : Ext w2 w5 := OB.grown (by (repeat (with_reducible (first | exact Ext.refl _ | assumption | apply Ext.drew | apply Ext.conv | (refine Ext.trans ?_ (by assumption)))))) (HO3.out.ext (by (repeat (with_reducible (first | exact Ext.refl _ | assumption | apply Ext.drew | apply Ext.conv | (refine Ext.trans ?_ (by assumption))))))) hgrow; have HO5 := Hid.mk' ho5; have HE5 := Hid.mk' hE5; clear ho5 hgrow))
  all_goals
    go_wp2
    go_ret2
    exact RCPost.ok HE.out HP.out (HO5.out.base HE2.out.size) (HE2.out.trans HE5.out)

set_option maxRecDepth 100000 in set_option maxHeartbeats 1600000 in
theorem rcput_two (ty n : Int) (x y : Nat) (s : ByteArray) (kind : Int) (w : World) (hs : s.size ≤ 9223372036854775807)
    (hn : -9223372036854775808 ≤ n ∧ n < 9223372036854775808) (hx : x < 2 ^ 64) (hy : y < 2 ^ 64) (hr : rightC 2 ty n x y s kind = 0) (hL : largeB 2 ty s = false) (hk : kind ≠ 5 ∧ kind ≠ 6) :
    Calls Try.prog 10 #[.agg #[.int .u8 2, .int .u8 ty, .int .i64 n, .int .u64 x, .int .u64 y, .string s], .int .u8 kind, .int .u8 2] w (RCPost 2 ty n x y s kind 2 w) := by
  have HR := Hid.mk' (fun w => rcright_any 2 ty n x y s kind w (by decide) hs)
  rw [hr] at HR
  have HE := Hid.mk' (err_mk (.inr rfl) hr ne_two)
  have HP : Hid (putC 2 ty n x y s kind 2 = putL ty n x y s 2) := Hid.mk' (by rw [putC_small hL, if_pos rfl, if_neg (by omega)])
  have HLA := Hid.mk' (fun w => rclarge_any 2 ty n x y s w)
  rw [hL] at HLA
  have HX := Hid.mk' (fun w => rtexty_no kind w hk)
  have eV : errV ty n x y s 2 = 0 := by unfold errV; rw [if_pos (.inr rfl)]; exact (right_full hr).1
  have HVP := Hid.mk' (fun (w : World) => rput_ok ty n x y s 2 w eV hn hx hy hs)
  clear hr hL hk hn hx hy eV
  go_enter Try.func10, Try.ntmps10
  go_wp2_with (first
    | (go_at_call 12; refine (HR.out _).mono ?_; rintro e w1 ⟨rfl, hb1⟩; have hE1 : Ext w w1 := (by (repeat (with_reducible (first | exact Ext.refl _ | assumption | exact held_left (by assumption) | apply Ext.drewN | apply Ext.drew | apply Ext.alloc | (refine Ext.setCell ?_ (by first | (simp; done) | (simp; omega) | omega) _) | (refine Ext.trans ?_ (by assumption)) | (refine Ext.trans ?_ (held_left (by assumption))))))); have hE_w1 := hb1; obtain ⟨hc_w1, hf_w1⟩ := hE_w1.cells; have hz_w1 := hE_w1.size)
    | (go_at_call 15; refine (HLA.out _).mono ?_; rintro e w2 ⟨rfl, hb2⟩; have hE2 : Ext w w2 := hE1.trans hb2; have hE_w2 := hE_w1.trans hb2; obtain ⟨hc_w2, hf_w2⟩ := hE_w2.cells; have hz_w2 := hE_w2.size; clear hc_w1 hf_w1)
    | (go_at_call 33; refine (HX.out _).mono ?_; rintro e w9 ⟨rfl, rfl⟩)
    | (go_at_call 34; refine (HVP.out _).mono ?_; rintro e w3 ⟨v3, rfl, ho3, hb3⟩; have HO3 := Hid.mk' (ho3.base hE2.size); have HE3 : Hid (Ext w w3) := Hid.mk' (hE2.trans hb3); clear ho3 hb3))
  go_ret2
  exact RCPost.ok HE.out HP.out HO3.out HE3.out

set_option maxRecDepth 100000 in set_option maxHeartbeats 1600000 in
theorem rcput_one (ty n : Int) (x y : Nat) (s : ByteArray) (kind : Int) (w : World) (hs : s.size ≤ 9223372036854775807)
    (hn : -9223372036854775808 ≤ n ∧ n < 9223372036854775808) (hx : x < 2 ^ 64) (hy : y < 2 ^ 64) (hr : rightC 2 ty n x y s kind = 0) (hL : largeB 2 ty s = false) :
    Calls Try.prog 10 #[.agg #[.int .u8 2, .int .u8 ty, .int .i64 n, .int .u64 x, .int .u64 y, .string s], .int .u8 kind, .int .u8 1] w (RCPost 2 ty n x y s kind 1 w) := by
  have HR := Hid.mk' (fun w => rcright_any 2 ty n x y s kind w (by decide) hs)
  rw [hr] at HR
  have HE := Hid.mk' (err_mk (.inl rfl) hr ne_two)
  have HP : Hid (putC 2 ty n x y s kind 1 = [1] ++ putL ty n x y s 1) := Hid.mk' (by rw [putC_small hL, if_neg (by decide)]; rfl)
  have HLA := Hid.mk' (fun w => rclarge_any 2 ty n x y s w)
  rw [hL] at HLA
  have eV : errV ty n x y s 1 = 0 := by unfold errV; rw [if_pos (.inl rfl)]; exact (right_full hr).1
  have HVP := Hid.mk' (fun (w : World) => rput_ok ty n x y s 1 w eV hn hx hy hs)
  have HPL := Hid.mk' (putL_len eV hn)
  clear hr hL hn hx hy eV
  go_enter Try.func10, Try.ntmps10
  go_wp2_with (first
    | (go_at_call 12; refine (HR.out _).mono ?_; rintro e w1 ⟨rfl, hb1⟩; have hE1 : Ext w w1 := (by (repeat (with_reducible (first | exact Ext.refl _ | assumption | exact held_left (by assumption) | apply Ext.drewN | apply Ext.drew | apply Ext.alloc | (refine Ext.setCell ?_ (by first | (simp; done) | (simp; omega) | omega) _) | (refine Ext.trans ?_ (by assumption)) | (refine Ext.trans ?_ (held_left (by assumption))))))); have hE_w1 := hb1; obtain ⟨hc_w1, hf_w1⟩ := hE_w1.cells; have hz_w1 := hE_w1.size)
    | (go_at_call 15; refine (HLA.out _).mono ?_; rintro e w2 ⟨rfl, hb2⟩; have hE2 : Ext w w2 := hE1.trans hb2; have hE_w2 := hE_w1.trans hb2; obtain ⟨hc_w2, hf_w2⟩ := hE_w2.cells; have hz_w2 := hE_w2.size; clear hc_w1 hf_w1)
    | (go_at_call 34; refine (HVP.out _).mono ?_; rintro e w3 ⟨v3, rfl, ho3, hb3⟩; have HO3 := Hid.mk' ho3; have HE3 : Hid (Ext w w3) := Hid.mk' (hE2.trans hb3); clear ho3 hb3)
    | (at_builtin; refine app_bytes rfl _ _ rfl w.heap.size _ _ rfl (one_blk _ HE3.out.size) v3 _ rfl (NB.of_own (HO3.out.alloc _)) ?c1 ?c2 ?_))
  case c1 => have := HPL.out; simp; omega
  case c2 => have := HE3.out.size; simp; omega
  intro v4 w4 ho4 hgrow
  have hE4 := OB.grown (HE3.out.alloc _) (one_blk _ HE3.out.size) hgrow
  have HO4 := Hid.mk' ho4
  have HE4 := Hid.mk' hE4
  clear ho4 hgrow hE4
  go_wp2
  go_ret2
  exact RCPost.ok HE.out HP.out HO4.out HE4.out

set_option maxRecDepth 100000 in set_option maxHeartbeats 1600000 in
theorem rcput_null (ty n : Int) (x y : Nat) (s : ByteArray) (kind ver : Int) (w : World) (hs : s.size ≤ 9223372036854775807) (hv : ver = 1 ∨ ver = 2) (hr : rightC 0 ty n x y s kind = 0) :
    Calls Try.prog 10 #[.agg #[.int .u8 0, .int .u8 ty, .int .i64 n, .int .u64 x, .int .u64 y, .string s], .int .u8 kind, .int .u8 ver] w (RCPost 0 ty n x y s kind ver w) := by
  have HR := Hid.mk' (fun w => rcright_any 0 ty n x y s kind w (by decide) hs)
  rw [hr] at HR
  have HE : Hid (errC 0 ty n x y s kind ver = 12) := Hid.mk' (by unfold errC; rw [if_pos hv, if_neg (by simpa using hr), if_pos rfl])
  clear hr
  rcases hv with rfl | rfl
  all_goals
    go_enter Try.func10, Try.ntmps10
    go_wp2_with (go_at_call 12; refine (HR.out _).mono ?_; rintro e w1 ⟨rfl, hb1⟩; have hE1 : Ext w w1 := (by (repeat (with_reducible (first | exact Ext.refl _ | assumption | exact held_left (by assumption) | apply Ext.drewN | apply Ext.drew | apply Ext.alloc | (refine Ext.setCell ?_ (by first | (simp; done) | (simp; omega) | omega) _) | (refine Ext.trans ?_ (by assumption)) | (refine Ext.trans ?_ (held_left (by assumption))))))); have hE_w1 := hb1; obtain ⟨hc_w1, hf_w1⟩ := hE_w1.cells; have hz_w1 := hE_w1.size)
    go_ret2
    exact RCPost.bad HE.out (by decide) hE1

set_option maxRecDepth 100000 in set_option maxHeartbeats 1600000 in
theorem rcput_wrong (k ty n : Int) (x y : Nat) (s : ByteArray) (kind ver : Int) (w : World) (hs : s.size ≤ 9223372036854775807) (hk0 : 0 ≤ k) (hr : rightC k ty n x y s kind ≠ 0 ∨ ¬ (ver = 1 ∨ ver = 2)) :
    Calls Try.prog 10 #[.agg #[.int .u8 k, .int .u8 ty, .int .i64 n, .int .u64 x, .int .u64 y, .string s], .int .u8 kind, .int .u8 ver] w (RCPost k ty n x y s kind ver w) := by
  by_cases hv : ver = 1 ∨ ver = 2
  · have hr0 : rightC k ty n x y s kind ≠ 0 := hr.resolve_right (fun h => h hv)
    have HR := Hid.mk' (fun w => rcright_any k ty n x y s kind w hk0 hs)
    have HE : Hid (errC k ty n x y s kind ver = rightC k ty n x y s kind) := Hid.mk' (by unfold errC; rw [if_pos hv, if_pos hr0])
    generalize rightC k ty n x y s kind = R at *
    have hR2 : (R != 0) = true := by simpa using hr0
    have HR0 := Hid.mk' hr0
    clear hr0 hr
    rcases hv with rfl | rfl
    all_goals
      go_enter Try.func10, Try.ntmps10
      go_wp2_with (go_at_call 12; refine (HR.out _).mono ?_; rintro e w1 ⟨rfl, hb1⟩; have hE1 : Ext w w1 := (by (repeat (with_reducible (first | exact Ext.refl _ | assumption | exact held_left (by assumption) | apply Ext.drewN | apply Ext.drew | apply Ext.alloc | (refine Ext.setCell ?_ (by first | (simp; done) | (simp; omega) | omega) _) | (refine Ext.trans ?_ (by assumption)) | (refine Ext.trans ?_ (held_left (by assumption))))))); have hE_w1 := hb1; obtain ⟨hc_w1, hf_w1⟩ := hE_w1.cells; have hz_w1 := hE_w1.size)
      go_ret2
      exact RCPost.bad HE.out HR0.out hE1
  · have HE : Hid (errC k ty n x y s kind ver = 18) := Hid.mk' (by unfold errC; rw [if_neg hv])
    have h1 : (ver != 1) = true := by simp; omega
    have h2 : (ver != 2) = true := by simp; omega
    clear hr hv
    go_enter Try.func10, Try.ntmps10
    go_wp2
    go_ret2
    exact RCPost.bad HE.out (by decide) (by (repeat (with_reducible (first | exact Ext.refl _ | assumption | exact held_left (by assumption) | apply Ext.drewN | apply Ext.drew | apply Ext.alloc | (refine Ext.setCell ?_ (by first | (simp; done) | (simp; omega) | omega) _) | (refine Ext.trans ?_ (by assumption)) | (refine Ext.trans ?_ (held_left (by assumption)))))))

/-- The reference's Put of a cell. -/
theorem rcput_any (k ty n : Int) (x y : Nat) (s : ByteArray) (kind ver : Int) (w : World) (hk0 : 0 ≤ k)
    (hn : -9223372036854775808 ≤ n ∧ n < 9223372036854775808) (hx : x < 2 ^ 64) (hy : y < 2 ^ 64) (hs : s.size ≤ 9223372036854775807) :
    Calls Try.prog 10 #[.agg #[.int .u8 k, .int .u8 ty, .int .i64 n, .int .u64 x, .int .u64 y, .string s], .int .u8 kind, .int .u8 ver] w (RCPost k ty n x y s kind ver w) := by
  by_cases hr : rightC k ty n x y s kind = 0
  · by_cases hv : ver = 1 ∨ ver = 2
    · have hk2 : k ≤ 2 := by unfold rightC at hr; (repeat' split at hr) <;> first | omega | (exfalso; omega)
      have hk : k = 0 ∨ k = 1 ∨ k = 2 := by omega
      rcases hk with rfl | rfl | rfl
      · exact rcput_null ty n x y s kind ver w hs hv hr
      · exact rcput_same ty n x y s kind ver w hs hv hr
      · cases hL : largeB 2 ty s with
        | true => exact rcput_large ty n x y s kind ver w hs hv hr hL
        | false =>
          rcases hv with rfl | rfl
          · exact rcput_one ty n x y s kind w hs hn hx hy hr hL
          · by_cases hk : kind = 5 ∨ kind = 6
            · exact rcput_text ty n x y s kind w hs hr hL hk
            · exact rcput_two ty n x y s kind w hs hn hx hy hr hL (by omega)
    · exact rcput_wrong k ty n x y s kind ver w hs hk0 (.inr hv)
  · exact rcput_wrong k ty n x y s kind ver w hs hk0 (.inl hr)
theorem rcput_ok (k ty n : Int) (x y : Nat) (s : ByteArray) (kind ver : Int) (w : World) (h : errC k ty n x y s kind ver = 0) (hk0 : 0 ≤ k)
    (hn : -9223372036854775808 ≤ n ∧ n < 9223372036854775808) (hx : x < 2 ^ 64) (hy : y < 2 ^ 64) (hs : s.size ≤ 9223372036854775807) :
    Calls Try.prog 10 #[.agg #[.int .u8 k, .int .u8 ty, .int .i64 n, .int .u64 x, .int .u64 y, .string s], .int .u8 kind, .int .u8 ver] w fun e w' => ∃ v', e = .returned (.tuple #[v', .int .i64 0]) ∧ OB w' w.heap.size v' (putC k ty n x y s kind ver) ∧ Ext w w' := by
  refine (rcput_any k ty n x y s kind ver w hk0 hn hx hy hs).mono ?_
  rintro e w' ⟨v', rfl, h1, h2, h3⟩
  exact ⟨v', by rw [h], h1 h, h3⟩
theorem rcput_bad (k ty n : Int) (x y : Nat) (s : ByteArray) (kind ver : Int) (w : World) (h : errC k ty n x y s kind ver ≠ 0) (hk0 : 0 ≤ k)
    (hn : -9223372036854775808 ≤ n ∧ n < 9223372036854775808) (hx : x < 2 ^ 64) (hy : y < 2 ^ 64) (hs : s.size ≤ 9223372036854775807) :
    Calls Try.prog 10 #[.agg #[.int .u8 k, .int .u8 ty, .int .i64 n, .int .u64 x, .int .u64 y, .string s], .int .u8 kind, .int .u8 ver] w fun e w' => e = .returned (.tuple #[.slice none 0 0, .int .i64 (errC k ty n x y s kind ver)]) ∧ Ext w w' := by
  refine (rcput_any k ty n x y s kind ver w hk0 hn hx hy hs).mono ?_
  rintro e w' ⟨v', rfl, h1, h2, h3⟩
  exact ⟨by rw [h2 h], h3⟩

end Go.Proofs.Ytmpnopjkpamhaaa
