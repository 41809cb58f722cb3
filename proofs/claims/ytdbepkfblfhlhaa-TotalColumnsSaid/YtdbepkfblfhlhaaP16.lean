/-
The reference's Put of a cell.
-/
import Derived.Deep.RegionLaw
import Derived.Laws.AppendOwnNone
import Derived.Test.YtdbepkfblfhlhaaP15
namespace Go.Proofs.Ytdbepkfblfhlhaa
open Go.RowKit

def RCPost (k ty n : Int) (x y : Nat) (s : ByteArray) (kind ver : Int) (w : World) (e : Ending) (w' : World) : Prop :=
  ∃ v', e = .returned (.tuple #[v', .int .i64 (errC k ty n x y s kind ver)]) ∧ (errC k ty n x y s kind ver = 0 → OB w' w.heap.size v' (putC k ty n x y s kind ver)) ∧ (errC k ty n x y s kind ver ≠ 0 → v' = .slice none 0 0) ∧ Ext w w'
theorem RCPost.ok {m : List Int} {k ty n : Int} {x y : Nat} {s : ByteArray} {kind ver : Int} {w w' : World} {v' : Value} (he : errC k ty n x y s kind ver = 0) (hm : putC k ty n x y s kind ver = m) (ho : OB w' w.heap.size v' m) (hE : Ext w w') :
    RCPost k ty n x y s kind ver w (.returned (.tuple #[v', .int .i64 0])) w' := by
  subst hm
  exact ⟨v', by rw [he], fun _ => ho, fun h => absurd he h, hE⟩
theorem RCPost.bad {k ty n : Int} {x y : Nat} {s : ByteArray} {kind ver : Int} {w w' : World} {E : Int} (he : errC k ty n x y s kind ver = E) (h0 : E ≠ 0) (hE : Ext w w') :
    RCPost k ty n x y s kind ver w (.returned (.tuple #[.slice none 0 0, .int .i64 E])) w' := by
  subst he
  exact ⟨_, rfl, fun h => absurd h h0, fun _ => rfl, hE⟩

theorem one_blk {w : World} {base : Nat} (x : Int) (h : base ≤ w.heap.size) : OB (w.alloc (.cells #[.int .u8 x] 5)) base (.slice (some ⟨w.heap.size, 0, none⟩) 1 1) [x] := OB.of_blk (l := [x]) (Blk.new w _ _) h rfl (by simp)

set_option maxRecDepth 100000 in set_option maxHeartbeats 1600000 in
theorem rcput_same (ty n : Int) (x y : Nat) (s : ByteArray) (kind ver : Int) (w : World) (hs : s.size ≤ 9223372036854775807) (hv : ver = 1 ∨ ver = 2) (hr : rightC 1 ty n x y s kind = 0) :
    Calls Try.prog 80 #[.agg #[.int .u8 1, .int .u8 ty, .int .i64 n, .int .u64 x, .int .u64 y, .string s], .int .u8 kind, .int .u8 ver] w (RCPost 1 ty n x y s kind ver w) := by
  have HR := Hid.mk' (fun w => rcright_any 1 ty n x y s kind w (by decide) hs)
  rw [hr] at HR
  have HE := Hid.mk' (err_mk hv hr ne_one)
  have HP : Hid (putC 1 ty n x y s kind ver = [0]) := Hid.mk' (by unfold putC; rw [if_pos rfl])
  clear hr
  rcases hv with rfl | rfl
  all_goals
    go_enter Try.func80, Try.ntmps80
    go_wp2_with (go_at_call 84; refine (HR.out _).mono ?_; rintro e w1 ⟨rfl, hb1⟩; have hE1 : Ext w w1 := (by (repeat (with_reducible (first | exact Ext.refl _ | assumption | exact held_left (by assumption) | apply Ext.drewN | apply Ext.drew | apply Ext.alloc | (refine Ext.setCell ?_ (by first | (simp; done) | (simp; omega) | omega) _) | (refine Ext.trans ?_ (by assumption)) | (refine Ext.trans ?_ (held_left (by assumption))))))); have hE_w1 := hb1; obtain ⟨hc_w1, hf_w1⟩ := hE_w1.cells; have hz_w1 := hE_w1.size)
    go_ret2
    exact RCPost.ok HE.out HP.out (one_blk 0 hE1.size) (by (repeat (with_reducible (first | exact Ext.refl _ | assumption | exact held_left (by assumption) | apply Ext.drewN | apply Ext.drew | apply Ext.alloc | (refine Ext.setCell ?_ (by first | (simp; done) | (simp; omega) | omega) _) | (refine Ext.trans ?_ (by assumption)) | (refine Ext.trans ?_ (held_left (by assumption)))))))

set_option maxRecDepth 100000 in set_option maxHeartbeats 1600000 in
theorem rcput_large (ty n : Int) (x y : Nat) (s : ByteArray) (kind ver : Int) (w : World) (hs : s.size ≤ 9223372036854775807) (hv : ver = 1 ∨ ver = 2) (hr : rightC 2 ty n x y s kind = 0) (hL : largeB 2 ty s = true) :
    Calls Try.prog 80 #[.agg #[.int .u8 2, .int .u8 ty, .int .i64 n, .int .u64 x, .int .u64 y, .string s], .int .u8 kind, .int .u8 ver] w (RCPost 2 ty n x y s kind ver w) := by
  have HR := Hid.mk' (fun w => rcright_any 2 ty n x y s kind w (by decide) hs)
  rw [hr] at HR
  have HE := Hid.mk' (err_mk hv hr ne_two)
  have HP := Hid.mk' (putC_large (n := n) (x := x) (y := y) (kind := kind) (ver := ver) hL)
  have HLA := Hid.mk' (fun w => rclarge_any 2 ty n x y s w)
  rw [hL] at HLA
  have HS10 := Hid.mk' (sevens_len10 (x := s.size) (by omega))
  clear hr hL
  rcases hv with rfl | rfl
  all_goals
    go_enter Try.func80, Try.ntmps80
    go_wp2_with (first
      | (go_at_call 84; refine (HR.out _).mono ?_; rintro e w1 ⟨rfl, hb1⟩; have hE1 : Ext w w1 := (by (repeat (with_reducible (first | exact Ext.refl _ | assumption | exact held_left (by assumption) | apply Ext.drewN | apply Ext.drew | apply Ext.alloc | (refine Ext.setCell ?_ (by first | (simp; done) | (simp; omega) | omega) _) | (refine Ext.trans ?_ (by assumption)) | (refine Ext.trans ?_ (held_left (by assumption))))))); have hE_w1 := hb1; obtain ⟨hc_w1, hf_w1⟩ := hE_w1.cells; have hz_w1 := hE_w1.size)
      | (go_at_call 81; refine (HLA.out _).mono ?_; rintro e w2 ⟨rfl, hb2⟩; have hE2 : Ext w w2 := hE1.trans hb2; have hE_w2 := hE_w1.trans hb2; obtain ⟨hc_w2, hf_w2⟩ := hE_w2.cells; have hz_w2 := hE_w2.size; clear hc_w1 hf_w1)
      | (go_at_call 114; refine (ruint_any s.size _ (by omega)).mono ?_; rintro e w3 ⟨v3, rfl, ho3, hb3⟩; have HO3 := Hid.mk' ho3; have HB3 := Hid.mk' hb3; clear ho3 hb3)
      | (at_builtin; refine app_bytes rfl _ _ rfl w.heap.size _ _ rfl ((one_blk _ hE2.size).ext HB3.out) v3 (sevens s.size) rfl (NB.of_own HO3.out) ?c1 ?c2 ?_))
    case c1 => have := HS10.out; simp; omega
    case c2 => have := HB3.out.size; have := hE2.size; simp at *; omega
    intro v4 w4 ho4 hgrow
    have hE4 := OB.grown ((hE2.alloc _).trans HB3.out) ((one_blk _ hE2.size).ext HB3.out) hgrow
    have HO4 := Hid.mk' ho4
    have HE4 := Hid.mk' hE4
    clear ho4 hgrow hE4
    go_wp2
    go_ret2
    exact RCPost.ok HE.out HP.out HO4.out HE4.out

set_option maxRecDepth 100000 in set_option maxHeartbeats 1600000 in
theorem rcput_text (ty n : Int) (x y : Nat) (s : ByteArray) (kind : Int) (w : World) (hs : s.size ≤ 9223372036854775807) (hr : rightC 2 ty n x y s kind = 0) (hL : largeB 2 ty s = false) (hk : kind = 5 ∨ kind = 6) :
    Calls Try.prog 80 #[.agg #[.int .u8 2, .int .u8 ty, .int .i64 n, .int .u64 x, .int .u64 y, .string s], .int .u8 kind, .int .u8 2] w (RCPost 2 ty n x y s kind 2 w) := by
  have HR := Hid.mk' (fun w => rcright_any 2 ty n x y s kind w (by decide) hs)
  rw [hr] at HR
  have HE := Hid.mk' (err_mk (.inr rfl) hr ne_two)
  have HP : Hid (putC 2 ty n x y s kind 2 = sevens (s.size + 2) ++ strL s) := Hid.mk' (by rw [putC_small hL, if_pos rfl, if_pos hk])
  have HLA := Hid.mk' (fun w => rclarge_any 2 ty n x y s w)
  rw [hL] at HLA
  have HX := Hid.mk' (fun w => rtexty_yes kind w hk)
  have hs2 : s.size ≤ 2048 := (right_zero (right_full hr).1).2.2.1
  have hw : IntKind.u64.wrap ((s.size : Int) + 2) = ((s.size + 2 : Nat) : Int) := by rw [u64_wrap]; omega
  have HS10 := Hid.mk' (sevens_len10 (x := s.size + 2) (by omega))
  clear hr hL hk
  go_enter Try.func80, Try.ntmps80
  go_upto_region 15 with (first
    | (go_at_call 84; refine (HR.out _).mono ?_; rintro e w1 ⟨rfl, hb1⟩; have hE1 : Ext w w1 := (by (repeat (with_reducible (first | exact Ext.refl _ | assumption | exact held_left (by assumption) | apply Ext.drewN | apply Ext.drew | apply Ext.alloc | (refine Ext.setCell ?_ (by first | (simp; done) | (simp; omega) | omega) _) | (refine Ext.trans ?_ (by assumption)) | (refine Ext.trans ?_ (held_left (by assumption))))))); have hE_w1 := hb1; obtain ⟨hc_w1, hf_w1⟩ := hE_w1.cells; have hz_w1 := hE_w1.size)
    | (go_at_call 81; refine (HLA.out _).mono ?_; rintro e w2 ⟨rfl, hb2⟩; have hE2 : Ext w w2 := hE1.trans hb2; have hE_w2 := hE_w1.trans hb2; obtain ⟨hc_w2, hf_w2⟩ := hE_w2.cells; have hz_w2 := hE_w2.size; clear hc_w1 hf_w1)
    | (go_at_call 115; refine (HX.out _).mono ?_; rintro e w9 ⟨rfl, rfl⟩))
  have HS : Hid (∀ w', Ext w2 w' → Ext w2 w' ∧ w'.cell? ⟨w.heap.size, 5, none⟩ = some (.string s)) := Hid.mk' (fun w' h => ⟨h, by rw [(hE_w2.trans h).cells.1 _ _ (by simp), (Blk.new w #[.int .u8 2, .int .u8 ty, .int .i64 n, .int .u64 x, .int .u64 y, .string s] 121).cell 5]; rfl⟩)
  have HE2 := Hid.mk' hE2
  clear hE1 hE2 hE_w1 hE_w2 hc_w2 hf_w2 hb1 hb2
  have hld : ∀ w', Ext w2 w' → w'.cell? ⟨w.heap.size, 5, none⟩ = some (.string s) := fun w' h => (HS.out w' h).2
  have HLD := Hid.mk' hld
  have l0 := hld _ ((Ext.refl w2).drew)
  clear hld HS
  have hcv := fun w => conv_str w s
  go_region_law
    (first
      | (go_simp; go_at_call 114; refine (ruint_any (s.size + 2) _ (by omega)).mono ?_; rintro e w3 ⟨v3, rfl, ho3, hb3⟩; have hb3' : Ext w2 w3 := (by (repeat (with_reducible (first | exact Ext.refl _ | assumption | apply Ext.drew | apply Ext.conv | (refine Ext.trans ?_ (by assumption)))))); have HO3 := Hid.mk' (ho3.base (Ext.size (by (repeat (with_reducible (first | exact Ext.refl _ | assumption | apply Ext.drew | apply Ext.conv | (refine Ext.trans ?_ (by assumption))))) : Ext w2 _))); have l3 := HLD.out _ hb3'; clear ho3)
      | (refine step_app_nb (by rfl) _ _ (by rfl) w2.heap.size _ _ (by rfl) (HO3.out.ext (by (repeat (with_reducible (first | exact Ext.refl _ | assumption | apply Ext.drew | apply Ext.conv | (refine Ext.trans ?_ (by assumption))))))) _ (strL s) (by rfl) (nb_conv (by (repeat (with_reducible (first | exact Ext.refl _ | assumption | apply Ext.drew | apply Ext.conv | (refine Ext.trans ?_ (by assumption))))))) (by have := HS10.out; rw [strL_len]; omega) (Ext.size (by (repeat (with_reducible (first | exact Ext.refl _ | assumption | apply Ext.drew | apply Ext.conv | (refine Ext.trans ?_ (by assumption))))) : Ext w2 _)) ?_; intro v5 w5 ho5 hgrow; have hE5 : Ext w2 w5 := OB.grown (by (repeat (with_reducible (first | exact Ext.refl _ | assumption | apply Ext.drew | apply Ext.conv | (refine Ext.trans ?_ (by assumption)))))) (HO3.out.ext (by (repeat (with_reducible (first | exact Ext.refl _ | assumption | apply Ext.drew | apply Ext.conv | (refine Ext.trans ?_ (by assumption))))))) hgrow; have HO5 := Hid.mk' ho5; have HE5 := Hid.mk' hE5; clear ho5 hgrow)
      | (refine step_app_nb (by rfl) _ _ (by rfl) w2.heap.size _ _ (by rfl) (HO3.out.ext (by (repeat (with_reducible (first | exact Ext.refl _ | assumption | apply Ext.drew | apply Ext.conv | (refine Ext.trans ?_ (by assumption))))))) _ (strL s) (by rfl) (nb_conv (w := w2.drew) (by (repeat (with_reducible (first | exact Ext.refl _ | assumption | apply Ext.drew | apply Ext.conv | (refine Ext.trans ?_ (by assumption))))))) (by have := HS10.out; rw [strL_len]; omega) (Ext.size (by (repeat (with_reducible (first | exact Ext.refl _ | assumption | apply Ext.drew | apply Ext.conv | (refine Ext.trans ?_ (by assumption))))) : Ext w2 _)) ?_; intro v5 w5 ho5 hgrow; have hE5 : Ext w2 w5 := OB.grown (by (repeat (with_reducible (first | exact Ext.refl _ | assumption | apply Ext.drew | apply Ext.conv | (refine Ext.trans ?_ (by assumption)))))) (HO3.out.ext (by (repeat (with_reducible (first | exact Ext.refl _ | assumption | apply Ext.drew | apply Ext.conv | (refine Ext.trans ?_ (by assumption))))))) hgrow; have HO5 := Hid.mk' ho5; have HE5 := Hid.mk' hE5; clear ho5 hgrow))
  all_goals
    go_wp2
    go_ret2
    exact RCPost.ok HE.out HP.out (HO5.out.base HE2.out.size) (HE2.out.trans HE5.out)

set_option maxRecDepth 100000 in set_option maxHeartbeats 1600000 in
theorem rcput_two (ty n : Int) (x y : Nat) (s : ByteArray) (kind : Int) (w : World) (hs : s.size ≤ 9223372036854775807)
    (hn : -9223372036854775808 ≤ n ∧ n < 9223372036854775808) (hx : x < 2 ^ 64) (hy : y < 2 ^ 64) (hr : rightC 2 ty n x y s kind = 0) (hL : largeB 2 ty s = false) (hk : kind ≠ 5 ∧ kind ≠ 6) :
    Calls Try.prog 80 #[.agg #[.int .u8 2, .int .u8 ty, .int .i64 n, .int .u64 x, .int .u64 y, .string s], .int .u8 kind, .int .u8 2] w (RCPost 2 ty n x y s kind 2 w) := by
  have HR := Hid.mk' (fun w => rcright_any 2 ty n x y s kind w (by decide) hs)
  rw [hr] at HR
  have HE := Hid.mk' (err_mk (.inr rfl) hr ne_two)
  have HP : Hid (putC 2 ty n x y s kind 2 = putL ty n x y s 2) := Hid.mk' (by rw [putC_small hL, if_pos rfl, if_neg (by omega)])
  have HLA := Hid.mk' (fun w => rclarge_any 2 ty n x y s w)
  rw [hL] at HLA
  have HX := Hid.mk' (fun w => rtexty_no kind w hk)
  have eV : errV ty n x y s 2 = 0 := by unfold errV; rw [if_pos (.inr rfl)]; exact (right_full hr).1
  have HVP := Hid.mk' (fun (w : World) => rput_ok ty n x y s 2 w eV hn hx hy hs)
  clear hr hL hk hn hx hy eV
  go_enter Try.func80, Try.ntmps80
  go_wp2_with (first
    | (go_at_call 84; refine (HR.out _).mono ?_; rintro e w1 ⟨rfl, hb1⟩; have hE1 : Ext w w1 := (by (repeat (with_reducible (first | exact Ext.refl _ | assumption | exact held_left (by assumption) | apply Ext.drewN | apply Ext.drew | apply Ext.alloc | (refine Ext.setCell ?_ (by first | (simp; done) | (simp; omega) | omega) _) | (refine Ext.trans ?_ (by assumption)) | (refine Ext.trans ?_ (held_left (by assumption))))))); have hE_w1 := hb1; obtain ⟨hc_w1, hf_w1⟩ := hE_w1.cells; have hz_w1 := hE_w1.size)
    | (go_at_call 81; refine (HLA.out _).mono ?_; rintro e w2 ⟨rfl, hb2⟩; have hE2 : Ext w w2 := hE1.trans hb2; have hE_w2 := hE_w1.trans hb2; obtain ⟨hc_w2, hf_w2⟩ := hE_w2.cells; have hz_w2 := hE_w2.size; clear hc_w1 hf_w1)
    | (go_at_call 115; refine (HX.out _).mono ?_; rintro e w9 ⟨rfl, rfl⟩)
    | (go_at_call 116; refine (HVP.out _).mono ?_; rintro e w3 ⟨v3, rfl, ho3, hb3⟩; have HO3 := Hid.mk' (ho3.base hE2.size); have HE3 : Hid (Ext w w3) := Hid.mk' (hE2.trans hb3); clear ho3 hb3))
  go_ret2
  exact RCPost.ok HE.out HP.out HO3.out HE3.out

set_option maxRecDepth 100000 in set_option maxHeartbeats 1600000 in
theorem rcput_one (ty n : Int) (x y : Nat) (s : ByteArray) (kind : Int) (w : World) (hs : s.size ≤ 9223372036854775807)
    (hn : -9223372036854775808 ≤ n ∧ n < 9223372036854775808) (hx : x < 2 ^ 64) (hy : y < 2 ^ 64) (hr : rightC 2 ty n x y s kind = 0) (hL : largeB 2 ty s = false) :
    Calls Try.prog 80 #[.agg #[.int .u8 2, .int .u8 ty, .int .i64 n, .int .u64 x, .int .u64 y, .string s], .int .u8 kind, .int .u8 1] w (RCPost 2 ty n x y s kind 1 w) := by
  have HR := Hid.mk' (fun w => rcright_any 2 ty n x y s kind w (by decide) hs)
  rw [hr] at HR
  have HE := Hid.mk' (err_mk (.inl rfl) hr ne_two)
  have HP : Hid (putC 2 ty n x y s kind 1 = [1] ++ putL ty n x y s 1) := Hid.mk' (by rw [putC_small hL, if_neg (by decide)]; rfl)
  have HLA := Hid.mk' (fun w => rclarge_any 2 ty n x y s w)
  rw [hL] at HLA
  have eV : errV ty n x y s 1 = 0 := by unfold errV; rw [if_pos (.inl rfl)]; exact (right_full hr).1
  have HVP := Hid.mk' (fun (w : World) => rput_ok ty n x y s 1 w eV hn hx hy hs)
  have HPL := Hid.mk' (putL_len eV hn)
  clear hr hL hn hx hy eV
  go_enter Try.func80, Try.ntmps80
  go_wp2_with (first
    | (go_at_call 84; refine (HR.out _).mono ?_; rintro e w1 ⟨rfl, hb1⟩; have hE1 : Ext w w1 := (by (repeat (with_reducible (first | exact Ext.refl _ | assumption | exact held_left (by assumption) | apply Ext.drewN | apply Ext.drew | apply Ext.alloc | (refine Ext.setCell ?_ (by first | (simp; done) | (simp; omega) | omega) _) | (refine Ext.trans ?_ (by assumption)) | (refine Ext.trans ?_ (held_left (by assumption))))))); have hE_w1 := hb1; obtain ⟨hc_w1, hf_w1⟩ := hE_w1.cells; have hz_w1 := hE_w1.size)
    | (go_at_call 81; refine (HLA.out _).mono ?_; rintro e w2 ⟨rfl, hb2⟩; have hE2 : Ext w w2 := hE1.trans hb2; have hE_w2 := hE_w1.trans hb2; obtain ⟨hc_w2, hf_w2⟩ := hE_w2.cells; have hz_w2 := hE_w2.size; clear hc_w1 hf_w1)
    | (go_at_call 116; refine (HVP.out _).mono ?_; rintro e w3 ⟨v3, rfl, ho3, hb3⟩; have HO3 := Hid.mk' ho3; have HE3 : Hid (Ext w w3) := Hid.mk' (hE2.trans hb3); clear ho3 hb3)
    | (at_builtin; refine app_bytes rfl _ _ rfl w.heap.size _ _ rfl (one_blk _ HE3.out.size) v3 _ rfl (NB.of_own (HO3.out.alloc _)) ?c1 ?c2 ?_))
  case c1 => have := HPL.out; simp; omega
  case c2 => have := HE3.out.size; simp; omega
  intro v4 w4 ho4 hgrow
  have hE4 := OB.grown (HE3.out.alloc _) (one_blk _ HE3.out.size) hgrow
  have HO4 := Hid.mk' ho4
  have HE4 := Hid.mk' hE4
  clear ho4 hgrow hE4
  go_wp2
  go_ret2
  exact RCPost.ok HE.out HP.out HO4.out HE4.out

set_option maxRecDepth 100000 in set_option maxHeartbeats 1600000 in
theorem rcput_null (ty n : Int) (x y : Nat) (s : ByteArray) (kind ver : Int) (w : World) (hs : s.size ≤ 9223372036854775807) (hv : ver = 1 ∨ ver = 2) (hr : rightC 0 ty n x y s kind = 0) :
    Calls Try.prog 80 #[.agg #[.int .u8 0, .int .u8 ty, .int .i64 n, .int .u64 x, .int .u64 y, .string s], .int .u8 kind, .int .u8 ver] w (RCPost 0 ty n x y s kind ver w) := by
  have HR := Hid.mk' (fun w => rcright_any 0 ty n x y s kind w (by decide) hs)
  rw [hr] at HR
  have HE : Hid (errC 0 ty n x y s kind ver = 12) := Hid.mk' (by unfold errC; rw [if_pos hv, if_neg (by simpa using hr), if_pos rfl])
  clear hr
  rcases hv with rfl | rfl
  all_goals
    go_enter Try.func80, Try.ntmps80
    go_wp2_with (go_at_call 84; refine (HR.out _).mono ?_; rintro e w1 ⟨rfl, hb1⟩; have hE1 : Ext w w1 := (by (repeat (with_reducible (first | exact Ext.refl _ | assumption | exact held_left (by assumption) | apply Ext.drewN | apply Ext.drew | apply Ext.alloc | (refine Ext.setCell ?_ (by first | (simp; done) | (simp; omega) | omega) _) | (refine Ext.trans ?_ (by assumption)) | (refine Ext.trans ?_ (held_left (by assumption))))))); have hE_w1 := hb1; obtain ⟨hc_w1, hf_w1⟩ := hE_w1.cells; have hz_w1 := hE_w1.size)
    go_ret2
    exact RCPost.bad HE.out (by decide) hE1

set_option maxRecDepth 100000 in set_option maxHeartbeats 1600000 in
theorem rcput_wrong (k ty n : Int) (x y : Nat) (s : ByteArray) (kind ver : Int) (w : World) (hs : s.size ≤ 9223372036854775807) (hk0 : 0 ≤ k) (hr : rightC k ty n x y s kind ≠ 0 ∨ ¬ (ver = 1 ∨ ver = 2)) :
    Calls Try.prog 80 #[.agg #[.int .u8 k, .int .u8 ty, .int .i64 n, .int .u64 x, .int .u64 y, .string s], .int .u8 kind, .int .u8 ver] w (RCPost k ty n x y s kind ver w) := by
  by_cases hv : ver = 1 ∨ ver = 2
  · have hr0 : rightC k ty n x y s kind ≠ 0 := hr.resolve_right (fun h => h hv)
    have HR := Hid.mk' (fun w => rcright_any k ty n x y s kind w hk0 hs)
    have HE : Hid (errC k ty n x y s kind ver = rightC k ty n x y s kind) := Hid.mk' (by unfold errC; rw [if_pos hv, if_pos hr0])
    generalize rightC k ty n x y s kind = R at *
    have hR2 : (R != 0) = true := by simpa using hr0
    have HR0 := Hid.mk' hr0
    clear hr0 hr
    rcases hv with rfl | rfl
    all_goals
      go_enter Try.func80, Try.ntmps80
      go_wp2_with (go_at_call 84; refine (HR.out _).mono ?_; rintro e w1 ⟨rfl, hb1⟩; have hE1 : Ext w w1 := (by (repeat (with_reducible (first | exact Ext.refl _ | assumption | exact held_left (by assumption) | apply Ext.drewN | apply Ext.drew | apply Ext.alloc | (refine Ext.setCell ?_ (by first | (simp; done) | (simp; omega) | omega) _) | (refine Ext.trans ?_ (by assumption)) | (refine Ext.trans ?_ (held_left (by assumption))))))); have hE_w1 := hb1; obtain ⟨hc_w1, hf_w1⟩ := hE_w1.cells; have hz_w1 := hE_w1.size)
      go_ret2
      exact RCPost.bad HE.out HR0.out hE1
  · have HE : Hid (errC k ty n x y s kind ver = 18) := Hid.mk' (by unfold errC; rw [if_neg hv])
    have h1 : (ver != 1) = true := by simp; omega
    have h2 : (ver != 2) = true := by simp; omega
    clear hr hv
    go_enter Try.func80, Try.ntmps80
    go_wp2
    go_ret2
    exact RCPost.bad HE.out (by decide) (by (repeat (with_reducible (first | exact Ext.refl _ | assumption | exact held_left (by assumption) | apply Ext.drewN | apply Ext.drew | apply Ext.alloc | (refine Ext.setCell ?_ (by first | (simp; done) | (simp; omega) | omega) _) | (refine Ext.trans ?_ (by assumption)) | (refine Ext.trans ?_ (held_left (by assumption)))))))

/-- The reference's Put of a cell. -/
theorem rcput_any (k ty n : Int) (x y : Nat) (s : ByteArray) (kind ver : Int) (w : World) (hk0 : 0 ≤ k)
    (hn : -9223372036854775808 ≤ n ∧ n < 9223372036854775808) (hx : x < 2 ^ 64) (hy : y < 2 ^ 64) (hs : s.size ≤ 9223372036854775807) :
    Calls Try.prog 80 #[.agg #[.int .u8 k, .int .u8 ty, .int .i64 n, .int .u64 x, .int .u64 y, .string s], .int .u8 kind, .int .u8 ver] w (RCPost k ty n x y s kind ver w) := by
  by_cases hr : rightC k ty n x y s kind = 0
  · by_cases hv : ver = 1 ∨ ver = 2
    · have hk2 : k ≤ 2 := by unfold rightC at hr; (repeat' split at hr) <;> first | omega | (exfalso; omega)
      have hk : k = 0 ∨ k = 1 ∨ k = 2 := by omega
      rcases hk with rfl | rfl | rfl
      · exact rcput_null ty n x y s kind ver w hs hv hr
      · exact rcput_same ty n x y s kind ver w hs hv hr
      · cases hL : largeB 2 ty s with
        | true => exact rcput_large ty n x y s kind ver w hs hv hr hL
        | false =>
          rcases hv with rfl | rfl
          · exact rcput_one ty n x y s kind w hs hn hx hy hr hL
          · by_cases hk : kind = 5 ∨ kind = 6
            · exact rcput_text ty n x y s kind w hs hr hL hk
            · exact rcput_two ty n x y s kind w hs hn hx hy hr hL (by omega)
    · exact rcput_wrong k ty n x y s kind ver w hs hk0 (.inr hv)
  · exact rcput_wrong k ty n x y s kind ver w hs hk0 (.inl hr)
theorem rcput_ok (k ty n : Int) (x y : Nat) (s : ByteArray) (kind ver : Int) (w : World) (h : errC k ty n x y s kind ver = 0) (hk0 : 0 ≤ k)
    (hn : -9223372036854775808 ≤ n ∧ n < 9223372036854775808) (hx : x < 2 ^ 64) (hy : y < 2 ^ 64) (hs : s.size ≤ 9223372036854775807) :
    Calls Try.prog 80 #[.agg #[.int .u8 k, .int .u8 ty, .int .i64 n, .int .u64 x, .int .u64 y, .string s], .int .u8 kind, .int .u8 ver] w fun e w' => ∃ v', e = .returned (.tuple #[v', .int .i64 0]) ∧ OB w' w.heap.size v' (putC k ty n x y s kind ver) ∧ Ext w w' := by
  refine (rcput_any k ty n x y s kind ver w hk0 hn hx hy hs).mono ?_
  rintro e w' ⟨v', rfl, h1, h2, h3⟩
  exact ⟨v', by rw [h], h1 h, h3⟩
theorem rcput_bad (k ty n : Int) (x y : Nat) (s : ByteArray) (kind ver : Int) (w : World) (h : errC k ty n x y s kind ver ≠ 0) (hk0 : 0 ≤ k)
    (hn : -9223372036854775808 ≤ n ∧ n < 9223372036854775808) (hx : x < 2 ^ 64) (hy : y < 2 ^ 64) (hs : s.size ≤ 9223372036854775807) :
    Calls Try.prog 80 #[.agg #[.int .u8 k, .int .u8 ty, .int .i64 n, .int .u64 x, .int .u64 y, .string s], .int .u8 kind, .int .u8 ver] w fun e w' => e = .returned (.tuple #[.slice none 0 0, .int .i64 (errC k ty n x y s kind ver)]) ∧ Ext w w' := by
  refine (rcput_any k ty n x y s kind ver w hk0 hn hx hy hs).mono ?_
  rintro e w' ⟨v', rfl, h1, h2, h3⟩
  exact ⟨by rw [h2 h], h3⟩

end Go.Proofs.Ytdbepkfblfhlhaa

/-
A row's bytes: the reference's Pack and Encode.
-/
namespace Go.Proofs.Ytdbepkfblfhlhaa
open Go.RowKit


theorem OB.of_part {w : World} {g : Nat} {l m : List Int} {base n c : Nat} (h : Blk w g (bs m).toArray 5) (hb : base ≤ g) (hl : l = m.take n) (hn : n ≤ m.length) (hc : c = m.length) (hm : m.length ≤ 1000000) : OB w base (.slice (some ⟨g, 0, none⟩) n c) l := by
  subst hl hc
  have e : (m.take n).length = n := by rw [List.length_take]; omega
  unfold OB
  rw [e]
  refine ⟨by rw [bs_len, e, Nat.mul_one], .inr ⟨g, m.length, (bs m).toArray, rfl, hb, h, hn, by unfold maxLen; omega, by simp [bs], ?_⟩⟩
  rw [Nat.mul_one, List.toList_toArray]
  simp [bs, List.map_take]
theorem map_two {l : List Bool} (h : l.length ≤ 16) : mapL l = [((bitsN l % 256 : Nat) : Int), ((bitsN l / 256 : Nat) : Int)].take (mapSize l.length) := by
  have hb := bitsN_lt l
  have h2 : 2 ^ l.length ≤ 65536 := Nat.le_trans (Nat.pow_le_pow_right (by decide) h) (by decide)
  unfold mapL
  have hs : mapSize l.length = 0 ∨ mapSize l.length = 1 ∨ mapSize l.length = 2 := by unfold mapSize; omega
  have hd : bitsN l / 256 % 256 = bitsN l / 256 := Nat.mod_eq_of_lt (by omega)
  rcases hs with e | e | e
  · rw [e]; rfl
  · rw [e]; simp [List.range_succ]
  · rw [e]; simp [List.range_succ]
    omega

set_option maxRecDepth 100000 in set_option maxHeartbeats 4000000 in
theorem rpack_any (l : List Bool) (a : Option Addr) (cap : Nat) (w : World) (hl : Sl w (.slice a l.length cap) 1 (l.map boolC)) (h16 : l.length ≤ 16) :
    Calls Try.prog 79 #[.slice a l.length cap] w fun e w' => ∃ v', e = .returned (.tuple #[v', .int .i64 0]) ∧ OB w' w.heap.size v' (mapL l) ∧ Ext w w' := by
  have HZ := Hid.mk' (fun w => rmsize_any l.length w h16)
  have hs2 : mapSize l.length ≤ 2 := by unfold mapSize; omega
  have HL := Hid.mk' hl
  clear hl
  go_enter Try.func79, Try.ntmps79
  go_wp2
  go_loopw [4, 5] (fun n i wr => ∃ j : Nat, j ≤ l.length ∧ i = .int .i64 ((j : Int) - 1) ∧ n = .int .i64 (bitsN (l.drop j) : Nat) ∧ Hid (Ext w wr)) (fun _ i _ => (intOf i + 1).toNat)
  case atStart => exact ⟨l.length, Nat.le_refl _, rfl, by rw [List.drop_length]; rfl, Hid.mk' (Ext.refl _)⟩
  case round =>
    obtain ⟨j, hj, rfl, rfl, hE⟩ := hrel
    have hbd := bitsN_lt (l.drop j)
    rw [List.length_drop] at hbd
    have hp : 2 ^ (l.length - j) ≤ 65536 := Nat.le_trans (Nat.pow_le_pow_right (by decide) (show l.length - j ≤ 16 by omega)) (by decide)
    by_cases h0 : 0 < j
    · obtain ⟨k, rfl⟩ : ∃ k, j = k + 1 := ⟨j - 1, by omega⟩
      have hlt : k < l.length := by omega
      obtain ⟨b, o, rfl, hb, hx⟩ := HL.out.at_ (i := k) (by simpa using hlt)
      have f0 := boolC_at hlt hx hb hE.out
      have hbw : b < wr.heap.size := Nat.lt_of_lt_of_le hb hE.out.size
      have HD := Hid.mk' (show bitsN (l.drop k) = l[k].toNat + 2 * bitsN (l.drop (k + 1)) by rw [List.drop_eq_getElem_cons hlt, bitsN])
      obtain ⟨N, hN⟩ : ∃ N, N = bitsN (l.drop (k + 1)) := ⟨_, rfl⟩
      rw [← hN] at hbd HD ⊢
      have hN2 : N < 65536 := by omega
      have hki : ((k + 1 : Nat) : Int) - 1 = (k : Int) := by omega
      rw [hki]
      clear hx hN hp hbd
      cases hq : l[k] with
      | false =>
        rw [hq] at f0 HD
        clear hq
        go_wp2
        go_roundw
        case rel => exact ⟨k, by omega, by go_num, by first | (rw [HD.out]; done) | (rw [HD.out]; simp; done) | (rw [HD.out]; simp; omega), hE⟩
        case measure => first | (simp [intOf]; done) | (simp [intOf]; omega)
      | true =>
        rw [hq] at f0 HD
        clear hq
        go_wp2
        go_roundw
        case rel => exact ⟨k, by omega, by go_num, by first | (rw [HD.out]; done) | (rw [HD.out]; simp; done) | (rw [HD.out]; simp; omega), hE⟩
        case measure => first | (simp [intOf]; done) | (simp [intOf]; omega)
    · obtain rfl : j = 0 := by omega
      rw [List.drop_zero] at hbd ⊢
      have HM := Hid.mk' (map_two h16)
      obtain ⟨N, hN⟩ : ∃ N, N = bitsN l := ⟨_, rfl⟩
      rw [← hN] at hbd HM ⊢
      have hN2 : N < 65536 := by omega
      clear hN hp hbd
      have hw1 : IntKind.u8.wrap ((N : Int) % 256) = ((N % 256 : Nat) : Int) := by rw [u8_wrap']; omega
      have hw2 : IntKind.u8.wrap ((N : Int) / 256) = ((N / 256 : Nat) : Int) := by rw [u8_wrap']; omega
      go_wp2_with (go_at_call 91; refine (HZ.out _).mono ?_; rintro e w1 ⟨rfl, rfl⟩)
      go_ret2
      exact ⟨_, rfl, OB.of_part (m := [((N % 256 : Nat) : Int), ((N / 256 : Nat) : Int)]) (Blk.new _ _ _) hE.out.size HM.out (by simpa using hs2) rfl (by simp), hE.out.alloc _⟩

set_option maxRecDepth 100000 in set_option maxHeartbeats 4000000 in
theorem rencode_any (l : List K) (a : Option Addr) (cap : Nat) (oid ver : Int) (nm : ByteArray) (id : Int) (cols : List Col) (a2 : Option Addr) (cap2 : Nat) (version : Int) (w : World) (hl : Sl w (.slice a l.length cap) 6 (l.map K.rc)) (hl2 : Sl w (.slice a2 cols.length cap2) 3 (cols.map Col.cells))
    (hlen : l.length ≤ 1000) (hlen2 : cols.length ≤ 1000) (hs : ∀ c ∈ l, c.tw) (hs2 : ∀ c ∈ cols, c.nm.size ≤ 9223372036854775807) (hnm : nm.size ≤ 9223372036854775807) :
    Calls Try.prog 39 #[.slice a l.length cap, .agg #[.int .u32 oid, .int .u32 ver, .string nm, .int .u8 id, .slice a2 cols.length cap2], .int .u8 version] w (EncPost l (⟨oid, ver, nm, id, cols⟩ : Rl) version w) := by
  obtain ⟨i0, hi, hz0, hz1, hz2⟩ := info_parts Try.infoBool
  have HF := Hid.mk' (fun W (h : Ext w W) => rfits_any l a cap oid ver nm id cols a2 cap2 W (hl.ext h) (hl2.ext h) hlen hlen2 (fun c hc => (hs c hc).towk) hs2 hnm)
  have HOK := Hid.mk' (fun h hv => RowOk.of (l := l) (r := (⟨oid, ver, nm, id, cols⟩ : Rl)) (ver := version) h hv hs)
  have HEE : Hid (encE l (⟨oid, ver, nm, id, cols⟩ : Rl) version = if version = 1 ∨ version = 2 then fitsE l (⟨oid, ver, nm, id, cols⟩ : Rl) else 18) := Hid.mk' rfl
  have HL := Hid.mk' hl
  have HL2 := Hid.mk' hl2
  have HS := Hid.mk' hs
  clear hl hl2 hs hs2 hnm
  by_cases hv : version = 1 ∨ version = 2
  case neg =>
    have HE := Hid.mk' (HEE.out.trans (if_neg hv))
    have hv1 : (version != 1) = true := by simp; omega
    have hv2 : (version != 2) = true := by simp; omega
    clear hv HEE
    go_enter Try.func39, Try.ntmps39
    go_wp2
    go_ret2
    exact EncPost.bad HE.out (by decide) (by (repeat (with_reducible (first | exact Ext.refl _ | assumption | exact held_left (by assumption) | apply Ext.drewN | apply Ext.drew | apply Ext.alloc | (refine Ext.setCell ?_ (by first | (simp; done) | (simp; omega) | omega) _) | (refine Ext.trans ?_ (by assumption)) | (refine Ext.trans ?_ (held_left (by assumption)))))))
  have HE := Hid.mk' (HEE.out.trans (if_pos hv))
  have HV := Hid.mk' hv
  clear HEE
  obtain ⟨E, hE0⟩ : ∃ E, E = fitsE l (⟨oid, ver, nm, id, cols⟩ : Rl) := ⟨_, rfl⟩
  rw [← hE0] at HF HE HOK
  by_cases h0 : E = 0
  case neg =>
    have h0' : (E != 0) = true := by simpa using h0
    have H0 := Hid.mk' h0
    clear h0 hE0 HOK
    rcases hv with rfl | rfl
    all_goals
      go_enter Try.func39, Try.ntmps39
      go_wp2_with (go_at_call 43; refine (HF.out _ (by (repeat (with_reducible (first | exact Ext.refl _ | assumption | exact held_left (by assumption) | apply Ext.drewN | apply Ext.drew | apply Ext.alloc | (refine Ext.setCell ?_ (by first | (simp; done) | (simp; omega) | omega) _) | (refine Ext.trans ?_ (by assumption)) | (refine Ext.trans ?_ (held_left (by assumption)))))))).mono ?_; rintro e w1 ⟨rfl, hb1⟩; have hE1 : Ext w w1 := (by (repeat (with_reducible (first | exact Ext.refl _ | assumption | exact held_left (by assumption) | apply Ext.drewN | apply Ext.drew | apply Ext.alloc | (refine Ext.setCell ?_ (by first | (simp; done) | (simp; omega) | omega) _) | (refine Ext.trans ?_ (by assumption)) | (refine Ext.trans ?_ (held_left (by assumption))))))))
      go_ret2
      exact EncPost.bad HE.out H0.out hE1
  subst h0
  have hok := HOK.out rfl HV.out
  have hn16 := hok.n16
  have hnl : l.length = cols.length := hok.len
  have HK := Hid.mk' hok
  have HP := Hid.mk' (fun W a c h => rpack_any (nullsL l) a c W h (by rw [nullsL_len]; exact hn16))
  rw [nullsL_len] at HP
  have hlt0 : l.length ≤ cols.length := by omega
  have HNL := Hid.mk' hnl
  clear hok hnl HOK hE0
  rcases hv with rfl | rfl
  · go_enter Try.func39, Try.ntmps39
    go_wp2_with (go_at_call 43; refine (HF.out _ (by (repeat (with_reducible (first | exact Ext.refl _ | assumption | exact held_left (by assumption) | apply Ext.drewN | apply Ext.drew | apply Ext.alloc | (refine Ext.setCell ?_ (by first | (simp; done) | (simp; omega) | omega) _) | (refine Ext.trans ?_ (by assumption)) | (refine Ext.trans ?_ (held_left (by assumption)))))))).mono ?_; rintro e w1 ⟨rfl, hb1⟩; have hE1 := Hid.mk' (show Ext (w.alloc (.cells #[.int .u32 oid, .int .u32 ver, .string nm, .int .u8 id, .slice a2 cols.length cap2] 27)) w1 by (repeat (with_reducible (first | exact Ext.refl _ | assumption | exact held_left (by assumption) | apply Ext.drewN | apply Ext.drew | apply Ext.alloc | (refine Ext.setCell ?_ (by first | (simp; done) | (simp; omega) | omega) _) | (refine Ext.trans ?_ (by assumption)) | (refine Ext.trans ?_ (held_left (by assumption))))))); have hEw1 : Ext w w1 := (by (repeat (with_reducible (first | exact Ext.refl _ | assumption | exact held_left (by assumption) | apply Ext.drewN | apply Ext.drew | apply Ext.alloc | (refine Ext.setCell ?_ (by first | (simp; done) | (simp; omega) | omega) _) | (refine Ext.trans ?_ (by assumption)) | (refine Ext.trans ?_ (held_left (by assumption))))))); clear hb1)
    go_loopw [9, 10] (fun v i wr => ∃ k : Nat, k ≤ l.length ∧ i = .int .i64 k ∧ Hid (wr.ownsRow (w.heap.size + 1) 4 1 v k (((nullsL l).map boolC).take k).flatten) ∧ Hid (Ext (w.alloc (.cells #[.int .u32 oid, .int .u32 ver, .string nm, .int .u8 id, .slice a2 cols.length cap2] 27)) wr)) (fun _ i _ => l.length - (intOf i).toNat)
    case atStart => exact ⟨0, Nat.zero_le _, rfl, World.ownsRow_nil _ _ _ _, hE1⟩
    case round =>
      obtain ⟨k, hk, rfl, hown, hE⟩ := hrel
      have hEw : Ext w wr := ((Ext.refl w).alloc _).trans hE.out
      by_cases hlt : k < l.length
      · obtain ⟨b, o, rfl, hb, hx⟩ := HL.out.at_ (i := k) (by simpa using hlt)
        obtain ⟨f0, -⟩ := K.rcAt hlt hx hb hEw
        have hbw : b < wr.heap.size := Nat.lt_of_lt_of_le hb hEw.size
        have HT := Hid.mk' (flat_snoc (f := boolC) (l := nullsL l) (k := k) (by rw [nullsL_len]; exact hlt))
        have hnk : (nullsL l)[k]'(by rw [nullsL_len]; exact hlt) = decide (l[k].k = 0) := by simp [nullsL]
        rw [hnk] at HT
        obtain ⟨c, hc⟩ : ∃ c, c = l[k].k := ⟨_, rfl⟩
        rw [← hc] at f0 HT
        have hdk : (c == 0) = decide (c = 0) := by by_cases h : c = 0 <;> simp [h]
        obtain ⟨q, hq⟩ : ∃ q, q = decide (c = 0) := ⟨_, rfl⟩
        rw [← hq] at HT hdk
        clear hc hx hnk hq
        go_wp2_with (at_builtin; refine wpList_append_own _ rfl _ _ 148 rfl (w.heap.size + 1) 4 i0 _ 1 1 Try.underlying148 hi hz0 hz1 hz2 rfl (by decide) _ _ _ rfl (hown.out.alloc _) ⟨_, 0, none⟩ 1 1 (boolC q) rfl rfl ?c1 ?c2 ?c3 ?c4 ?c5 ?_)
        case c1 => exact cells_new _ #[.bool q] _
        case c2 => intro u hu; simp [boolC] at hu; subst hu; rfl
        case c3 => unfold maxLen; omega
        case c4 => omega
        case c5 => have := hE.out.size; simp at this; simp; omega
        intro v' w2 hown' hgrow _
        have HE2 : Hid (Ext (w.alloc (.cells #[.int .u32 oid, .int .u32 ver, .string nm, .int .u8 id, .slice a2 cols.length cap2] 27)) w2) := Hid.mk' (Below.grown (hE.out.alloc _) hgrow (by have := hE.out.size; simp at this; simp; omega) (fun g hg => by have := (hown.out.lt g hg).1; simpa using this))
        have HO2 := Hid.mk' hown'
        clear hown' hgrow
        go_wp2
        go_roundw
        case rel => exact ⟨k + 1, by omega, by go_num, Hid.mk' (by rw [HT.out]; exact HO2.out), HE2⟩
        case measure => simp [intOf]; omega
      · have hkk : k = l.length := by omega
        subst hkk
        have hml : ((nullsL l).map boolC).length = l.length := by rw [List.length_map, nullsL_len]
        rw [← hml, List.take_length, hml] at hown
        obtain ⟨an, cn, rfl⟩ := owns_shape hown.out
        have HN2 := Hid.mk' (Sl.of_owns (base := w.heap.size + 1) (e := 4) (xss := (nullsL l).map boolC) (by rw [hml]; exact hown.out) (by intro xs hxs; simp at hxs; rcases hxs with ⟨_, rfl⟩ | ⟨_, rfl⟩ <;> rfl))
        clear hown hml
        have hz1 : w.heap.size + 1 ≤ wr.heap.size := by have := hE.out.size; simpa using this
        go_wp2_with (go_at_call 79; refine (HP.out _ _ _ HN2.out).mono ?_; rintro e w3 ⟨v3, rfl, ho3, hb3⟩; have HO3 := Hid.mk' (ho3.base (base := w.heap.size + 1) hz1); have HE3 := Hid.mk' (hE.out.trans hb3); clear ho3 hb3)
        rename World => wo
        go_loopw [11, 13] (fun v i wr => ∃ k : Nat, k ≤ l.length ∧ i = .int .i64 k ∧ Hid (OB wr (w.heap.size + 1) v (mapL (nullsL l) ++ cellsPut 1 (l.take k) (cols.take k))) ∧ Hid (Ext (w.alloc (.cells #[.int .u32 oid, .int .u32 ver, .string nm, .int .u8 id, .slice a2 cols.length cap2] 27)) wr)) (fun _ i _ => l.length - (intOf i).toNat)
        case atStart => exact ⟨0, Nat.zero_le _, rfl, Hid.mk' (by simp only [List.take_zero, cellsPut, List.append_nil]; exact HO3.out), HE3⟩
        case round =>
          obtain ⟨k, hk, rfl, hown, hE⟩ := hrel
          have hEw : Ext w wr := ((Ext.refl w).alloc _).trans hE.out
          have hBx := (Blk.new w #[.int .u32 oid, .int .u32 ver, .string nm, .int .u8 id, .slice a2 cols.length cap2] 27).ext hE.out
          have g0 := hBx.cell
          have z0 := hBx.lt
          clear hBx
          by_cases hlt : k < l.length
          · have hlt2 : k < cols.length := by omega
            obtain ⟨b, o, rfl, hb, hx⟩ := HL.out.at_ (i := k) (by simpa using hlt)
            obtain ⟨f0, f1, f2, f3, f4, f5⟩ := K.rcAt hlt hx hb hEw
            obtain ⟨b2, o2, rfl, hb2', hx2⟩ := HL2.out.at_ (i := k) (by simpa using hlt2)
            obtain ⟨p0, p1, p2⟩ := Col.at_ hlt2 hx2 hb2' hEw
            have hbw : b < wr.heap.size := Nat.lt_of_lt_of_le hb hEw.size
            have hbw2 : b2 < wr.heap.size := Nat.lt_of_lt_of_le hb2' hEw.size
            have htw := HS.out _ (List.getElem_mem hlt)
            have HSN := Hid.mk' (cellsPut_snoc 1 l cols k hlt hlt2)
            have hpl := cellsPut_len HK.out.put k (by omega) (by omega)
            have hml := mapL_len (nullsL l)
            rw [nullsL_len] at hml
            have hms : mapSize l.length ≤ 2 := by unfold mapSize; omega
            have HLN : Hid (l[k].k ≠ 0 → (l[k].put cols[k].ty 1).length ≤ 4000) := Hid.mk' (HK.out.put k hlt hlt2)
            have hpre0 : (mapL (nullsL l) ++ cellsPut 1 (l.take k) (cols.take k)).length ≤ 100000 := by rw [List.length_append]; omega
            have HCP := Hid.mk' (fun (hk0 : l[k].k ≠ 0) W => rcput_ok l[k].k l[k].v.ty l[k].v.n l[k].v.x l[k].v.y l[k].v.s cols[k].ty 1 W (HK.out.err k hlt hlt2 hk0) htw.k htw.n htw.x htw.y htw.s)
            obtain ⟨c, hc⟩ : ∃ c, c = l[k] := ⟨_, rfl⟩
            obtain ⟨d, hd⟩ : ∃ d, d = cols[k] := ⟨_, rfl⟩
            rw [← hc] at f0 f1 f2 f3 f4 f5 HSN HCP HLN
            rw [← hd] at p0 p1 p2 HSN HCP HLN
            obtain ⟨pre, hpre⟩ : ∃ pre, pre = mapL (nullsL l) ++ cellsPut 1 (l.take k) (cols.take k) := ⟨_, rfl⟩
            rw [← hpre] at hown hpre0
            have HPRE := Hid.mk' hpre
            clear hc hd hx hx2 htw hpl hml hms hpre
            by_cases hk0 : c.k = 0
            · have hk0' : (c.k != 0) = false := by simpa using hk0
              have HS2 := Hid.mk' (HSN.out.trans (by rw [if_pos hk0, List.append_nil]))
              clear hk0 HSN HCP HLN
              go_wp2
              go_roundw
              case rel => exact ⟨k + 1, by omega, by go_num, Hid.mk' (by rw [HS2.out, ← HPRE.out]; exact hown.out), hE⟩
              case measure => simp [intOf]; omega
            · have hk0' : (c.k != 0) = true := by simpa using hk0
              have HC := Hid.mk' (HCP.out hk0)
              have hpl2 := HLN.out hk0
              unfold K.put at hpl2
              have HS2 := Hid.mk' (HSN.out.trans (by rw [if_neg hk0]))
              clear hk0 HSN HCP HLN
              go_wp2
              go_region_held3 (fun w' => Ext (wr) w' ∧ (∀ b o, b < (wr).heap.size → w'.cell? ⟨b, o, none⟩ = (wr).cell? ⟨b, o, none⟩) ∧ (∀ b o, b < (wr).heap.size → w'.frozen? ⟨b, o, none⟩ = (wr).frozen? ⟨b, o, none⟩)) ((exact held_of (by (repeat (with_reducible (first | exact Ext.refl _ | assumption | exact held_left (by assumption) | apply Ext.drewN | apply Ext.drew | apply Ext.alloc | (refine Ext.setCell ?_ (by first | (simp; done) | (simp; omega) | omega) _) | (refine Ext.trans ?_ (by assumption)) | (refine Ext.trans ?_ (held_left (by assumption)))))))))
                (first
                  | (go_at_call 80; refine (HC.out _).mono ?_; rintro e w2 ⟨v2, rfl, ho2, hb2⟩; have HO2 := Hid.mk' ho2; clear ho2))
              go_wp2_with (at_builtin; refine app_bytes rfl _ _ rfl (w.heap.size + 1) _ _ rfl (hown.out.ext (by (repeat (with_reducible (first | exact Ext.refl _ | assumption | exact held_left (by assumption) | apply Ext.drewN | apply Ext.drew | apply Ext.alloc | (refine Ext.setCell ?_ (by first | (simp; done) | (simp; omega) | omega) _) | (refine Ext.trans ?_ (by assumption)) | (refine Ext.trans ?_ (held_left (by assumption)))))))) v2 (putC c.k c.v.ty c.v.n c.v.x c.v.y c.v.s d.ty 1) rfl (NB.of_own (HO2.out.ext (by (repeat (with_reducible (first | exact Ext.refl _ | assumption | exact held_left (by assumption) | apply Ext.drewN | apply Ext.drew | apply Ext.alloc | (refine Ext.setCell ?_ (by first | (simp; done) | (simp; omega) | omega) _) | (refine Ext.trans ?_ (by assumption)) | (refine Ext.trans ?_ (held_left (by assumption))))))))) ?c1 ?c2 ?_)
              case c1 => omega
              case c2 => exact Nat.le_trans (show w.heap.size + 1 ≤ wr.heap.size from z0) (Ext.size (by (repeat (with_reducible (first | exact Ext.refl _ | assumption | exact held_left (by assumption) | apply Ext.drewN | apply Ext.drew | apply Ext.alloc | (refine Ext.setCell ?_ (by first | (simp; done) | (simp; omega) | omega) _) | (refine Ext.trans ?_ (by assumption)) | (refine Ext.trans ?_ (held_left (by assumption))))))))
              intro v4 w4 ho4 hgrow
              have HE4 := Hid.mk' (Below.grown (hE.out.trans (by (repeat (with_reducible (first | exact Ext.refl _ | assumption | exact held_left (by assumption) | apply Ext.drewN | apply Ext.drew | apply Ext.alloc | (refine Ext.setCell ?_ (by first | (simp; done) | (simp; omega) | omega) _) | (refine Ext.trans ?_ (by assumption)) | (refine Ext.trans ?_ (held_left (by assumption)))))) : Ext wr _)) hgrow (Ext.size (hE.out.trans (by (repeat (with_reducible (first | exact Ext.refl _ | assumption | exact held_left (by assumption) | apply Ext.drewN | apply Ext.drew | apply Ext.alloc | (refine Ext.setCell ?_ (by first | (simp; done) | (simp; omega) | omega) _) | (refine Ext.trans ?_ (by assumption)) | (refine Ext.trans ?_ (held_left (by assumption)))))) : Ext wr _))) (fun g hg => by have := (World.ownsRow.lt hown.out g hg).1; simpa using this))
              have HO4 := Hid.mk' ho4
              clear ho4 hgrow
              go_wp2
              go_roundw
              case rel => exact ⟨k + 1, by omega, by go_num, Hid.mk' (by rw [HS2.out, ← List.append_assoc, ← HPRE.out]; exact HO4.out), Hid.mk' HE4.out⟩
              case measure => simp [intOf]; omega
          · have hkk : k = l.length := by omega
            subst hkk
            rw [cellsPut_all HNL.out] at hown
            go_wp2
            go_ret2
            exact EncPost.ok HE.out rfl (hown.out.base (by omega)) hEw

  · go_enter Try.func39, Try.ntmps39
    go_wp2_with (go_at_call 43; refine (HF.out _ (by (repeat (with_reducible (first | exact Ext.refl _ | assumption | exact held_left (by assumption) | apply Ext.drewN | apply Ext.drew | apply Ext.alloc | (refine Ext.setCell ?_ (by first | (simp; done) | (simp; omega) | omega) _) | (refine Ext.trans ?_ (by assumption)) | (refine Ext.trans ?_ (held_left (by assumption)))))))).mono ?_; rintro e w1 ⟨rfl, hb1⟩; have hE1 := Hid.mk' (show Ext (w.alloc (.cells #[.int .u32 oid, .int .u32 ver, .string nm, .int .u8 id, .slice a2 cols.length cap2] 27)) w1 by (repeat (with_reducible (first | exact Ext.refl _ | assumption | exact held_left (by assumption) | apply Ext.drewN | apply Ext.drew | apply Ext.alloc | (refine Ext.setCell ?_ (by first | (simp; done) | (simp; omega) | omega) _) | (refine Ext.trans ?_ (by assumption)) | (refine Ext.trans ?_ (held_left (by assumption))))))); have hEw1 : Ext w w1 := (by (repeat (with_reducible (first | exact Ext.refl _ | assumption | exact held_left (by assumption) | apply Ext.drewN | apply Ext.drew | apply Ext.alloc | (refine Ext.setCell ?_ (by first | (simp; done) | (simp; omega) | omega) _) | (refine Ext.trans ?_ (by assumption)) | (refine Ext.trans ?_ (held_left (by assumption))))))); clear hb1)
    go_loopw [9, 10] (fun v i wr => ∃ k : Nat, k ≤ l.length ∧ i = .int .i64 k ∧ Hid (wr.ownsRow (w.heap.size + 1) 4 1 v k (((nullsL l).map boolC).take k).flatten) ∧ Hid (Ext (w.alloc (.cells #[.int .u32 oid, .int .u32 ver, .string nm, .int .u8 id, .slice a2 cols.length cap2] 27)) wr)) (fun _ i _ => l.length - (intOf i).toNat)
    case atStart => exact ⟨0, Nat.zero_le _, rfl, World.ownsRow_nil _ _ _ _, hE1⟩
    case round =>
      obtain ⟨k, hk, rfl, hown, hE⟩ := hrel
      have hEw : Ext w wr := ((Ext.refl w).alloc _).trans hE.out
      by_cases hlt : k < l.length
      · obtain ⟨b, o, rfl, hb, hx⟩ := HL.out.at_ (i := k) (by simpa using hlt)
        obtain ⟨f0, -⟩ := K.rcAt hlt hx hb hEw
        have hbw : b < wr.heap.size := Nat.lt_of_lt_of_le hb hEw.size
        have HT := Hid.mk' (flat_snoc (f := boolC) (l := nullsL l) (k := k) (by rw [nullsL_len]; exact hlt))
        have hnk : (nullsL l)[k]'(by rw [nullsL_len]; exact hlt) = decide (l[k].k = 0) := by simp [nullsL]
        rw [hnk] at HT
        obtain ⟨c, hc⟩ : ∃ c, c = l[k].k := ⟨_, rfl⟩
        rw [← hc] at f0 HT
        have hdk : (c == 0) = decide (c = 0) := by by_cases h : c = 0 <;> simp [h]
        obtain ⟨q, hq⟩ : ∃ q, q = decide (c = 0) := ⟨_, rfl⟩
        rw [← hq] at HT hdk
        clear hc hx hnk hq
        go_wp2_with (at_builtin; refine wpList_append_own _ rfl _ _ 148 rfl (w.heap.size + 1) 4 i0 _ 1 1 Try.underlying148 hi hz0 hz1 hz2 rfl (by decide) _ _ _ rfl (hown.out.alloc _) ⟨_, 0, none⟩ 1 1 (boolC q) rfl rfl ?c1 ?c2 ?c3 ?c4 ?c5 ?_)
        case c1 => exact cells_new _ #[.bool q] _
        case c2 => intro u hu; simp [boolC] at hu; subst hu; rfl
        case c3 => unfold maxLen; omega
        case c4 => omega
        case c5 => have := hE.out.size; simp at this; simp; omega
        intro v' w2 hown' hgrow _
        have HE2 : Hid (Ext (w.alloc (.cells #[.int .u32 oid, .int .u32 ver, .string nm, .int .u8 id, .slice a2 cols.length cap2] 27)) w2) := Hid.mk' (Below.grown (hE.out.alloc _) hgrow (by have := hE.out.size; simp at this; simp; omega) (fun g hg => by have := (hown.out.lt g hg).1; simpa using this))
        have HO2 := Hid.mk' hown'
        clear hown' hgrow
        go_wp2
        go_roundw
        case rel => exact ⟨k + 1, by omega, by go_num, Hid.mk' (by rw [HT.out]; exact HO2.out), HE2⟩
        case measure => simp [intOf]; omega
      · have hkk : k = l.length := by omega
        subst hkk
        have hml : ((nullsL l).map boolC).length = l.length := by rw [List.length_map, nullsL_len]
        rw [← hml, List.take_length, hml] at hown
        obtain ⟨an, cn, rfl⟩ := owns_shape hown.out
        have HN2 := Hid.mk' (Sl.of_owns (base := w.heap.size + 1) (e := 4) (xss := (nullsL l).map boolC) (by rw [hml]; exact hown.out) (by intro xs hxs; simp at hxs; rcases hxs with ⟨_, rfl⟩ | ⟨_, rfl⟩ <;> rfl))
        clear hown hml
        have hz1 : w.heap.size + 1 ≤ wr.heap.size := by have := hE.out.size; simpa using this
        go_wp2_with (go_at_call 79; refine (HP.out _ _ _ HN2.out).mono ?_; rintro e w3 ⟨v3, rfl, ho3, hb3⟩; have HO3 := Hid.mk' (ho3.base (base := w.heap.size + 1) hz1); have HE3 := Hid.mk' (hE.out.trans hb3); clear ho3 hb3)
        rename World => wo
        go_loopw [11, 13] (fun v i wr => ∃ k : Nat, k ≤ l.length ∧ i = .int .i64 k ∧ Hid (OB wr (w.heap.size + 1) v (mapL (nullsL l) ++ cellsPut 2 (l.take k) (cols.take k))) ∧ Hid (Ext (w.alloc (.cells #[.int .u32 oid, .int .u32 ver, .string nm, .int .u8 id, .slice a2 cols.length cap2] 27)) wr)) (fun _ i _ => l.length - (intOf i).toNat)
        case atStart => exact ⟨0, Nat.zero_le _, rfl, Hid.mk' (by simp only [List.take_zero, cellsPut, List.append_nil]; exact HO3.out), HE3⟩
        case round =>
          obtain ⟨k, hk, rfl, hown, hE⟩ := hrel
          have hEw : Ext w wr := ((Ext.refl w).alloc _).trans hE.out
          have hBx := (Blk.new w #[.int .u32 oid, .int .u32 ver, .string nm, .int .u8 id, .slice a2 cols.length cap2] 27).ext hE.out
          have g0 := hBx.cell
          have z0 := hBx.lt
          clear hBx
          by_cases hlt : k < l.length
          · have hlt2 : k < cols.length := by omega
            obtain ⟨b, o, rfl, hb, hx⟩ := HL.out.at_ (i := k) (by simpa using hlt)
            obtain ⟨f0, f1, f2, f3, f4, f5⟩ := K.rcAt hlt hx hb hEw
            obtain ⟨b2, o2, rfl, hb2', hx2⟩ := HL2.out.at_ (i := k) (by simpa using hlt2)
            obtain ⟨p0, p1, p2⟩ := Col.at_ hlt2 hx2 hb2' hEw
            have hbw : b < wr.heap.size := Nat.lt_of_lt_of_le hb hEw.size
            have hbw2 : b2 < wr.heap.size := Nat.lt_of_lt_of_le hb2' hEw.size
            have htw := HS.out _ (List.getElem_mem hlt)
            have HSN := Hid.mk' (cellsPut_snoc 2 l cols k hlt hlt2)
            have hpl := cellsPut_len HK.out.put k (by omega) (by omega)
            have hml := mapL_len (nullsL l)
            rw [nullsL_len] at hml
            have hms : mapSize l.length ≤ 2 := by unfold mapSize; omega
            have HLN : Hid (l[k].k ≠ 0 → (l[k].put cols[k].ty 2).length ≤ 4000) := Hid.mk' (HK.out.put k hlt hlt2)
            have hpre0 : (mapL (nullsL l) ++ cellsPut 2 (l.take k) (cols.take k)).length ≤ 100000 := by rw [List.length_append]; omega
            have HCP := Hid.mk' (fun (hk0 : l[k].k ≠ 0) W => rcput_ok l[k].k l[k].v.ty l[k].v.n l[k].v.x l[k].v.y l[k].v.s cols[k].ty 2 W (HK.out.err k hlt hlt2 hk0) htw.k htw.n htw.x htw.y htw.s)
            obtain ⟨c, hc⟩ : ∃ c, c = l[k] := ⟨_, rfl⟩
            obtain ⟨d, hd⟩ : ∃ d, d = cols[k] := ⟨_, rfl⟩
            rw [← hc] at f0 f1 f2 f3 f4 f5 HSN HCP HLN
            rw [← hd] at p0 p1 p2 HSN HCP HLN
            obtain ⟨pre, hpre⟩ : ∃ pre, pre = mapL (nullsL l) ++ cellsPut 2 (l.take k) (cols.take k) := ⟨_, rfl⟩
            rw [← hpre] at hown hpre0
            have HPRE := Hid.mk' hpre
            clear hc hd hx hx2 htw hpl hml hms hpre
            by_cases hk0 : c.k = 0
            · have hk0' : (c.k != 0) = false := by simpa using hk0
              have HS2 := Hid.mk' (HSN.out.trans (by rw [if_pos hk0, List.append_nil]))
              clear hk0 HSN HCP HLN
              go_wp2
              go_roundw
              case rel => exact ⟨k + 1, by omega, by go_num, Hid.mk' (by rw [HS2.out, ← HPRE.out]; exact hown.out), hE⟩
              case measure => simp [intOf]; omega
            · have hk0' : (c.k != 0) = true := by simpa using hk0
              have HC := Hid.mk' (HCP.out hk0)
              have hpl2 := HLN.out hk0
              unfold K.put at hpl2
              have HS2 := Hid.mk' (HSN.out.trans (by rw [if_neg hk0]))
              clear hk0 HSN HCP HLN
              go_wp2
              go_region_held3 (fun w' => Ext (wr) w' ∧ (∀ b o, b < (wr).heap.size → w'.cell? ⟨b, o, none⟩ = (wr).cell? ⟨b, o, none⟩) ∧ (∀ b o, b < (wr).heap.size → w'.frozen? ⟨b, o, none⟩ = (wr).frozen? ⟨b, o, none⟩)) ((exact held_of (by (repeat (with_reducible (first | exact Ext.refl _ | assumption | exact held_left (by assumption) | apply Ext.drewN | apply Ext.drew | apply Ext.alloc | (refine Ext.setCell ?_ (by first | (simp; done) | (simp; omega) | omega) _) | (refine Ext.trans ?_ (by assumption)) | (refine Ext.trans ?_ (held_left (by assumption)))))))))
                (first
                  | (go_at_call 80; refine (HC.out _).mono ?_; rintro e w2 ⟨v2, rfl, ho2, hb2⟩; have HO2 := Hid.mk' ho2; clear ho2))
              go_wp2_with (at_builtin; refine app_bytes rfl _ _ rfl (w.heap.size + 1) _ _ rfl (hown.out.ext (by (repeat (with_reducible (first | exact Ext.refl _ | assumption | exact held_left (by assumption) | apply Ext.drewN | apply Ext.drew | apply Ext.alloc | (refine Ext.setCell ?_ (by first | (simp; done) | (simp; omega) | omega) _) | (refine Ext.trans ?_ (by assumption)) | (refine Ext.trans ?_ (held_left (by assumption)))))))) v2 (putC c.k c.v.ty c.v.n c.v.x c.v.y c.v.s d.ty 2) rfl (NB.of_own (HO2.out.ext (by (repeat (with_reducible (first | exact Ext.refl _ | assumption | exact held_left (by assumption) | apply Ext.drewN | apply Ext.drew | apply Ext.alloc | (refine Ext.setCell ?_ (by first | (simp; done) | (simp; omega) | omega) _) | (refine Ext.trans ?_ (by assumption)) | (refine Ext.trans ?_ (held_left (by assumption))))))))) ?c1 ?c2 ?_)
              case c1 => omega
              case c2 => exact Nat.le_trans (show w.heap.size + 1 ≤ wr.heap.size from z0) (Ext.size (by (repeat (with_reducible (first | exact Ext.refl _ | assumption | exact held_left (by assumption) | apply Ext.drewN | apply Ext.drew | apply Ext.alloc | (refine Ext.setCell ?_ (by first | (simp; done) | (simp; omega) | omega) _) | (refine Ext.trans ?_ (by assumption)) | (refine Ext.trans ?_ (held_left (by assumption))))))))
              intro v4 w4 ho4 hgrow
              have HE4 := Hid.mk' (Below.grown (hE.out.trans (by (repeat (with_reducible (first | exact Ext.refl _ | assumption | exact held_left (by assumption) | apply Ext.drewN | apply Ext.drew | apply Ext.alloc | (refine Ext.setCell ?_ (by first | (simp; done) | (simp; omega) | omega) _) | (refine Ext.trans ?_ (by assumption)) | (refine Ext.trans ?_ (held_left (by assumption)))))) : Ext wr _)) hgrow (Ext.size (hE.out.trans (by (repeat (with_reducible (first | exact Ext.refl _ | assumption | exact held_left (by assumption) | apply Ext.drewN | apply Ext.drew | apply Ext.alloc | (refine Ext.setCell ?_ (by first | (simp; done) | (simp; omega) | omega) _) | (refine Ext.trans ?_ (by assumption)) | (refine Ext.trans ?_ (held_left (by assumption)))))) : Ext wr _))) (fun g hg => by have := (World.ownsRow.lt hown.out g hg).1; simpa using this))
              have HO4 := Hid.mk' ho4
              clear ho4 hgrow
              go_wp2
              go_roundw
              case rel => exact ⟨k + 1, by omega, by go_num, Hid.mk' (by rw [HS2.out, ← List.append_assoc, ← HPRE.out]; exact HO4.out), Hid.mk' HE4.out⟩
              case measure => simp [intOf]; omega
          · have hkk : k = l.length := by omega
            subst hkk
            rw [cellsPut_all HNL.out] at hown
            go_wp2
            go_ret2
            exact EncPost.ok HE.out rfl (hown.out.base (by omega)) hEw

end Go.Proofs.Ytdbepkfblfhlhaa

/-
A row filled with the texts of its holes: the reference's Fill.
-/
namespace Go.Proofs.Ytdbepkfblfhlhaa
open Go.RowKit

/-- A row of the document in a block of the call's own. -/
def RcAt (W : World) (g : Nat) (ks : List K) : Prop := ∃ cs : Array Value, Blk W g cs 121 ∧ ks.length * 6 ≤ cs.size ∧ ∀ i (hi : i < ks.length), ∀ j, j < 6 → cs[i * 6 + j]? = (ks[i].rc)[j]?
section
variable {W W' : World} {g : Nat} {ks : List K}
theorem RcAt.lt (h : RcAt W g ks) : g < W.heap.size := by obtain ⟨cs, hb, _⟩ := h; exact hb.lt
theorem RcAt.ext (h : RcAt W g ks) (he : Ext W W') : RcAt W' g ks := by obtain ⟨cs, hb, hr⟩ := h; exact ⟨cs, hb.ext he, hr⟩
theorem RcAt.frozen (h : RcAt W g ks) (o : Nat) : W.frozen? ⟨g, o, none⟩ = false := by obtain ⟨cs, hb, _⟩ := h; exact hb.frozen o
theorem RcAt.text (h : RcAt W g ks) {i : Nat} (hi : i < ks.length) : W.cell? ⟨g, i * 6 + 5, none⟩ = some (.string ks[i].v.s) := by
  obtain ⟨cs, hb, _, hx⟩ := h
  exact (hb.cell _).trans (hx i hi 5 (by omega))
theorem RcAt.sl (h : RcAt W g ks) (cap : Nat) : Sl W (.slice (some ⟨g, 0, none⟩) ks.length cap) 6 (ks.map K.rc) := by
  obtain ⟨cs, hb, _, hx⟩ := h
  refine ⟨_, cap, by rw [List.length_map], .inr ⟨g, 0, rfl, hb.lt, fun i hi j hj => ?_⟩⟩
  rw [List.length_map] at hi
  rw [getD_map K.rc ks hi, ← hx i hi j hj, Nat.zero_add]
  exact hb.cell _
theorem flatR_len (l : List K) : (l.map K.rc).flatten.length = l.length * 6 := by
  have := flat_length 6 (l.map K.rc) (fun xs hxs => by simp at hxs; obtain ⟨c, _, rfl⟩ := hxs; rfl)
  rwa [List.length_map] at this
theorem RcAt.of_owns {base n cap : Nat} (h : W.ownsRow base 121 6 (.slice (some ⟨g, 0, none⟩) n cap) n (ks.map K.rc).flatten) (hn : ks.length = n) : RcAt W g ks := by
  obtain ⟨h1, h2⟩ := h
  rcases h2 with ⟨h3, _⟩ | ⟨g', cap', cur, hv, hg, hh, hnc, hcap, hsz, htake⟩
  · cases h3
  · simp only [Value.slice.injEq, Option.some.injEq, Addr.mk.injEq] at hv
    obtain ⟨⟨rfl, -, -⟩, -, rfl⟩ := hv
    have hct : ks.length * 6 ≤ cur.size := by
      have := congrArg List.length htake
      rw [List.length_take, flatR_len] at this
      simp at this
      omega
    refine ⟨cur, hh, hct, fun i hi j hj => ?_⟩
    have := flat_get 6 (ks.map K.rc) (fun xs hxs => by simp at hxs; obtain ⟨c, _, rfl⟩ := hxs; rfl) i (by simpa using hi) j hj
    rw [getD_map K.rc ks hi] at this
    rw [← this, ← htake, List.getElem?_take, if_pos (by rw [← hn]; omega)]
    simp
theorem RcAt.setText (h : RcAt W g ks) {i : Nat} (hi : i < ks.length) (s : ByteArray) : RcAt (W.setCell ⟨g, i * 6 + 5, none⟩ (.string s)) g (Go.Proofs.Ytdbepkfblfhlhaa.setText ks i s) := by
  obtain ⟨cs, hb, hs, hx⟩ := h
  refine ⟨_, hb.set _ _, by rw [setText_len]; simpa using hs, fun q hq j hj => ?_⟩
  have hq2 : q < ks.length := by rwa [setText_len] at hq
  have e1 : (Go.Proofs.Ytdbepkfblfhlhaa.setText ks i s)[q]'hq = (ks.set i ⟨ks[i].k, { ks[i].v with s := s }⟩)[q]'(by simpa using hq2) := by
    congr 1
    unfold Go.Proofs.Ytdbepkfblfhlhaa.setText; rw [dif_pos hi]
  rw [e1, Array.getElem?_setIfInBounds]
  by_cases e : q = i
  · subst e
    rw [List.getElem_set_self]
    have hx := hx q hq2 j hj
    have : j = 0 ∨ j = 1 ∨ j = 2 ∨ j = 3 ∨ j = 4 ∨ j = 5 := by omega
    rcases this with rfl | rfl | rfl | rfl | rfl | rfl
    · rw [if_neg (by omega), hx]; rfl
    · rw [if_neg (by omega), hx]; rfl
    · rw [if_neg (by omega), hx]; rfl
    · rw [if_neg (by omega), hx]; rfl
    · rw [if_neg (by omega), hx]; rfl
    · rw [if_pos rfl, if_pos (by omega)]; rfl
  · rw [List.getElem_set_ne (Ne.symm e), if_neg (by omega)]
    exact hx q hq2 j hj
end
theorem news_rc {w : World} {b o : Nat} {l : List K} (h : ∀ i, i < l.length → ∀ j, j < 6 → w.cell? ⟨b, o + i * 6 + j, none⟩ = ((l.map K.rc).getD i [])[j]?) : ∀ j u, ((l.map K.rc).flatten)[j]? = some u → w.cell? ((⟨b, o, none⟩ : Addr).add j) = some u := by
  intro j u hj
  have hjl : j < l.length * 6 := by
    rcases Nat.lt_or_ge j (l.length * 6) with h | h
    · exact h
    · rw [List.getElem?_eq_none (by rw [flatR_len]; exact h)] at hj; cases hj
  have hplain : (⟨b, o, none⟩ : Addr).add j = ⟨b, o + j, none⟩ := by unfold Addr.add; split <;> simp_all
  have hi : j / 6 < l.length := by omega
  have hq := flat_get 6 (l.map K.rc) (fun xs hxs => by simp at hxs; obtain ⟨c, _, rfl⟩ := hxs; rfl) (j / 6) (by simpa using hi) (j % 6) (Nat.mod_lt _ (by decide))
  have hm : j / 6 * 6 + j % 6 = j := by omega
  rw [hm] at hq
  rw [hplain, ← hj, hq, ← h (j / 6) hi (j % 6) (Nat.mod_lt _ (by decide)), Nat.add_assoc, hm]

/-- Appending a row to an empty one of the call's own. -/
theorem app_rc {w : World} {ops : Array Oper} {rest : List Oper} {o : Oper} {a : Act} {Q : Exit → Act → World → Prop} (hgd : o.guard = none) (s x : Operand)
    (ho : o.op = .call { callee := .builtin .append, args := #[s, x], argTypes := #[31, 31] })
    (base : Nat) (v : Value) (hs : a.eval s = v) (hown : w.ownsRow base 121 6 v 0 []) (l : List K) (au : Option Addr) (cu : Nat) (hx : a.eval x = .slice au l.length cu) (hu : Sl w (.slice au l.length cu) 6 (l.map K.rc)) (hnil : au = none → cu = 0)
    (hlen : l.length ≤ 1000) (hbase : base ≤ w.heap.size)
    (h : ∀ v' w', w'.ownsRow base 121 6 v' l.length ((l.map K.rc).flatten) → w.grownBy w' v.ownBlock → wpList Try.prog ops Q rest (a.put o.dst v') w') : wpList Try.prog ops Q (o :: rest) a w := by
  obtain ⟨i0, hi, hz0, hz1, hz2⟩ := info_parts Try.infoCellR
  cases au with
  | none =>
    have h0 : l = [] := by
      obtain ⟨a, c, hv, h⟩ := hu
      simp only [Value.slice.injEq] at hv
      rcases h with h | ⟨b, o, ha, _⟩
      · simpa using h
      · rw [← hv.1] at ha; cases ha
    subst h0
    obtain rfl := hnil rfl
    refine Go.wpList_append_own_none hgd s x 31 ho base 121 i0 6 Try.underlying31 hi v _ _ hs hown hx ?_
    exact h v w hown ⟨rfl, rfl, rfl, Nat.le_refl _, fun _ _ _ => rfl⟩
  | some ad =>
    have hnews : ∀ j u, ((l.map K.rc).flatten)[j]? = some u → w.cell? (ad.add j) = some u := by
      obtain ⟨a, c, hv, h⟩ := hu
      simp only [Value.slice.injEq] at hv
      obtain ⟨rfl, -, -⟩ := hv
      rcases h with h | ⟨b, o, ha, hb, hc⟩
      · have h0 : l = [] := by simpa using h
        subst h0; intro j u hj; simp at hj
      · cases ha
        exact news_rc fun i hi j hj => hc i (by simpa using hi) j hj
    exact wpList_append_own w hgd s x 31 ho base 121 i0 _ 6 56 Try.underlying31 hi hz0 hz1 hz2 rfl (by decide) v 0 [] hs hown ad l.length cu ((l.map K.rc).flatten) hx (flatR_len l) hnews
      (by intro u hu; rw [List.mem_flatten] at hu; obtain ⟨xs, hxs, hu⟩ := hu; rw [List.mem_map] at hxs; obtain ⟨c, _, rfl⟩ := hxs; simp [K.rc] at hu; rcases hu with rfl | rfl | rfl | rfl | rfl | rfl <;> rfl)
      (by unfold maxLen; omega) (by omega) hbase (fun v' w' h1 h2 _ => h v' w' (by simpa using h1) h2)

/-- What the reference's Fill answers. -/
def RFillPost (l : List K) (hs : List Ho) (ts : List ByteArray) (w : World) (e : Ending) (w' : World) : Prop :=
  ∃ a' cap', e = .returned (.tuple #[.slice a' (fillW l hs ts).length cap', .int .i64 (fillE l hs ts)]) ∧ Sl w' (.slice a' (fillW l hs ts).length cap') 6 ((fillW l hs ts).map K.rc) ∧ Ext w w'
theorem RFillPost.bad {l : List K} {hs : List Ho} {ts : List ByteArray} {w w' : World} {E : Int} (h : fillE l hs ts = E) (h0 : E ≠ 0) (hE : Ext w w') : RFillPost l hs ts w (.returned (.tuple #[.slice none 0 0, .int .i64 E])) w' := by
  have : fillW l hs ts = [] := by unfold fillW; rw [if_neg (by rw [h]; exact h0)]
  unfold RFillPost
  rw [this, h]
  exact ⟨none, 0, rfl, ⟨none, 0, rfl, .inl rfl⟩, hE⟩
theorem RFillPost.ok {l : List K} {hs : List Ho} {ts : List ByteArray} {w w' : World} {m : List K} {a : Option Addr} {n cap : Nat} (h : fillE l hs ts = 0) (hm : fillUp l hs ts hs.length = m) (hn : n = m.length) (hl : Sl w' (.slice a n cap) 6 (m.map K.rc)) (hE : Ext w w') :
    RFillPost l hs ts w (.returned (.tuple #[.slice a n cap, .int .i64 0])) w' := by
  have : fillW l hs ts = m := by unfold fillW; rw [if_pos h, hm]
  unfold RFillPost
  subst hn
  rw [this, h]
  exact ⟨a, cap, rfl, hl, hE⟩

set_option maxRecDepth 100000 in set_option maxHeartbeats 4000000 in
theorem rfill_any (l : List K) (hs : List Ho) (ts : List ByteArray) (a ah at' : Option Addr) (cap ch ct : Nat) (w : World) (hl : Sl w (.slice a l.length cap) 6 (l.map K.rc)) (hnil : a = none → cap = 0) (hh : Sl w (.slice ah hs.length ch) 2 (hs.map Ho.cells)) (ht : Sl w (.slice at' ts.length ct) 1 (ts.map strC))
    (hlen : l.length ≤ 1000) (hlen2 : hs.length ≤ 1000) (_hlen3 : ts.length ≤ 1000) (hsz : ∀ t ∈ ts, t.size ≤ 9223372036854775807) :
    Calls Try.prog 48 #[.slice a l.length cap, .slice ah hs.length ch, .slice at' ts.length ct] w (RFillPost l hs ts w) := by
  have HL := Hid.mk' hl
  have HH := Hid.mk' hh
  have HT := Hid.mk' ht
  have HSZ := Hid.mk' hsz
  clear hl hh ht hsz
  by_cases hn : hs.length = ts.length
  case neg =>
    have hn' : (((hs.length : Nat) : Int) != ((ts.length : Nat) : Int)) = true := by simp; omega
    have HR := Hid.mk' (fillE_len (l := l) hn)
    clear hn
    go_enter Try.func48, Try.ntmps48
    go_wp2
    go_ret2
    exact RFillPost.bad HR.out (by decide) (by (repeat (with_reducible (first | exact Ext.refl _ | assumption | exact held_left (by assumption) | apply Ext.drewN | apply Ext.drew | apply Ext.alloc | (refine Ext.setCell ?_ (by first | (simp; done) | (simp; omega) | omega) _) | (refine Ext.trans ?_ (by assumption)) | (refine Ext.trans ?_ (held_left (by assumption)))))))
  have hn' : (((hs.length : Nat) : Int) != ((ts.length : Nat) : Int)) = false := by simp; omega
  have HN := Hid.mk' hn
  clear hn
  go_enter Try.func48, Try.ntmps48
  go_wp2
  go_loopw [8] (fun i wr => ∃ k : Nat, k ≤ hs.length ∧ i = .int .i64 k ∧ Hid (∀ j, j < k → holeBad l.length hs j = 0) ∧ Hid (Ext w wr)) (fun i _ => hs.length - (intOf i).toNat)
  case atStart => exact ⟨0, Nat.zero_le _, rfl, Hid.mk' (fun j h => by omega), Hid.mk' (Ext.refl _)⟩
  case round =>
    obtain ⟨k, hk, rfl, hrel, hE⟩ := hrel
    by_cases hlt : k < hs.length
    · obtain ⟨b, o, rfl, hb, hx⟩ := HH.out.at_ (i := k) (by simpa using hlt)
      obtain ⟨f0, f1⟩ := Ho.at_ hlt hx hb hE.out
      have hbw : b < wr.heap.size := Nat.lt_of_lt_of_le hb hE.out.size
      clear hx
      by_cases hbad : hs[k].c < 0 ∨ (l.length : Int) ≤ hs[k].c
      · have HR := Hid.mk' (fillE_hole HN.out hlt hbad hrel.out)
        obtain ⟨hk', hke⟩ : ∃ hk', hk' = hs[k] := ⟨_, rfl⟩
        rw [← hke] at f0 f1 hbad
        clear hke
        go_wp2
        all_goals
          go_ret2
          exact RFillPost.bad HR.out (by decide) hE.out
      · have HZ := Hid.mk' (show holeBad l.length hs k = 0 by unfold holeBad; rw [dif_pos hlt, if_neg hbad])
        obtain ⟨j, hj⟩ : ∃ j : Nat, hs[k].c = (j : Int) := ⟨hs[k].c.toNat, by omega⟩
        rw [hj] at f0 hbad
        have hjl : j < l.length := by omega
        clear hbad hj
        go_wp2
        go_roundw
        case rel => exact ⟨k + 1, by omega, by go_num, Hid.mk' (fun j hj => by
          by_cases e : j = k
          · subst e; exact HZ.out
          · exact hrel.out j (by omega)), hE⟩
        case measure => simp [intOf]; omega
    · obtain rfl : k = hs.length := by omega
      have HA := hrel
      have HW1 := hE
      clear hrel hE
      go_wp2_with (at_builtin; refine app_rc rfl _ _ rfl w.heap.size (.slice (some ⟨wr.heap.size, 0, none⟩) 0 0) rfl ?c0 l a cap rfl (HL.out.ext (HW1.out.alloc _)) hnil hlen ?c1 ?_)
      case c0 => exact ⟨rfl, .inr ⟨_, 0, #[], rfl, HW1.out.size, Blk.new wr #[] _, Nat.le_refl _, Nat.zero_le _, rfl, rfl⟩⟩
      case c1 => have := HW1.out.size; simp; omega
      intro v' w2 hown hgrow
      have HE2 : Hid (Ext w w2) := Hid.mk' (Below.grown (HW1.out.alloc _) hgrow (by have := HW1.out.size; rw [World.size_alloc]; omega) (fun g hg => by simp [Value.ownBlock] at hg; subst hg; exact HW1.out.size))
      have HO := Hid.mk' hown
      obtain ⟨a', c', rfl⟩ := owns_shape hown
      clear hown hgrow
      by_cases h0 : l.length = 0
      · have hh0 : hs.length = 0 := by
          rcases Nat.eq_zero_or_pos hs.length with h | h
          · exact h
          · have := hole_ok h (HA.out 0 h); omega
        have HF := Hid.mk' (fillE_ok HN.out HA.out (fun j hj => by omega))
        go_wp2
        go_loopw [10] (fun i w3 => i = .int .i64 0 ∧ Hid (Ext w2 w3)) (fun _ _ => 0)
        case atStart => exact ⟨rfl, Hid.mk' (Ext.refl _)⟩
        case round =>
          obtain ⟨rfl, hE⟩ := hrel
          go_wp2
          go_ret2
          have hl0 : l = [] := List.length_eq_zero_iff.1 h0
          have hs0 : hs = [] := List.length_eq_zero_iff.1 hh0
          subst hl0 hs0
          exact RFillPost.ok HF.out rfl rfl ⟨a', c', rfl, .inl rfl⟩ (HE2.out.trans hE.out)
      obtain ⟨g, rfl, hcap, hgw⟩ : ∃ g, a' = some ⟨g, 0, none⟩ ∧ l.length ≤ c' ∧ w.heap.size ≤ g := by
        rcases HO.out.2 with ⟨-, h1⟩ | ⟨g, cap', cur, hv, hg, -, hn, -⟩
        · exact absurd h1 h0
        · simp only [Value.slice.injEq] at hv
          exact ⟨g, hv.1, owns_cap HO.out, hg⟩
      have HR0 := Hid.mk' (RcAt.of_owns HO.out rfl)
      clear HO HW1
      go_wp2
      rename World => wq
      go_loopw [10] (fun i wr => ∃ k : Nat, k ≤ hs.length ∧ i = .int .i64 k ∧ Hid (∀ j, j < k → sizeBad hs ts j = 0) ∧ Hid (RcAt wr g (fillUp l hs ts k)) ∧ Hid (Ext w wr)) (fun i _ => hs.length - (intOf i).toNat)
      case atStart => exact ⟨0, Nat.zero_le _, rfl, Hid.mk' (fun j h => by omega), HR0, HE2⟩
      case round =>
        obtain ⟨k, hk, rfl, hrel, hr, hE⟩ := hrel
        by_cases hlt : k < hs.length
        · have hlt2 : k < ts.length := by have := HN.out; omega
          obtain ⟨b, o, rfl, hb, hx⟩ := HH.out.at_ (i := k) (by simpa using hlt)
          obtain ⟨f0, f1⟩ := Ho.at_ hlt hx hb hE.out
          obtain ⟨b2, o2, rfl, hb2, hx2⟩ := HT.out.at_ (i := k) (by simpa using hlt2)
          have p0 := str_at hlt2 hx2 hb2 hE.out
          have hbw : b < wr.heap.size := Nat.lt_of_lt_of_le hb hE.out.size
          have hbw2 : b2 < wr.heap.size := Nat.lt_of_lt_of_le hb2 hE.out.size
          have hsz := HSZ.out _ (List.getElem_mem hlt2)
          have hok := hole_ok hlt (HA.out k hlt)
          have HS := Hid.mk' (fillUp_succ (l := l) hlt hlt2)
          have HB := Hid.mk' (fun (h : (ts[k].size : Int) ≠ hs[k].n) => fillE_size (l := l) HN.out HA.out hlt hlt2 h hrel.out)
          have HZ := Hid.mk' (fun (h : ¬ (ts[k].size : Int) ≠ hs[k].n) => show sizeBad hs ts k = 0 by unfold sizeBad; rw [dif_pos ⟨hlt, hlt2⟩, if_neg h])
          obtain ⟨j, hj⟩ : ∃ j : Nat, hs[k].c = (j : Int) := ⟨hs[k].c.toNat, by omega⟩
          rw [hj] at f0 hok HS
          rw [Int.toNat_natCast] at HS
          have hjl : j < l.length := by omega
          have hgl := hr.out.lt
          have hgf := hr.out.frozen
          have HJ := Hid.mk' (show j < (fillUp l hs ts k).length by rw [fillUp_len]; exact hjl)
          obtain ⟨old, hg5⟩ : ∃ old, wr.cell? ⟨g, j * 6 + 5, none⟩ = some (.string old) := ⟨_, hr.out.text HJ.out⟩
          obtain ⟨t, hte⟩ : ∃ t, t = ts[k] := ⟨_, rfl⟩
          obtain ⟨q, hqe⟩ : ∃ q, q = hs[k].n := ⟨_, rfl⟩
          rw [← hte] at p0 hsz HS HB HZ
          rw [← hqe] at f1 HB HZ
          clear hx hx2 hte hqe hj hok
          by_cases hbad : (t.size : Int) ≠ q
          · have HR := Hid.mk' (HB.out hbad)
            have hb' : (((t.size : Nat) : Int) != q) = true := by simpa using hbad
            clear HB HZ hbad
            go_wp2
            go_region_held3 (fun w' => Ext (wr) w' ∧ (∀ b o, b < (wr).heap.size → w'.cell? ⟨b, o, none⟩ = (wr).cell? ⟨b, o, none⟩) ∧ (∀ b o, b < (wr).heap.size → w'.frozen? ⟨b, o, none⟩ = (wr).frozen? ⟨b, o, none⟩)) ((exact held_of (by (repeat (with_reducible (first | exact Ext.refl _ | assumption | exact held_left (by assumption) | apply Ext.drewN | apply Ext.drew | apply Ext.alloc | (refine Ext.setCell ?_ (by first | (simp; done) | (simp; omega) | omega) _) | (refine Ext.trans ?_ (by assumption)) | (refine Ext.trans ?_ (held_left (by assumption))))))))) (fail)
            go_wp2
            go_ret2
            exact RFillPost.bad HR.out (by decide) (hE.out.trans (by (repeat (with_reducible (first | exact Ext.refl _ | assumption | exact held_left (by assumption) | apply Ext.drewN | apply Ext.drew | apply Ext.alloc | (refine Ext.setCell ?_ (by first | (simp; done) | (simp; omega) | omega) _) | (refine Ext.trans ?_ (by assumption)) | (refine Ext.trans ?_ (held_left (by assumption))))))))
          · have HR := Hid.mk' (HZ.out hbad)
            have hb' : (((t.size : Nat) : Int) != q) = false := by simpa using hbad
            clear HB HZ hbad
            go_wp2
            go_region_held3 (fun w' => Ext (wr) w' ∧ (∀ b o, b < (wr).heap.size → w'.cell? ⟨b, o, none⟩ = (wr).cell? ⟨b, o, none⟩) ∧ (∀ b o, b < (wr).heap.size → w'.frozen? ⟨b, o, none⟩ = (wr).frozen? ⟨b, o, none⟩)) ((exact held_of (by (repeat (with_reducible (first | exact Ext.refl _ | assumption | exact held_left (by assumption) | apply Ext.drewN | apply Ext.drew | apply Ext.alloc | (refine Ext.setCell ?_ (by first | (simp; done) | (simp; omega) | omega) _) | (refine Ext.trans ?_ (by assumption)) | (refine Ext.trans ?_ (held_left (by assumption))))))))) (fail)
            go_wp2
            refine wp_region_head 10 (fun w' => Ext (wr) w' ∧ (∀ b o, b < (wr).heap.size → w'.cell? ⟨b, o, none⟩ = (wr).cell? ⟨b, o, none⟩) ∧ (∀ b o, b < (wr).heap.size → w'.frozen? ⟨b, o, none⟩ = (wr).frozen? ⟨b, o, none⟩)) (by kernel_rfl) (by decide) ?_
            have hA0 : Hid ((fun w' => Ext (wr) w' ∧ (∀ b o, b < (wr).heap.size → w'.cell? ⟨b, o, none⟩ = (wr).cell? ⟨b, o, none⟩) ∧ (∀ b o, b < (wr).heap.size → w'.frozen? ⟨b, o, none⟩ = (wr).frozen? ⟨b, o, none⟩)) wr.drew.drew) := held_of (by (repeat (with_reducible (first | exact Ext.refl _ | assumption | exact held_left (by assumption) | apply Ext.drewN | apply Ext.drew | apply Ext.alloc | (refine Ext.setCell ?_ (by first | (simp; done) | (simp; omega) | omega) _) | (refine Ext.trans ?_ (by assumption)) | (refine Ext.trans ?_ (held_left (by assumption)))))))
            (refine wpHd_take (i := 0) (v := ?_) rfl (by kernel_rfl) (by kernel_rfl) (by kernel_rfl) (fun _ _ _ h => h) (Or.inl ⟨by rfl, ?_⟩) hA0.out ?_; rotate_left 1; · (intro w' hS'; (obtain ⟨hEs', hcs', hfs'⟩ := hS'); go_simp; try with_reducible rfl))
            (refine wpHd_take (i := 1) (v := ?_) rfl (by kernel_rfl) (by kernel_rfl) (by kernel_rfl) (fun _ _ _ h => h) (Or.inl ⟨by rfl, ?_⟩) hA0.out ?_; rotate_left 1; · (intro w' hS'; (obtain ⟨hEs', hcs', hfs'⟩ := hS'); go_simp; try with_reducible rfl))
            (refine wpHd_take (i := 2) (v := ?_) rfl (by kernel_rfl) (by kernel_rfl) (by kernel_rfl) (fun _ _ _ h => h) (Or.inl ⟨by rfl, ?_⟩) hA0.out ?_; rotate_left 1; · (intro w' hS'; (obtain ⟨hEs', hcs', hfs'⟩ := hS'); go_simp; try with_reducible rfl))
            (refine wpHd_take (i := 3) (v := ?_) rfl (by kernel_rfl) (by kernel_rfl) (by kernel_rfl) (fun _ _ _ h => h) (Or.inl ⟨by rfl, ?_⟩) hA0.out ?_; rotate_left 1; · (intro w' hS'; (obtain ⟨hEs', hcs', hfs'⟩ := hS'); go_simp; try with_reducible rfl))
            (refine wpHd_take (i := 4) (v := ?_) rfl (by kernel_rfl) (by kernel_rfl) (by kernel_rfl) (fun _ _ _ h => h) (Or.inl ⟨by rfl, ?_⟩) hA0.out ?_; rotate_left 1; · (intro w' hS'; (obtain ⟨hEs', hcs', hfs'⟩ := hS'); go_simp; try with_reducible rfl))
            (refine wpHd_take (i := 5) (v := ?_) rfl (by kernel_rfl) (by kernel_rfl) (by kernel_rfl) (fun _ _ _ h => h) (Or.inl ⟨by rfl, ?_⟩) hA0.out ?_; rotate_left 1; · (intro w' hS'; (obtain ⟨hEs', hcs', hfs'⟩ := hS'); go_simp; try with_reducible rfl))
            (refine wpHd_take (i := 6) (v := ?_) rfl (by kernel_rfl) (by kernel_rfl) (by kernel_rfl) (fun _ _ _ h => h) (Or.inl ⟨by rfl, ?_⟩) hA0.out ?_; rotate_left 1; · (intro w' hS'; (obtain ⟨hEs', hcs', hfs'⟩ := hS'); go_simp; try with_reducible rfl))
            (refine wpHd_take (i := 7) (v := ?_) rfl (by kernel_rfl) (by kernel_rfl) (by kernel_rfl) (fun _ _ _ h => h) (Or.inl ⟨by rfl, ?_⟩) hA0.out ?_; rotate_left 1; · (intro w' hS'; (obtain ⟨hEs', hcs', hfs'⟩ := hS'); go_simp; try with_reducible rfl))
            (refine wpHd_take (i := 8) (v := ?_) rfl (by kernel_rfl) (by kernel_rfl) (by kernel_rfl) (fun _ _ _ h => h) (Or.inl ⟨by rfl, ?_⟩) hA0.out ?_; rotate_left 1; · (intro w' hS'; (obtain ⟨hEs', hcs', hfs'⟩ := hS'); go_simp; try with_reducible rfl))
            (refine wpHd_take (i := 9) (v := ?_) rfl (by kernel_rfl) (by kernel_rfl) (by kernel_rfl) (fun _ _ _ h => h) (Or.inl ⟨by rfl, ?_⟩) hA0.out ?_; rotate_left 1; · (intro w' hS'; (obtain ⟨hEs', hcs', hfs'⟩ := hS'); go_simp; try with_reducible rfl))
            refine wpHd_tail (by kernel_rfl) ?_
            simp only [List.drop_succ_cons, List.drop_zero]
            go_wp2
            go_roundw
            case rel => exact ⟨k + 1, by omega, by go_num, Hid.mk' (fun i hi => by
              by_cases e : i = k
              · subst e; exact HR.out
              · exact hrel.out i (by omega)), Hid.mk' (by rw [HS.out]; exact ((RcAt.setText hr.out HJ.out t).ext ((Ext.refl _).drew)).ext ((Ext.refl _).drew)), Hid.mk' (by have hE := hE.out; (repeat (with_reducible (first | exact Ext.refl _ | assumption | exact held_left (by assumption) | apply Ext.drewN | apply Ext.drew | apply Ext.alloc | (refine Ext.setCell ?_ (by first | (simp; done) | (simp; omega) | omega) _) | (refine Ext.trans ?_ (by assumption)) | (refine Ext.trans ?_ (held_left (by assumption)))))))⟩
            case measure => simp [intOf]; omega
        · have hkk : k = hs.length := by omega
          subst hkk
          have HF := Hid.mk' (fillE_ok HN.out HA.out hrel.out)
          go_wp2
          go_ret2
          have h1 := hr.out.sl c'
          rw [fillUp_len] at h1
          exact RFillPost.ok HF.out rfl (fillUp_len _ _ _ _).symm h1 hE.out

end Go.Proofs.Ytdbepkfblfhlhaa
