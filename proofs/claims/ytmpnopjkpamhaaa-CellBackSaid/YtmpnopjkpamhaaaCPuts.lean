/-
The walk of CellPuts.
-/
import Derived.Test.YtmpnopjkpamhaaaRefCPut
import Derived.Test.YtmpnopjkpamhaaaAwake07
namespace Go.Proofs.Ytmpnopjkpamhaaa
open Go.RowKit

theorem putC_len {k ty n : Int} {x y : Nat} {s : ByteArray} {kind ver : Int} (hk0 : 0 ≤ k) (h : errC k ty n x y s kind ver = 0) (hn : -9223372036854775808 ≤ n ∧ n < 9223372036854775808) : (putC k ty n x y s kind ver).length ≤ 4000 := by
  obtain ⟨hv, hr, hk, hkd⟩ := errC_zero hk0 h
  rcases hk with rfl | rfl
  · unfold putC; rw [if_pos rfl]; simp
  · have h3 := (right_full hr).1
    have hs := (right_zero h3).2.2.1
    have e1 : errV ty n x y s 1 = 0 := by unfold errV; rw [if_pos (.inl rfl)]; exact h3
    have e2 : errV ty n x y s 2 = 0 := by unfold errV; rw [if_pos (.inr rfl)]; exact h3
    have l1 := putL_len e1 hn
    have l2 := putL_len e2 hn
    have l3 := sevens_len10 (x := s.size) (by omega)
    have l4 := sevens_len10 (x := s.size + 2) (by omega)
    have l5 := strL_len s
    unfold putC
    (repeat' split) <;> (try simp only [List.length_append, List.length_cons, List.length_nil]) <;> omega

set_option maxRecDepth 100000 in set_option maxHeartbeats 1600000 in
theorem cputs_any (k ty n : Int) (x y : Nat) (s : ByteArray) (kind ver : Int) (v : Value) (l : List Int) (w : World) (hl : Sl w v 1 (l.map bcell)) (hnil : ∀ len cap, v = .slice none len cap → v = .slice none 0 0) (hk0 : 0 ≤ k)
    (hn : -9223372036854775808 ≤ n ∧ n < 9223372036854775808) (hx : x < 2 ^ 64) (hy : y < 2 ^ 64) (hs : s.size ≤ 9223372036854775807) (hlen : l.length ≤ 9223372036854775807) :
    Calls Try.prog 3 #[.agg #[.int .u8 k, .int .u8 ty, .int .i64 n, .int .u64 x, .int .u64 y, .string s], .agg #[.int .u8 kind, .int .u8 ver], v] w fun e w' => e = .returned (.bool true) ∧ Ext w w' := by
  obtain ⟨a, cap, rfl, hshape⟩ := hl.shape (n := l.length) (by simp)
  have HL := Hid.mk' hl
  have HNB : Hid (∀ w1, Ext w w1 → NB w1 (.slice a l.length cap) l) := Hid.mk' (fun w1 h => NB.of_sl (hl.ext h) hnil)
  clear hl hshape hnil
  by_cases hbig : 3000 < s.size ∨ 100 < l.length
  · clear hn hx hy
    by_cases h3 : 3000 < s.size
    · clear hbig
      go_enter Try.func3, Try.ntmps3
      go_wp2
      go_ret
      exact ⟨rfl, by (repeat (with_reducible (first | exact Ext.refl _ | assumption | exact held_left (by assumption) | apply Ext.drewN | apply Ext.drew | apply Ext.alloc | (refine Ext.setCell ?_ (by first | (simp; done) | (simp; omega) | omega) _) | (refine Ext.trans ?_ (by assumption)) | (refine Ext.trans ?_ (held_left (by assumption))))))⟩
    · have h1 : 100 < l.length := by omega
      clear hbig
      go_enter Try.func3, Try.ntmps3
      go_wp2
      go_ret
      exact ⟨rfl, by (repeat (with_reducible (first | exact Ext.refl _ | assumption | exact held_left (by assumption) | apply Ext.drewN | apply Ext.drew | apply Ext.alloc | (refine Ext.setCell ?_ (by first | (simp; done) | (simp; omega) | omega) _) | (refine Ext.trans ?_ (by assumption)) | (refine Ext.trans ?_ (held_left (by assumption))))))⟩
  have hs3 : s.size ≤ 3000 := by omega
  have hl1 : l.length ≤ 100 := by omega
  clear hbig hs hlen
  have HO := Hid.mk' (fun w => cown_any k ty n x y s w)
  simp only [Int.toNat_natCast] at HO
  obtain ⟨E, hE⟩ : ∃ E, E = errC k ty n x y s kind ver := ⟨_, rfl⟩
  by_cases h0 : errC k ty n x y s kind ver = 0
  · have HV := Hid.mk' (fun (w : World) (hl : Sl w (.slice a l.length cap) 1 (l.map bcell)) => cput_ok (.slice a l.length cap) l k ty n x y s kind ver w h0 hl (by omega) hk0 hn hx hy (by omega))
    have HR := Hid.mk' (fun w => rcput_ok k ty n x y s kind ver w h0 hk0 hn hx hy (by omega))
    have HPL := Hid.mk' (putC_len hk0 h0 hn)
    clear hn hx hy h0 hE
    go_enter Try.func3, Try.ntmps3
    go_upto_region 3 with (fail)
    go_region_held3 (fun w' => Ext ((w.alloc (.cells #[.int .u8 k, .int .u8 ty, .int .i64 n, .int .u64 x, .int .u64 y, .string s] 26)).alloc (.cells #[.int .u8 kind, .int .u8 ver] 28)) w' ∧ (∀ b o, b < ((w.alloc (.cells #[.int .u8 k, .int .u8 ty, .int .i64 n, .int .u64 x, .int .u64 y, .string s] 26)).alloc (.cells #[.int .u8 kind, .int .u8 ver] 28)).heap.size → w'.cell? ⟨b, o, none⟩ = ((w.alloc (.cells #[.int .u8 k, .int .u8 ty, .int .i64 n, .int .u64 x, .int .u64 y, .string s] 26)).alloc (.cells #[.int .u8 kind, .int .u8 ver] 28)).cell? ⟨b, o, none⟩) ∧ (∀ b o, b < ((w.alloc (.cells #[.int .u8 k, .int .u8 ty, .int .i64 n, .int .u64 x, .int .u64 y, .string s] 26)).alloc (.cells #[.int .u8 kind, .int .u8 ver] 28)).heap.size → w'.frozen? ⟨b, o, none⟩ = ((w.alloc (.cells #[.int .u8 k, .int .u8 ty, .int .i64 n, .int .u64 x, .int .u64 y, .string s] 26)).alloc (.cells #[.int .u8 kind, .int .u8 ver] 28)).frozen? ⟨b, o, none⟩)) ((exact held_of (by (repeat (with_reducible (first | exact Ext.refl _ | assumption | exact held_left (by assumption) | apply Ext.drewN | apply Ext.drew | apply Ext.alloc | (refine Ext.setCell ?_ (by first | (simp; done) | (simp; omega) | omega) _) | (refine Ext.trans ?_ (by assumption)) | (refine Ext.trans ?_ (held_left (by assumption)))))))))
      (first
        | (go_at_call 9; refine (HO.out _).mono ?_; rintro e w1 ⟨rfl, hb1⟩)
        | (go_at_call 8; refine (HV.out _ (HL.out.ext (by (repeat (with_reducible (first | exact Ext.refl _ | assumption | exact held_left (by assumption) | apply Ext.drewN | apply Ext.drew | apply Ext.alloc | (refine Ext.setCell ?_ (by first | (simp; done) | (simp; omega) | omega) _) | (refine Ext.trans ?_ (by assumption)) | (refine Ext.trans ?_ (held_left (by assumption))))))))).mono ?_; rintro e w2 ⟨v2, rfl, ho2, hb2⟩; have hE_w2 : Ext ((w.alloc (.cells #[.int .u8 k, .int .u8 ty, .int .i64 n, .int .u64 x, .int .u64 y, .string s] 26)).alloc (.cells #[.int .u8 kind, .int .u8 ver] 28)) w2 := (by (repeat (with_reducible (first | exact Ext.refl _ | assumption | exact held_left (by assumption) | apply Ext.drewN | apply Ext.drew | apply Ext.alloc | (refine Ext.setCell ?_ (by first | (simp; done) | (simp; omega) | omega) _) | (refine Ext.trans ?_ (by assumption)) | (refine Ext.trans ?_ (held_left (by assumption))))))); obtain ⟨hc_w2, hf_w2⟩ := hE_w2.cells; have hz_w2 := hE_w2.size; have hE2 : Ext w w2 := (by (repeat (with_reducible (first | exact Ext.refl _ | assumption | exact held_left (by assumption) | apply Ext.drewN | apply Ext.drew | apply Ext.alloc | (refine Ext.setCell ?_ (by first | (simp; done) | (simp; omega) | omega) _) | (refine Ext.trans ?_ (by assumption)) | (refine Ext.trans ?_ (held_left (by assumption))))))); have HE2 := Hid.mk' hE2; have HO2 := Hid.mk' ho2; clear ho2 hE2))
    go_upto_region 6 with (first
      | (go_at_call 10; refine (HR.out _).mono ?_; rintro e w3 ⟨v3, rfl, ho3, hb3⟩; have HO3 := Hid.mk' ho3; have HB3 := Hid.mk' hb3; clear ho3 hb3))
    have hE3 : Ext w w3 := HE2.out.trans HB3.out
    have HE3 := Hid.mk' hE3
    clear hE3
    have ho0 : OB (w3.alloc (.cells #[] 5)) w3.heap.size (.slice (some ⟨w3.heap.size, 0, none⟩) 0 0) [] := ⟨rfl, .inr ⟨_, 0, #[], rfl, Nat.le_refl _, Blk.new w3 #[] _, Nat.le_refl _, Nat.zero_le _, rfl, rfl⟩⟩
    have HO0 := Hid.mk' ho0
    clear ho0
    go_wp2_with (at_builtin; refine app_bytes rfl _ _ rfl w3.heap.size (.slice (some ⟨w3.heap.size, 0, none⟩) 0 0) [] rfl HO0.out (.slice a l.length cap) l rfl (HNB.out _ (HE3.out.alloc _)) ?c1 ?c2 ?_)
    case c1 => simp; omega
    case c2 => simp
    intro v4 w4 ho4 hgrow
    have hE4 : Ext w3 w4 := OB.grown ((Ext.refl w3).alloc _) HO0.out hgrow
    have HE4 := Hid.mk' hE4
    have HO4 := Hid.mk' ho4
    clear ho4 hgrow hE4
    have hpl := HPL.out
    go_wp2_with (at_builtin; refine app_bytes rfl _ _ rfl w3.heap.size v4 l rfl HO4.out v3 _ rfl (NB.of_own (HO3.out.ext HE4.out)) ?d1 ?d2 ?_)
    case d1 => omega
    case d2 => exact HE4.out.size
    intro v5 w5 ho5 hgrow
    have hE5 : Ext w3 w5 := OB.grown HE4.out HO4.out hgrow
    have HE5 := Hid.mk' hE5
    have HO5 := Hid.mk' ho5
    clear ho5 hgrow hE5 HO4 HE4
    have cv1 := conv_Sl (HO2.out.sl.ext (HB3.out.trans HE5.out))
    have cv2 := conv_Sl HO5.out.sl
    go_wp2_with (go_at_call 11; refine (awake07_any _).mono ?_; rintro e w7 ⟨rfl, hb7⟩)
    go_ret
    exact ⟨rfl, (HE3.out.trans HE5.out).trans hb7⟩
  · have HV := Hid.mk' (fun (w : World) (hl : Sl w (.slice a l.length cap) 1 (l.map bcell)) => cput_bad (.slice a l.length cap) l k ty n x y s kind ver w h0 hl (by omega) hk0 hn hx hy (by omega))
    have HR := Hid.mk' (fun w => rcput_bad k ty n x y s kind ver w h0 hk0 hn hx hy (by omega))
    rw [← hE] at HV HR h0
    have he0 : (E == 0) = false := by simpa using h0
    clear hn hx hy h0 hE
    have hc := fun w => run_convert_bytes_nil (P := Try.prog) w 29 5 Try.underlying29 Try.underlying5 0 0 9 Try.underlying9
    go_enter Try.func3, Try.ntmps3
    go_upto_region 3 with (fail)
    go_region_held3 (fun w' => Ext ((w.alloc (.cells #[.int .u8 k, .int .u8 ty, .int .i64 n, .int .u64 x, .int .u64 y, .string s] 26)).alloc (.cells #[.int .u8 kind, .int .u8 ver] 28)) w' ∧ (∀ b o, b < ((w.alloc (.cells #[.int .u8 k, .int .u8 ty, .int .i64 n, .int .u64 x, .int .u64 y, .string s] 26)).alloc (.cells #[.int .u8 kind, .int .u8 ver] 28)).heap.size → w'.cell? ⟨b, o, none⟩ = ((w.alloc (.cells #[.int .u8 k, .int .u8 ty, .int .i64 n, .int .u64 x, .int .u64 y, .string s] 26)).alloc (.cells #[.int .u8 kind, .int .u8 ver] 28)).cell? ⟨b, o, none⟩) ∧ (∀ b o, b < ((w.alloc (.cells #[.int .u8 k, .int .u8 ty, .int .i64 n, .int .u64 x, .int .u64 y, .string s] 26)).alloc (.cells #[.int .u8 kind, .int .u8 ver] 28)).heap.size → w'.frozen? ⟨b, o, none⟩ = ((w.alloc (.cells #[.int .u8 k, .int .u8 ty, .int .i64 n, .int .u64 x, .int .u64 y, .string s] 26)).alloc (.cells #[.int .u8 kind, .int .u8 ver] 28)).frozen? ⟨b, o, none⟩)) ((exact held_of (by (repeat (with_reducible (first | exact Ext.refl _ | assumption | exact held_left (by assumption) | apply Ext.drewN | apply Ext.drew | apply Ext.alloc | (refine Ext.setCell ?_ (by first | (simp; done) | (simp; omega) | omega) _) | (refine Ext.trans ?_ (by assumption)) | (refine Ext.trans ?_ (held_left (by assumption)))))))))
      (first
        | (go_at_call 9; refine (HO.out _).mono ?_; rintro e w1 ⟨rfl, hb1⟩)
        | (go_at_call 8; refine (HV.out _ (HL.out.ext (by (repeat (with_reducible (first | exact Ext.refl _ | assumption | exact held_left (by assumption) | apply Ext.drewN | apply Ext.drew | apply Ext.alloc | (refine Ext.setCell ?_ (by first | (simp; done) | (simp; omega) | omega) _) | (refine Ext.trans ?_ (by assumption)) | (refine Ext.trans ?_ (held_left (by assumption))))))))).mono ?_; rintro e w2 ⟨rfl, hb2⟩; have hE_w2 : Ext ((w.alloc (.cells #[.int .u8 k, .int .u8 ty, .int .i64 n, .int .u64 x, .int .u64 y, .string s] 26)).alloc (.cells #[.int .u8 kind, .int .u8 ver] 28)) w2 := (by (repeat (with_reducible (first | exact Ext.refl _ | assumption | exact held_left (by assumption) | apply Ext.drewN | apply Ext.drew | apply Ext.alloc | (refine Ext.setCell ?_ (by first | (simp; done) | (simp; omega) | omega) _) | (refine Ext.trans ?_ (by assumption)) | (refine Ext.trans ?_ (held_left (by assumption))))))); obtain ⟨hc_w2, hf_w2⟩ := hE_w2.cells; have hz_w2 := hE_w2.size; have hE2 : Ext w w2 := (by (repeat (with_reducible (first | exact Ext.refl _ | assumption | exact held_left (by assumption) | apply Ext.drewN | apply Ext.drew | apply Ext.alloc | (refine Ext.setCell ?_ (by first | (simp; done) | (simp; omega) | omega) _) | (refine Ext.trans ?_ (by assumption)) | (refine Ext.trans ?_ (held_left (by assumption))))))); have HE2 := Hid.mk' hE2; clear hE2))
    go_wp2_with (first
      | (go_at_call 10; refine (HR.out _).mono ?_; rintro e w3 ⟨rfl, hb3⟩)
      | (go_at_call 11; refine (awake07_any _).mono ?_; rintro e w7 ⟨rfl, hb7⟩))
    go_ret
    exact ⟨rfl, HE2.out.trans (hb3.trans hb7)⟩

end Go.Proofs.Ytmpnopjkpamhaaa
