/-
The reference's turned, float, Text, Put.
-/
import Derived.Lib.ConvBytes
import Derived.Deep.AppendLies
import Derived.Laws.AppendOwnNone
import Derived.Test.YtdbepkfblfhlhaaP2
namespace Go.Proofs.Ytdbepkfblfhlhaa
open Go.RowKit

def rv (x : Nat) : Nat → Nat
  | 0 => 0
  | k + 1 => 256 * rv x k + x / 256 ^ k % 256
theorem rv_8 (x : Nat) : rv x 8 = rev x := by simp [rv, rev]
theorem rv_lt (x : Nat) : ∀ k, k < 8 → rv x k < 72057594037927936 := by
  intro k hk
  have h : k = 0 ∨ k = 1 ∨ k = 2 ∨ k = 3 ∨ k = 4 ∨ k = 5 ∨ k = 6 ∨ k = 7 := by omega
  rcases h with rfl | rfl | rfl | rfl | rfl | rfl | rfl | rfl <;> simp [rv] <;> omega
theorem word_get (x : Nat) {k : Nat} (hk : k < 8) : (wordL (x : Int)).getD k 0 = ((x / 256 ^ k % 256 : Nat) : Int) := by
  have h : ((2 : Int) ^ (8 * k)) = ((256 ^ k : Nat) : Int) := by rw [show (256 : Nat) = 2 ^ 8 from rfl, ← Nat.pow_mul, Int.natCast_pow]; rfl
  simp only [wordL, byteAt, List.getD, List.getElem?_map, List.getElem?_range hk, Option.map_some, Option.getD_some, h, Int.natCast_emod, Int.natCast_ediv]
  rfl

set_option maxRecDepth 100000 in set_option maxHeartbeats 1600000 in
theorem rturned_any (x : Nat) (w : World) (hx : x < 2 ^ 64) :
    Calls Try.prog 164 #[.int .u64 x] w fun e w' => e = .returned (.int .u64 (rev x)) ∧ Ext w w' := by
  go_enter Try.func164, Try.ntmps164
  go_wp2_with (go_at_call 140; refine (rword_any x _ (by omega) (by omega)).mono ?_; rintro e w1 ⟨v1, rfl, ho1, hb1⟩; have HO1 := Hid.mk' ho1; have HE1 := Hid.mk' hb1; clear ho1 hb1)
  obtain ⟨a, cap, hv, hs⟩ := HO1.out.sl
  subst hv
  have hn : ((wordL (x : Int)).map bcell).length = 8 := by rw [List.length_map, wordL_len]
  rw [hn]
  rcases hs with h0 | ⟨b, o, rfl, hb, hc⟩
  · rw [h0] at hn; cases hn
  have HC : Hid (∀ k, k < 8 → w1.cell? ⟨b, o + k, none⟩ = some (.int .u8 ((x / 256 ^ k % 256 : Nat) : Int))) := Hid.mk' (fun k hk => by
    have := hc k (by rw [hn]; exact hk) 0 (by omega)
    rw [Nat.mul_one, Nat.add_zero] at this
    rw [this, ← word_get x hk]
    simp [bcell, List.getD, List.getElem?_map, List.getElem?_eq_getElem (show k < (wordL (x : Int)).length by rw [wordL_len]; exact hk)])
  clear hc hn HO1
  go_wp2
  go_loop [4, 5] (fun t i => ∃ k : Nat, k ≤ 8 ∧ i = .int .i64 k ∧ t = .int .u64 (rv x k)) (fun _ i => 8 - (intOf i).toNat)
  case atStart => exact ⟨0, by omega, rfl, rfl⟩
  case round =>
    obtain ⟨k, hk, rfl, rfl⟩ := hrel
    by_cases hlt : k < 8
    · have h1 := rv_lt x k hlt
      have h2 := HC.out k hlt
      obtain ⟨q, hq⟩ : ∃ q : Nat, q = x / 256 ^ k % 256 := ⟨_, rfl⟩
      rw [← hq] at h2
      have h3 : q < 256 := by omega
      have HN : Hid (((rv x (k + 1) : Nat) : Int) = 256 * (rv x k : Int) + (q : Int)) := Hid.mk' (by rw [rv, ← hq]; push_cast; rfl)
      clear hq
      go_wp2
      go_round
      case rel => exact ⟨k + 1, by omega, by go_num, by rw [HN.out]⟩
      case measure => simp [intOf]; omega
    · have hkk : k = 8 := by omega
      subst hkk
      have HN : Hid (((rv x 8 : Nat) : Int) = rev x) := Hid.mk' (by rw [rv_8])
      go_wp2
      go_ret
      exact ⟨ret_int HN.out, HE1.out⟩

set_option maxRecDepth 100000 in set_option maxHeartbeats 1600000 in
theorem rfloat_any (x : Nat) (ver : Int) (w : World) (hx : x < 2 ^ 64) :
    Calls Try.prog 142 #[.int .u64 x, .int .u8 ver] w fun e w' => ∃ v', e = .returned v' ∧ OB w' w.heap.size v' (floatL x ver) ∧ Ext w w' := by
  have HX := Hid.mk' hx
  clear hx
  by_cases h1 : ver = 1
  · subst h1
    go_enter Try.func142, Try.ntmps142
    go_wp2_with (go_at_call 140; refine (rword_any x _ (by omega) (by have := HX.out; omega)).mono ?_; rintro e w1 ⟨v1, rfl, ho1, hb1⟩; have HO1 := Hid.mk' ho1; have HE1 := Hid.mk' hb1; clear ho1 hb1)
    go_ret
    exact ⟨_, rfl, by unfold floatL; rw [if_pos rfl]; exact HO1.out, HE1.out⟩
  · go_enter Try.func142, Try.ntmps142
    go_wp2_with (first
      | (go_at_call 164; refine (rturned_any x _ HX.out).mono ?_; rintro e w0 ⟨rfl, hb0⟩; have HE0 := Hid.mk' hb0; clear hb0)
      | (go_at_call 114; refine (ruint_any (rev x) _ rev_lt).mono ?_; rintro e w1 ⟨v1, rfl, ho1, hb1⟩; have HO1 := Hid.mk' ho1; have HE1 := Hid.mk' hb1; clear ho1 hb1))
    go_ret
    exact ⟨_, rfl, by unfold floatL; rw [if_neg h1]; exact HO1.out.base HE0.out.size, HE0.out.trans HE1.out⟩

theorem ext_bytesWorld (w : World) (e : TypeId) (s : ByteArray) : Ext w (Go.Lib.bytesWorld w e s) :=
  ⟨rfl, rfl, rfl, by rw [Go.Lib.bytesWorld_size]; omega, fun k hk => Go.Lib.bytesWorld_at_old w e s k hk⟩
theorem news_bytesWorld (w : World) (e : TypeId) (s : ByteArray) : ∀ j u, (bs (strL s))[j]? = some u → (Go.Lib.bytesWorld w e s).cell? ((⟨w.heap.size, 0, none⟩ : Addr).add j) = some u := by
  refine bytes_news fun i hi => ?_
  rw [strL_len] at hi
  rw [Nat.zero_add, Go.Lib.bytesWorld_cell w e s i hi]
  have h : i < s.data.toList.length := by simpa using hi
  simp [strL, List.getD, List.getElem?_map, List.getElem?_eq_getElem h]
theorem conv_str (w : World) (s : ByteArray) : (convert 9 80 (.string s)).run Try.prog w = .ok (.slice (some ⟨w.heap.size, 0, none⟩) s.size (grownCap w s.size 0 5)) (Go.Lib.bytesWorld w 5 s) :=
  Go.Lib.run_convert_string_bytes w _ _ _ s Try.underlying9 Try.underlying80 Try.underlying5

set_option maxRecDepth 100000 in set_option maxHeartbeats 1600000 in
theorem rtext_any (s : ByteArray) (w : World) (hs : s.size ≤ 1000000) :
    Calls Try.prog 143 #[.string s] w fun e w' => ∃ v', e = .returned v' ∧ OB w' w.heap.size v' (sevens s.size ++ strL s) ∧ Ext w w' := by
  obtain ⟨i0, hi, hz0, hz1, hz2⟩ := info_parts Try.infoU8
  have HX := Hid.mk' (sevens_len10 (x := s.size) (by omega))
  have hcv := fun w => conv_str w s
  go_enter Try.func143, Try.ntmps143
  go_wp2_with (first
    | (go_at_call 114; refine (ruint_any s.size _ (by omega)).mono ?_; rintro e w1 ⟨v1, rfl, ho1, hb1⟩; have HO1 := Hid.mk' ho1; have HE1 := Hid.mk' hb1; clear ho1 hb1)
    | (at_builtin; refine wpList_append_own _ rfl _ _ 80 rfl w.heap.size 5 i0 _ 1 1 Try.underlying80 hi hz0 hz1 hz2 rfl (by decide) _ _ _ rfl (HO1.out.ext (ext_bytesWorld w1 5 s)) _ s.size _ (bs (strL s)) rfl (by rw [bs_len, strL_len, Nat.mul_one]) (news_bytesWorld w1 5 s) (bs_one _) ?c3 ?c4 ?c5 ?_))
  case c3 => have := HX.out; unfold maxLen; omega
  case c4 => have := HX.out; omega
  case c5 => exact (HE1.out.trans (ext_bytesWorld w1 5 s)).size
  intro v2 w2 hown hgrow _
  have hE2 := OB.grown (HE1.out.trans (ext_bytesWorld w1 5 s)) (HO1.out.ext (ext_bytesWorld w1 5 s)) hgrow
  have HO := Hid.mk' (OB.push hown (by rw [strL_len]))
  have HE2 := Hid.mk' hE2
  clear hown hgrow hE2
  go_wp2
  go_ret
  exact ⟨_, rfl, HO.out, HE2.out⟩

end Go.Proofs.Ytdbepkfblfhlhaa

/-
The reference's Put of a complex number.
-/
namespace Go.Proofs.Ytdbepkfblfhlhaa
open Go.RowKit

theorem OB.of_blk {w : World} {g : Nat} {l : List Int} {base n : Nat} (h : Blk w g (bs l).toArray 5) (hb : base ≤ g) (hn : n = l.length) (hl : l.length ≤ 1000000) : OB w base (.slice (some ⟨g, 0, none⟩) n n) l := by
  subst hn
  refine ⟨by rw [bs_len, Nat.mul_one], .inr ⟨g, l.length, (bs l).toArray, rfl, hb, h, Nat.le_refl _, by unfold maxLen; omega, by simp [bs], ?_⟩⟩
  rw [Nat.mul_one, List.toList_toArray, ← bs_len l, List.take_length]

/-- A store into what a call owns. -/
theorem OB.stored {w : World} {base g cap n : Nat} {l : List Int} (h : OB w base (.slice (some ⟨g, 0, none⟩) n cap) l) (j : Nat) (x : Int) : OB (w.setCell ⟨g, j, none⟩ (.int .u8 x)) base (.slice (some ⟨g, 0, none⟩) n cap) (l.set j x) := by
  obtain ⟨a, c, hv⟩ := h.shape
  simp only [Value.slice.injEq] at hv
  obtain ⟨_, rfl, _⟩ := hv
  have := (World.ownsRow.stored h j (.int .u8 x)).1
  unfold OB
  rw [List.length_set]
  have e : bs (l.set j x) = (bs l).set j (.int .u8 x) := by simp [bs, List.map_set]
  rw [e]; exact this
theorem OB.form {w : World} {base : Nat} {v : Value} {l : List Int} (h : OB w base v l) (hl : 0 < l.length) : ∃ g cap, v = .slice (some ⟨g, 0, none⟩) l.length cap ∧ base ≤ g ∧ g < w.heap.size ∧ (∀ j, w.frozen? ⟨g, j, none⟩ = false) ∧ (∀ j, j < l.length → w.cell? ⟨g, j, none⟩ = some (.int .u8 (l.getD j 0))) := by
  obtain ⟨g, cap, rfl, hb, hlt⟩ := World.ownsRow.form h hl
  refine ⟨g, cap, rfl, hb, hlt, fun j => World.ownsRow.frozenAt h j, fun j hj => ?_⟩
  rw [World.ownsRow.cellAt h j (by omega)]
  simp [bs, List.getD, List.getElem?_map, List.getElem?_eq_getElem hj]


theorem OB.news {w : World} {base : Nat} {v : Value} {l : List Int} (h : OB w base v l) : ∀ g, v.ownBlock = some g → ∀ j u, (bs l)[j]? = some u → w.cell? ((⟨g, 0, none⟩ : Addr).add j) = some u := fun _ hg => World.ownsRow.cells h hg

theorem sevens_pos (x : Nat) : 0 < (sevens x).length := by
  by_cases h : x < 128
  · rw [sevens_lt h]; simp
  · rw [sevens_ge h]; simp
theorem floatL_pos {x : Nat} {ver : Int} : 0 < (floatL x ver).length := by
  unfold floatL; split
  · rw [wordL_len]; omega
  · exact sevens_pos _
theorem floatL_1 (x : Nat) : (floatL x 1).length = 8 := by unfold floatL; rw [if_pos rfl, wordL_len]

set_option maxRecDepth 100000 in set_option maxHeartbeats 1600000 in
theorem rput41_any (n : Int) (x y : Nat) (s : ByteArray) (w : World) (hx : x < 2 ^ 64) (hy : y < 2 ^ 64)
    (HR : Hid (∀ w, Calls Try.prog 120 #[.agg #[.int .u8 4, .int .i64 n, .int .u64 x, .int .u64 y, .string s]] w fun e w' => e = .returned (.int .i64 0) ∧ Ext w w')) :
    Calls Try.prog 116 #[.agg #[.int .u8 4, .int .i64 n, .int .u64 x, .int .u64 y, .string s], .int .u8 1] w fun e w' => ∃ v', e = .returned (.tuple #[v', .int .i64 0]) ∧ OB w' w.heap.size v' (complexL x y 1) ∧ Ext w w' := by
  obtain ⟨i0, hi, hz0, hz1, hz2⟩ := info_parts Try.infoU8
  have HX := Hid.mk' (And.intro hx hy)
  have HFX := Hid.mk' (fun (z : Nat) (ver : Int) => floatL_len (x := z) (ver := ver))
  clear hx hy
  go_enter Try.func116, Try.ntmps116
  go_upto_region 17 with (first
    | (go_at_call 120; refine (HR.out _).mono ?_; rintro e w1 ⟨rfl, hb1⟩; have h1 := (Blk.new w #[.int .u8 4, .int .i64 n, .int .u64 x, .int .u64 y, .string s] 59).ext hb1; have hE1 : Ext w w1 := (by (repeat (with_reducible (first | exact Ext.refl _ | assumption | exact held_left (by assumption) | apply Ext.drewN | apply Ext.drew | apply Ext.alloc | (refine Ext.setCell ?_ (by first | (simp; done) | (simp; omega) | omega) _) | (refine Ext.trans ?_ (by assumption)) | (refine Ext.trans ?_ (held_left (by assumption))))))); have k1 := h1.cell; have z1 := h1.lt))
  go_region_held3 (fun w' => Ext (w1) w' ∧ (∀ b o, b < (w1).heap.size → w'.cell? ⟨b, o, none⟩ = (w1).cell? ⟨b, o, none⟩) ∧ (∀ b o, b < (w1).heap.size → w'.frozen? ⟨b, o, none⟩ = (w1).frozen? ⟨b, o, none⟩)) ((exact held_of (by (repeat (with_reducible (first | exact Ext.refl _ | assumption | exact held_left (by assumption) | apply Ext.drewN | apply Ext.drew | apply Ext.alloc | (refine Ext.setCell ?_ (by first | (simp; done) | (simp; omega) | omega) _) | (refine Ext.trans ?_ (by assumption)) | (refine Ext.trans ?_ (held_left (by assumption)))))))))
    (first
      | ((refine step_append_lies _ (by rfl) _ _ 80 (by rfl) w1.heap.size 5 i0 _ 1 1 Try.underlying80 hi hz0 hz1 hz2 rfl (by decide) _ _ _ (by rfl) (HO2.out.ext HB3.out) ⟨g3, 0, none⟩ _ cap3 (bs (floatL y 1)) (by rfl) (by rw [bs_len, Nat.mul_one]) (HO3.out.news _ rfl) (bs_one _) floatL_pos (by unfold maxLen; rw [floatL_1, floatL_1]; omega) (by rw [floatL_1, floatL_1]; omega) (HE2.out.trans HB3.out).size _ rfl ?_; intro g4 cap4 w4 hown hgrow hat hlt; have hE4 : Ext w1 w4 := OB.grown (HE2.out.trans HB3.out) (HO2.out.ext HB3.out) hgrow; have HO4 := Hid.mk' hown; clear hown hgrow hat hlt))
      | (go_at_call_of 142 (Value.int IntKind.u64 (x : Int)); refine (rfloat_any x 1 _ HX.out.1).mono ?_; rintro e w2 ⟨v2, rfl, ho2, hb2⟩; have hE2' : Ext w1 w2 := (by (repeat (with_reducible (first | exact Ext.refl _ | assumption | exact held_left (by assumption) | apply Ext.drewN | apply Ext.drew | apply Ext.alloc | (refine Ext.setCell ?_ (by first | (simp; done) | (simp; omega) | omega) _) | (refine Ext.trans ?_ (by assumption)) | (refine Ext.trans ?_ (held_left (by assumption))))))); have HE2 := Hid.mk' hE2'; clear hE2'; have HO2 : Hid (OB w2 w1.heap.size v2 (floatL x 1)) := ho2; clear ho2)
      | (go_at_call_of 142 (Value.int IntKind.u64 (y : Int)); refine (rfloat_any y 1 _ HX.out.2).mono ?_; rintro e w3 ⟨v3, rfl, ho3, hb3⟩; obtain ⟨g3, cap3, rfl, -, hg3, -, -⟩ := OB.form ho3 floatL_pos; have HO3 := Hid.mk' ho3; have hE3' : Ext w2 w3 := (by (repeat (with_reducible (first | exact Ext.refl _ | assumption | exact held_left (by assumption) | apply Ext.drewN | apply Ext.drew | apply Ext.alloc | (refine Ext.setCell ?_ (by first | (simp; done) | (simp; omega) | omega) _) | (refine Ext.trans ?_ (by assumption)) | (refine Ext.trans ?_ (held_left (by assumption))))))); have HB3 := Hid.mk' hE3'; clear hE3'; clear ho3))
  go_wp2
  go_ret2
  refine ⟨_, rfl, ?_, hE1.trans hE4⟩
  unfold complexL
  rw [if_neg (by decide)]
  exact OB.base (OB.push HO4.out rfl) hE1.size

set_option maxRecDepth 100000 in set_option maxHeartbeats 1600000 in
theorem rput400_any (n : Int) (s : ByteArray) (w : World)
    (HR : Hid (∀ w, Calls Try.prog 120 #[.agg #[.int .u8 4, .int .i64 n, .int .u64 (0 : Nat), .int .u64 (0 : Nat), .string s]] w fun e w' => e = .returned (.int .i64 0) ∧ Ext w w')) :
    Calls Try.prog 116 #[.agg #[.int .u8 4, .int .i64 n, .int .u64 (0 : Nat), .int .u64 (0 : Nat), .string s], .int .u8 2] w fun e w' => ∃ v', e = .returned (.tuple #[v', .int .i64 0]) ∧ OB w' w.heap.size v' (complexL 0 0 2) ∧ Ext w w' := by
  go_enter Try.func116, Try.ntmps116
  go_wp2_with (first
    | (go_at_call 120; refine (HR.out _).mono ?_; rintro e w1 ⟨rfl, hb1⟩; have h1 := (Blk.new w #[.int .u8 4, .int .i64 n, .int .u64 (0 : Nat), .int .u64 (0 : Nat), .string s] 59).ext hb1; have hE1 : Ext w w1 := (by (repeat (with_reducible (first | exact Ext.refl _ | assumption | exact held_left (by assumption) | apply Ext.drewN | apply Ext.drew | apply Ext.alloc | (refine Ext.setCell ?_ (by first | (simp; done) | (simp; omega) | omega) _) | (refine Ext.trans ?_ (by assumption)) | (refine Ext.trans ?_ (held_left (by assumption))))))); have k1 := h1.cell; have z1 := h1.lt))
  go_ret2
  refine ⟨_, rfl, ?_, hE1.alloc _⟩
  exact OB.of_blk (l := [0]) (Blk.new _ _ _) hE1.size rfl (by decide)

set_option maxRecDepth 100000 in set_option maxHeartbeats 1600000 in
theorem rput401_any (n : Int) (y : Nat) (s : ByteArray) (w : World) (hy0 : 1 ≤ y) (hy : y < 2 ^ 64)
    (HR : Hid (∀ w, Calls Try.prog 120 #[.agg #[.int .u8 4, .int .i64 n, .int .u64 (0 : Nat), .int .u64 y, .string s]] w fun e w' => e = .returned (.int .i64 0) ∧ Ext w w')) :
    Calls Try.prog 116 #[.agg #[.int .u8 4, .int .i64 n, .int .u64 (0 : Nat), .int .u64 y, .string s], .int .u8 2] w fun e w' => ∃ v', e = .returned (.tuple #[v', .int .i64 0]) ∧ OB w' w.heap.size v' (complexL 0 y 2) ∧ Ext w w' := by
  obtain ⟨i0, hi, hz0, hz1, hz2⟩ := info_parts Try.infoU8
  have HX := Hid.mk' (And.intro hy hy)
  have HFX := Hid.mk' (fun (z : Nat) (ver : Int) => floatL_len (x := z) (ver := ver))
  clear hy
  have HOUT : Hid (complexL 0 y 2 = [2] ++ floatL y 2) := Hid.mk' (by unfold complexL markOf; simp [show ¬ y = 0 by omega])
  go_enter Try.func116, Try.ntmps116
  go_wp2_with (first
    | (go_at_call 120; refine (HR.out _).mono ?_; rintro e w1 ⟨rfl, hb1⟩; have h1 := (Blk.new w #[.int .u8 4, .int .i64 n, .int .u64 (0 : Nat), .int .u64 y, .string s] 59).ext hb1; have hE1 : Ext w w1 := (by (repeat (with_reducible (first | exact Ext.refl _ | assumption | exact held_left (by assumption) | apply Ext.drewN | apply Ext.drew | apply Ext.alloc | (refine Ext.setCell ?_ (by first | (simp; done) | (simp; omega) | omega) _) | (refine Ext.trans ?_ (by assumption)) | (refine Ext.trans ?_ (held_left (by assumption))))))); have k1 := h1.cell; have z1 := h1.lt)
    | (go_at_call_of 142 (Value.int IntKind.u64 (y : Int)); refine (rfloat_any y 2 _ HX.out.2).mono ?_; rintro e w2 ⟨v2, rfl, ho2, hb2⟩; have HB2 := Hid.mk' hb2; obtain ⟨g2, cap2, rfl, -, hg2, -, -⟩ := OB.form ho2 floatL_pos; have HO2 := Hid.mk' ho2; clear ho2 hb2)
    | (at_builtin; refine wpList_append_own _ rfl _ _ 80 rfl w.heap.size 5 i0 _ 1 1 Try.underlying80 hi hz0 hz1 hz2 rfl (by decide) _ 1 _ rfl ((OB.of_blk (l := [2]) (base := w.heap.size) (Blk.new w1 _ _) hE1.size rfl (by decide)).ext HB2.out) ⟨g2, 0, none⟩ _ cap2 (bs (floatL y 2)) rfl (by rw [bs_len, Nat.mul_one]) (HO2.out.news _ rfl) (bs_one _) ?c3 ?c4 ?c5 ?_))
  case c3 => have := HFX.out y 2; unfold maxLen; omega
  case c4 => have := HFX.out y 2; omega
  case c5 => exact ((hE1.alloc _).trans HB2.out).size
  intro v3 w3 hown hgrow _
  have hE3 := OB.grown ((hE1.alloc _).trans HB2.out) ((OB.of_blk (l := [2]) (base := w.heap.size) (Blk.new w1 _ _) hE1.size rfl (by decide)).ext HB2.out) hgrow
  have HO3 := Hid.mk' (OB.push hown rfl)
  have HE3 := Hid.mk' hE3
  clear hown hgrow hE3
  go_wp2
  go_ret2
  exact ⟨_, rfl, by rw [HOUT.out]; exact HO3.out, HE3.out⟩

set_option maxRecDepth 100000 in set_option maxHeartbeats 1600000 in
theorem rput410_any (n : Int) (x : Nat) (s : ByteArray) (w : World) (hx0 : 1 ≤ x) (hx : x < 2 ^ 64)
    (HR : Hid (∀ w, Calls Try.prog 120 #[.agg #[.int .u8 4, .int .i64 n, .int .u64 x, .int .u64 (0 : Nat), .string s]] w fun e w' => e = .returned (.int .i64 0) ∧ Ext w w')) :
    Calls Try.prog 116 #[.agg #[.int .u8 4, .int .i64 n, .int .u64 x, .int .u64 (0 : Nat), .string s], .int .u8 2] w fun e w' => ∃ v', e = .returned (.tuple #[v', .int .i64 0]) ∧ OB w' w.heap.size v' (complexL x 0 2) ∧ Ext w w' := by
  obtain ⟨i0, hi, hz0, hz1, hz2⟩ := info_parts Try.infoU8
  have HX := Hid.mk' (And.intro hx hx)
  have HFX := Hid.mk' (fun (z : Nat) (ver : Int) => floatL_len (x := z) (ver := ver))
  clear hx
  have HOUT : Hid (complexL x 0 2 = [1] ++ floatL x 2) := Hid.mk' (by unfold complexL markOf; simp [show ¬ x = 0 by omega])
  go_enter Try.func116, Try.ntmps116
  go_wp2_with (first
    | (go_at_call 120; refine (HR.out _).mono ?_; rintro e w1 ⟨rfl, hb1⟩; have h1 := (Blk.new w #[.int .u8 4, .int .i64 n, .int .u64 x, .int .u64 (0 : Nat), .string s] 59).ext hb1; have hE1 : Ext w w1 := (by (repeat (with_reducible (first | exact Ext.refl _ | assumption | exact held_left (by assumption) | apply Ext.drewN | apply Ext.drew | apply Ext.alloc | (refine Ext.setCell ?_ (by first | (simp; done) | (simp; omega) | omega) _) | (refine Ext.trans ?_ (by assumption)) | (refine Ext.trans ?_ (held_left (by assumption))))))); have k1 := h1.cell; have z1 := h1.lt)
    | (go_at_call_of 142 (Value.int IntKind.u64 (x : Int)); refine (rfloat_any x 2 _ HX.out.1).mono ?_; rintro e w2 ⟨v2, rfl, ho2, hb2⟩; have HB2 := Hid.mk' hb2; obtain ⟨g2, cap2, rfl, -, hg2, -, -⟩ := OB.form ho2 floatL_pos; have HO2 := Hid.mk' ho2; clear ho2 hb2)
    | (at_builtin; refine wpList_append_own _ rfl _ _ 80 rfl w.heap.size 5 i0 _ 1 1 Try.underlying80 hi hz0 hz1 hz2 rfl (by decide) _ 1 _ rfl ((OB.of_blk (l := [1]) (base := w.heap.size) (Blk.new w1 _ _) hE1.size rfl (by decide)).ext HB2.out) ⟨g2, 0, none⟩ _ cap2 (bs (floatL x 2)) rfl (by rw [bs_len, Nat.mul_one]) (HO2.out.news _ rfl) (bs_one _) ?c3 ?c4 ?c5 ?_))
  case c3 => have := HFX.out x 2; unfold maxLen; omega
  case c4 => have := HFX.out x 2; omega
  case c5 => exact ((hE1.alloc _).trans HB2.out).size
  intro v3 w3 hown hgrow _
  have hE3 : Ext w1 w3 := OB.grown (W := w1) (((Ext.refl w1).alloc _).trans HB2.out) ((OB.of_blk (l := [1]) (base := w1.heap.size) (Blk.new w1 _ _) (Nat.le_refl _) rfl (by decide)).ext HB2.out) hgrow
  have HO3 := Hid.mk' (OB.push hown rfl)
  have HE3 := Hid.mk' hE3
  have h3 := h1.ext hE3
  have k3 := h3.cell
  have z3 := h3.lt
  clear hown hgrow hE3
  go_wp2
  go_ret2
  exact ⟨_, rfl, by rw [HOUT.out]; exact HO3.out, hE1.trans HE3.out⟩

set_option maxRecDepth 100000 in set_option maxHeartbeats 1600000 in
theorem rput411_any (n : Int) (x y : Nat) (s : ByteArray) (w : World) (hx0 : 1 ≤ x) (hy0 : 1 ≤ y) (hx : x < 2 ^ 64) (hy : y < 2 ^ 64)
    (HR : Hid (∀ w, Calls Try.prog 120 #[.agg #[.int .u8 4, .int .i64 n, .int .u64 x, .int .u64 y, .string s]] w fun e w' => e = .returned (.int .i64 0) ∧ Ext w w')) :
    Calls Try.prog 116 #[.agg #[.int .u8 4, .int .i64 n, .int .u64 x, .int .u64 y, .string s], .int .u8 2] w fun e w' => ∃ v', e = .returned (.tuple #[v', .int .i64 0]) ∧ OB w' w.heap.size v' (complexL x y 2) ∧ Ext w w' := by
  obtain ⟨i0, hi, hz0, hz1, hz2⟩ := info_parts Try.infoU8
  have HX := Hid.mk' (And.intro hx hy)
  have HFX := Hid.mk' (fun (z : Nat) (ver : Int) => floatL_len (x := z) (ver := ver))
  clear hx hy
  have HOUT : Hid (complexL x y 2 = ([3] ++ floatL x 2) ++ floatL y 2) := Hid.mk' (by unfold complexL markOf; simp [show ¬ x = 0 by omega, show ¬ y = 0 by omega])
  go_enter Try.func116, Try.ntmps116
  go_wp2_with (first
    | (go_at_call 120; refine (HR.out _).mono ?_; rintro e w1 ⟨rfl, hb1⟩; have h1 := (Blk.new w #[.int .u8 4, .int .i64 n, .int .u64 x, .int .u64 y, .string s] 59).ext hb1; have hE1 : Ext w w1 := (by (repeat (with_reducible (first | exact Ext.refl _ | assumption | exact held_left (by assumption) | apply Ext.drewN | apply Ext.drew | apply Ext.alloc | (refine Ext.setCell ?_ (by first | (simp; done) | (simp; omega) | omega) _) | (refine Ext.trans ?_ (by assumption)) | (refine Ext.trans ?_ (held_left (by assumption))))))); have k1 := h1.cell; have z1 := h1.lt)
    | (go_at_call_of 142 (Value.int IntKind.u64 (x : Int)); refine (rfloat_any x 2 _ HX.out.1).mono ?_; rintro e w2 ⟨v2, rfl, ho2, hb2⟩; have HB2 := Hid.mk' hb2; obtain ⟨g2, cap2, rfl, -, hg2, -, -⟩ := OB.form ho2 floatL_pos; have HO2 := Hid.mk' ho2; clear ho2 hb2)
    | (at_builtin; refine wpList_append_own _ rfl _ _ 80 rfl w1.heap.size 5 i0 _ 1 1 Try.underlying80 hi hz0 hz1 hz2 rfl (by decide) _ 1 _ rfl ((OB.of_blk (l := [1]) (base := w1.heap.size) (Blk.new w1 _ _) (Nat.le_refl _) rfl (by decide)).ext HB2.out) ⟨g2, 0, none⟩ _ cap2 (bs (floatL x 2)) rfl (by rw [bs_len, Nat.mul_one]) (HO2.out.news _ rfl) (bs_one _) ?c3 ?c4 ?c5 ?_))
  case c3 => have := HFX.out x 2; unfold maxLen; omega
  case c4 => have := HFX.out x 2; omega
  case c5 => exact (((Ext.refl w1).alloc _).trans HB2.out).size
  intro v3 w3 hown hgrow _
  have hE3 : Ext w1 w3 := OB.grown (W := w1) (((Ext.refl w1).alloc _).trans HB2.out) ((OB.of_blk (l := [1]) (base := w1.heap.size) (Blk.new w1 _ _) (Nat.le_refl _) rfl (by decide)).ext HB2.out) hgrow
  have hob := OB.push hown rfl
  obtain ⟨g4, cap4, rfl, hb4, hl4, f4, c4⟩ := OB.form hob (by simp)
  have c40 : w3.cell? ⟨g4, 0, none⟩ = some (.int .u8 1) := c4 0 (by simp)
  have f40 := f4 0
  have HC4 := Hid.mk' c4
  have HF4 := Hid.mk' f4
  have hl3 : 1 ≤ ([1] ++ floatL x 2).length := by simp
  have HL3 : Hid (([1] ++ floatL x 2).length ≤ 20) := Hid.mk' (by have := HFX.out x 2; simp; omega)
  have h3 := h1.ext hE3
  have k3 := h3.cell
  have z3 := h3.lt
  have hne : w.heap.size ≠ g4 := by have := h1.lt; omega
  have hOS := OB.stored hob 0 3
  have hES : Ext w1 (w3.setCell ⟨g4, 0, none⟩ (.int .u8 3)) := hE3.setCell hb4 _
  have h5 := h1.ext hES
  have k5 := h5.cell
  have HE3 := Hid.mk' hE3
  have HOS := Hid.mk' hOS
  have HES := Hid.mk' hES
  clear hown hgrow hE3 hob c4 f4 hOS hES
  go_wp2_with (first
    | (go_at_call_of 142 (Value.int IntKind.u64 (y : Int)); refine (rfloat_any y 2 _ HX.out.2).mono ?_; rintro e w6 ⟨v6, rfl, ho6, hb6⟩; have HB6 := Hid.mk' hb6; obtain ⟨g6, cap6, rfl, -, hg6, -, -⟩ := OB.form ho6 floatL_pos; have HO6 := Hid.mk' ho6; clear ho6 hb6)
    | (at_builtin; refine wpList_append_own _ rfl _ _ 80 rfl w1.heap.size 5 i0 _ 1 1 Try.underlying80 hi hz0 hz1 hz2 rfl (by decide) _ _ _ rfl (HOS.out.ext HB6.out) ⟨g6, 0, none⟩ _ cap6 (bs (floatL y 2)) rfl (by rw [bs_len, Nat.mul_one]) (HO6.out.news _ rfl) (bs_one _) ?d3 ?d4 ?d5 ?_))
  case d3 => have := HFX.out y 2; have := HL3.out; unfold maxLen; simp at *; omega
  case d4 => have := HFX.out y 2; have := HL3.out; simp at *; omega
  case d5 => exact (HES.out.trans HB6.out).size
  intro v7 w7 hown hgrow _
  have hE7 : Ext w1 w7 := OB.grown (HES.out.trans HB6.out) (HOS.out.ext HB6.out) hgrow
  have HO7 := Hid.mk' (OB.push hown (by simp))
  have HE7 := Hid.mk' hE7
  clear hown hgrow hE7
  go_wp2
  go_ret2
  refine ⟨_, rfl, ?_, hE1.trans HE7.out⟩
  rw [HOUT.out]
  exact OB.base HO7.out hE1.size

theorem rput4_any (n : Int) (x y : Nat) (s : ByteArray) (ver : Int) (w : World) (hx : x < 2 ^ 64) (hy : y < 2 ^ 64) (hv : ver = 1 ∨ ver = 2)
    (HR : Hid (∀ w, Calls Try.prog 120 #[.agg #[.int .u8 4, .int .i64 n, .int .u64 x, .int .u64 y, .string s]] w fun e w' => e = .returned (.int .i64 0) ∧ Ext w w')) :
    Calls Try.prog 116 #[.agg #[.int .u8 4, .int .i64 n, .int .u64 x, .int .u64 y, .string s], .int .u8 ver] w fun e w' => ∃ v', e = .returned (.tuple #[v', .int .i64 0]) ∧ OB w' w.heap.size v' (complexL x y ver) ∧ Ext w w' := by
  rcases hv with rfl | rfl
  · exact rput41_any n x y s w hx hy HR
  · by_cases hx0 : x = 0 <;> by_cases hy0 : y = 0
    · subst hx0; subst hy0; exact rput400_any n s w HR
    · subst hx0; exact rput401_any n y s w (by omega) hy HR
    · subst hy0; exact rput410_any n x s w (by omega) hx HR
    · exact rput411_any n x y s w (by omega) (by omega) hx hy HR

end Go.Proofs.Ytdbepkfblfhlhaa

/-
The reference's Put of a value.
-/
namespace Go.Proofs.Ytdbepkfblfhlhaa
open Go.RowKit

def RPutPost (ty n : Int) (x y : Nat) (s : ByteArray) (ver : Int) (w : World) (e : Ending) (w' : World) : Prop :=
  ∃ v', e = .returned (.tuple #[v', .int .i64 (errV ty n x y s ver)]) ∧ (errV ty n x y s ver = 0 → OB w' w.heap.size v' (putL ty n x y s ver)) ∧ (errV ty n x y s ver ≠ 0 → v' = .slice none 0 0) ∧ Ext w w'

set_option maxRecDepth 100000 in set_option maxHeartbeats 1600000 in
theorem rput_any (ty n : Int) (x y : Nat) (s : ByteArray) (ver : Int) (w : World) (hn : -9223372036854775808 ≤ n ∧ n < 9223372036854775808) (hx : x < 2 ^ 64) (hy : y < 2 ^ 64) (hs : s.size ≤ 9223372036854775807) :
    Calls Try.prog 116 #[.agg #[.int .u8 ty, .int .i64 n, .int .u64 x, .int .u64 y, .string s], .int .u8 ver] w (RPutPost ty n x y s ver w) := by
  obtain ⟨i0, hi, hz0, hz1, hz2⟩ := info_parts Try.infoU8
  have HX := Hid.mk' (And.intro hx hy)
  have HN := Hid.mk' hn
  have HR := Hid.mk' (fun w => rright_any ty n x y s w hs)
  clear hx hy hs hn
  by_cases hv : ver = 1 ∨ ver = 2
  · have he : errV ty n x y s ver = rightV ty n x y s := by unfold errV; rw [if_pos hv]
    obtain ⟨R, hR⟩ : ∃ R, R = rightV ty n x y s := ⟨_, rfl⟩
    rw [← hR] at HR he
    have HE := Hid.mk' he
    have HRR := Hid.mk' hR
    clear he hR
    by_cases h0 : R = 0
    · subst h0
      have hz := right_zero HRR.out.symm
      have ht : ty = 1 ∨ ty = 2 ∨ ty = 3 ∨ ty = 4 ∨ ty = 5 ∨ ty = 6 := by omega
      have hs2 : s.size ≤ 2048 := hz.2.2.1
      have HZ := Hid.mk' hz
      clear hz
      have HVV := Hid.mk' hv
      clear hv
      rcases ht with rfl | rfl | rfl | rfl | rfl | rfl
      · rcases HZ.out.2.2.2.1 rfl with hn01 | hn01
        all_goals
          subst hn01
          rcases HVV.out with rfl | rfl
          all_goals
            go_enter Try.func116, Try.ntmps116
            go_wp2_with (go_at_call 120; refine (HR.out _).mono ?_; rintro e w1 ⟨rfl, hb1⟩; have h1 := (Blk.new w #[.int .u8 1, .int .i64 _, .int .u64 x, .int .u64 y, .string s] 59).ext hb1; have hE1 : Ext w w1 := (by (repeat (with_reducible (first | exact Ext.refl _ | assumption | exact held_left (by assumption) | apply Ext.drewN | apply Ext.drew | apply Ext.alloc | (refine Ext.setCell ?_ (by first | (simp; done) | (simp; omega) | omega) _) | (refine Ext.trans ?_ (by assumption)) | (refine Ext.trans ?_ (held_left (by assumption))))))); have k1 := h1.cell; have z1 := h1.lt)
            go_ret2
            exact ⟨_, by rw [HE.out]; rfl, fun _ => OB.of_blk (l := [_]) (Blk.new _ _ _) hE1.size rfl (by decide), fun h => absurd HE.out h, hE1.alloc _⟩
      · rcases HVV.out with rfl | rfl
        · have hw : 0 ≤ n % 18446744073709551616 ∧ n % 18446744073709551616 < 18446744073709551616 := by omega
          have HW := Hid.mk' hw
          clear hw
          go_enter Try.func116, Try.ntmps116
          go_wp2_with (first
            | (go_at_call 120; refine (HR.out _).mono ?_; rintro e w1 ⟨rfl, hb1⟩; have h1 := (Blk.new w #[.int .u8 2, .int .i64 n, .int .u64 x, .int .u64 y, .string s] 59).ext hb1; have hE1 : Ext w w1 := (by (repeat (with_reducible (first | exact Ext.refl _ | assumption | exact held_left (by assumption) | apply Ext.drewN | apply Ext.drew | apply Ext.alloc | (refine Ext.setCell ?_ (by first | (simp; done) | (simp; omega) | omega) _) | (refine Ext.trans ?_ (by assumption)) | (refine Ext.trans ?_ (held_left (by assumption))))))); have k1 := h1.cell; have z1 := h1.lt)
            | (go_at_call 140; rw [u64_wrap]; refine (rword_any _ _ HW.out.1 HW.out.2).mono ?_; rintro e w2 ⟨v2, rfl, ho2, hb2⟩; have HO2 := Hid.mk' (ho2.base hE1.size); have HE2 := Hid.mk' (hE1.trans hb2); clear ho2 hb2))
          go_ret2
          exact ⟨_, by rw [HE.out]; rfl, fun _ => HO2.out, fun h => absurd HE.out h, HE2.out⟩
        · have HZL := Hid.mk' (zig_lt n HN.out)
          go_enter Try.func116, Try.ntmps116
          go_wp2_with (first
            | (go_at_call 120; refine (HR.out _).mono ?_; rintro e w1 ⟨rfl, hb1⟩; have h1 := (Blk.new w #[.int .u8 2, .int .i64 n, .int .u64 x, .int .u64 y, .string s] 59).ext hb1; have hE1 : Ext w w1 := (by (repeat (with_reducible (first | exact Ext.refl _ | assumption | exact held_left (by assumption) | apply Ext.drewN | apply Ext.drew | apply Ext.alloc | (refine Ext.setCell ?_ (by first | (simp; done) | (simp; omega) | omega) _) | (refine Ext.trans ?_ (by assumption)) | (refine Ext.trans ?_ (held_left (by assumption))))))); have k1 := h1.cell; have z1 := h1.lt)
            | (go_at_call 141; refine (rzig_any n _ HN.out).mono ?_; rintro e w2 ⟨rfl, rfl⟩)
            | (go_at_call 114; refine (ruint_any _ _ HZL.out).mono ?_; rintro e w2 ⟨v2, rfl, ho2, hb2⟩; have HO2 := Hid.mk' (ho2.base hE1.size); have HE2 := Hid.mk' (hE1.trans hb2); clear ho2 hb2))
          go_ret2
          exact ⟨_, by rw [HE.out]; rfl, fun _ => HO2.out, fun h => absurd HE.out h, HE2.out⟩
      · rcases HVV.out with rfl | rfl
        all_goals
          go_enter Try.func116, Try.ntmps116
          go_wp2_with (first
            | (go_at_call 120; refine (HR.out _).mono ?_; rintro e w1 ⟨rfl, hb1⟩; have h1 := (Blk.new w #[.int .u8 3, .int .i64 n, .int .u64 x, .int .u64 y, .string s] 59).ext hb1; have hE1 : Ext w w1 := (by (repeat (with_reducible (first | exact Ext.refl _ | assumption | exact held_left (by assumption) | apply Ext.drewN | apply Ext.drew | apply Ext.alloc | (refine Ext.setCell ?_ (by first | (simp; done) | (simp; omega) | omega) _) | (refine Ext.trans ?_ (by assumption)) | (refine Ext.trans ?_ (held_left (by assumption))))))); have k1 := h1.cell; have z1 := h1.lt)
            | (go_at_call 142; refine (rfloat_any x _ _ HX.out.1).mono ?_; rintro e w2 ⟨v2, rfl, ho2, hb2⟩; have HO2 := Hid.mk' (ho2.base hE1.size); have HE2 := Hid.mk' (hE1.trans hb2); clear ho2 hb2))
          go_ret2
          exact ⟨_, by rw [HE.out]; rfl, fun _ => HO2.out, fun h => absurd HE.out h, HE2.out⟩
      · refine (rput4_any n x y s ver w HX.out.1 HX.out.2 HVV.out HR).mono ?_
        rintro e w1 ⟨v', he, ho, hb⟩
        exact ⟨v', by rw [HE.out]; exact he, fun _ => ho, fun h => absurd HE.out h, hb⟩
      all_goals
        rcases HVV.out with rfl | rfl
        all_goals
          go_enter Try.func116, Try.ntmps116
          go_wp2_with (first
            | (go_at_call 120; refine (HR.out _).mono ?_; rintro e w1 ⟨rfl, hb1⟩; have h1 := (Blk.new w #[.int .u8 _, .int .i64 n, .int .u64 x, .int .u64 y, .string s] 59).ext hb1; have hE1 : Ext w w1 := (by (repeat (with_reducible (first | exact Ext.refl _ | assumption | exact held_left (by assumption) | apply Ext.drewN | apply Ext.drew | apply Ext.alloc | (refine Ext.setCell ?_ (by first | (simp; done) | (simp; omega) | omega) _) | (refine Ext.trans ?_ (by assumption)) | (refine Ext.trans ?_ (held_left (by assumption))))))); have k1 := h1.cell; have z1 := h1.lt)
            | (go_at_call 143; refine (rtext_any s _ (by omega)).mono ?_; rintro e w2 ⟨v2, rfl, ho2, hb2⟩; have HO2 := Hid.mk' (ho2.base hE1.size); have HE2 := Hid.mk' (hE1.trans hb2); clear ho2 hb2))
          go_ret2
          exact ⟨_, by rw [HE.out]; rfl, fun _ => HO2.out, fun h => absurd HE.out h, HE2.out⟩
    · rcases hv with rfl | rfl
      all_goals
        go_enter Try.func116, Try.ntmps116
        go_wp2_with (first
          | (go_at_call 120; refine (HR.out _).mono ?_; rintro e w1 ⟨rfl, hb1⟩))
        go_ret2
        exact ⟨_, by rw [HE.out]; rfl, fun h => absurd (HE.out.symm.trans h) h0, fun _ => rfl, by (repeat (with_reducible (first | exact Ext.refl _ | assumption | exact held_left (by assumption) | apply Ext.drewN | apply Ext.drew | apply Ext.alloc | (refine Ext.setCell ?_ (by first | (simp; done) | (simp; omega) | omega) _) | (refine Ext.trans ?_ (by assumption)) | (refine Ext.trans ?_ (held_left (by assumption))))))⟩
  · have he : errV ty n x y s ver = 18 := by unfold errV; rw [if_neg hv]
    have HE := Hid.mk' he
    have hv1 : (ver != 1) = true := by simp; omega
    have hv2 : (ver != 2) = true := by simp; omega
    clear he
    go_enter Try.func116, Try.ntmps116
    go_wp2
    go_ret2
    exact ⟨_, by rw [HE.out]; rfl, fun h => absurd (HE.out.symm.trans h) (by decide), fun _ => rfl, by (repeat (with_reducible (first | exact Ext.refl _ | assumption | exact held_left (by assumption) | apply Ext.drewN | apply Ext.drew | apply Ext.alloc | (refine Ext.setCell ?_ (by first | (simp; done) | (simp; omega) | omega) _) | (refine Ext.trans ?_ (by assumption)) | (refine Ext.trans ?_ (held_left (by assumption))))))⟩

end Go.Proofs.Ytdbepkfblfhlhaa

/-
Appending bytes of any source to what a call owns.
-/
namespace Go.Proofs.Ytdbepkfblfhlhaa
open Go.RowKit

/-- Bytes that append can read. -/
def NB (w : World) (u : Value) (m : List Int) : Prop := (u = .slice none 0 0 ∧ m = []) ∨ ∃ ad cap, u = .slice (some ad) m.length cap ∧ ∀ j z, (bs m)[j]? = some z → w.cell? (ad.add j) = some z
theorem NB.nil (w : World) : NB w (.slice none 0 0) [] := .inl ⟨rfl, rfl⟩
theorem NB.of_sl {w : World} {v : Value} {m : List Int} (h : Sl w v 1 (m.map bcell)) (hn : ∀ len cap, v = .slice none len cap → v = .slice none 0 0) : NB w v m := by
  have h0 := h
  obtain ⟨a, cap, rfl, hs⟩ := h
  cases a with
  | none =>
    refine .inl ⟨hn _ _ rfl, ?_⟩
    rcases hs with hs | ⟨b, o, ha, _⟩
    · simpa using hs
    · cases ha
  | some ad =>
    refine .inr ⟨ad, cap, by simp, ?_⟩
    rcases hs with hs | ⟨b, o, ha, hb, hc⟩
    · have : m = [] := by simpa using hs
      subst this; intro j z hj; simp [bs] at hj
    · cases ha
      exact bytes_news fun i hi => (Sl.bytes h0 (by simp; omega)).2.2 i (by simpa using hi)
theorem NB.of_own {w : World} {base : Nat} {v : Value} {m : List Int} (h : OB w base v m) : NB w v m := by
  rcases h.2 with ⟨rfl, h0⟩ | ⟨g, cap, cur, rfl, _⟩
  · exact .inl ⟨rfl, List.length_eq_zero_iff.1 h0⟩
  · exact .inr ⟨_, cap, rfl, World.ownsRow.cells h rfl⟩
theorem NB.ext {w w1 : World} {v : Value} {m : List Int} (h : NB w v m) (hsz : ∀ ad len cap, v = .slice (some ad) len cap → 0 < len → ad.block < w.heap.size) (he : Ext w w1) : NB w1 v m := by
  rcases h with h | ⟨ad, cap, rfl, h⟩
  · exact .inl h
  · refine .inr ⟨ad, cap, rfl, fun j z hj => ?_⟩
    have hl : 0 < m.length := by
      rcases Nat.eq_zero_or_pos m.length with h0 | h0
      · have : m = [] := List.length_eq_zero_iff.1 h0
        subst this; simp [bs] at hj
      · exact h0
    have hb := hsz ad _ cap rfl hl
    rw [← h j z hj]
    exact Below.cell he (by unfold Addr.add; split <;> exact hb)

set_option maxRecDepth 20000 in
theorem app_bytes {w : World} {ops : Array Oper} {rest : List Oper} {o : Oper} {a : Act} {Q : Exit → Act → World → Prop} (hgd : o.guard = none) (s x : Operand)
    (ho : o.op = .call { callee := .builtin .append, args := #[s, x], argTypes := #[80, 80] })
    (base : Nat) (v : Value) (l : List Int) (hs : a.eval s = v) (hown : OB w base v l) (u : Value) (m : List Int) (hx : a.eval x = u) (hu : NB w u m)
    (h63 : l.length + m.length ≤ 1000000000) (hbase : base ≤ w.heap.size)
    (h : ∀ v' w', OB w' base v' (l ++ m) → w.grownBy w' v.ownBlock → wpList Try.prog ops Q rest (a.put o.dst v') w') : wpList Try.prog ops Q (o :: rest) a w := by
  obtain ⟨i0, hi, hz0, hz1, hz2⟩ := info_parts Try.infoU8
  rcases hu with ⟨rfl, rfl⟩ | ⟨ad, cap, rfl, hn⟩
  · refine Go.wpList_append_own_none hgd s x 80 ho base 5 i0 1 Try.underlying80 hi v _ _ hs hown hx ?_
    exact h v w (by rw [List.append_nil]; exact hown) ⟨rfl, rfl, rfl, Nat.le_refl _, fun _ _ _ => rfl⟩
  · exact wpList_append_own w hgd s x 80 ho base 5 i0 _ 1 1 Try.underlying80 hi hz0 hz1 hz2 rfl (by decide) v _ _ hs hown ad m.length cap (bs m) hx (by rw [bs_len, Nat.mul_one]) hn (bs_one m) (by unfold maxLen; omega) (by omega) hbase
      (fun v' w' h1 h2 _ => h v' w' (OB.push h1 rfl) h2)

end Go.Proofs.Ytdbepkfblfhlhaa

/-
Put of a value, the program's and the reference's: where it is right, and where it is wrong.
-/
namespace Go.Proofs.Ytdbepkfblfhlhaa
open Go.RowKit

theorem err_zero {ty n x y : Int} {s : ByteArray} {ver : Int} (h : errV ty n x y s ver = 0) : (ver = 1 ∨ ver = 2) ∧ rightV ty n x y s = 0 := by
  unfold errV at h
  by_cases hv : ver = 1 ∨ ver = 2
  · rw [if_pos hv] at h; exact ⟨hv, h⟩
  · rw [if_neg hv] at h; cases h
theorem putL_len {ty n : Int} {x y : Nat} {s : ByteArray} {ver : Int} (h : errV ty n x y s ver = 0) (hn : -9223372036854775808 ≤ n ∧ n < 9223372036854775808) : (putL ty n x y s ver).length ≤ 3000 := by
  obtain ⟨hv, hr⟩ := err_zero h
  have hs := (right_zero hr).2.2.1
  have fx := floatL_len (x := x) (ver := ver)
  have fy := floatL_len (x := y) (ver := ver)
  have fx2 := floatL_len (x := x) (ver := 2)
  have fy2 := floatL_len (x := y) (ver := 2)
  have h1 := sevens_len10 (zig_lt n hn)
  have h2 := sevens_len10 (x := s.size) (by omega)
  have h3 := strL_len s
  unfold putL complexL
  (repeat' split) <;> (try simp only [List.length_append, List.length_cons, List.length_nil, wordL_len]) <;> omega

theorem vput_ok (v : Value) (l : List Int) (ty n : Int) (x y : Nat) (s : ByteArray) (ver : Int) (w : World) (h : errV ty n x y s ver = 0) (hl : Sl w v 1 (l.map bcell)) (hlen : l.length ≤ 800000) (hn : -9223372036854775808 ≤ n ∧ n < 9223372036854775808) (hx : x < 2 ^ 64) (hy : y < 2 ^ 64) (hs : s.size ≤ 9223372036854775807) :
    Calls Try.prog 113 #[v, .agg #[.int .u8 ty, .int .i64 n, .complex .f64 x y, .string s], .int .u8 ver] w fun e w' => ∃ v', e = .returned (.tuple #[v', .int .i64 0]) ∧ OB w' w.heap.size v' (l ++ putL ty n x y s ver) ∧ Ext w w' := by
  refine (vput_any v l ty n x y s ver w hl hlen hn hx hy hs).mono ?_
  rintro e w' ⟨v', rfl, h1, h2, h3⟩
  exact ⟨v', by rw [h], h1 h, h3⟩
theorem vput_bad (v : Value) (l : List Int) (ty n : Int) (x y : Nat) (s : ByteArray) (ver : Int) (w : World) (h : errV ty n x y s ver ≠ 0) (hl : Sl w v 1 (l.map bcell)) (hlen : l.length ≤ 800000) (hn : -9223372036854775808 ≤ n ∧ n < 9223372036854775808) (hx : x < 2 ^ 64) (hy : y < 2 ^ 64) (hs : s.size ≤ 9223372036854775807) :
    Calls Try.prog 113 #[v, .agg #[.int .u8 ty, .int .i64 n, .complex .f64 x y, .string s], .int .u8 ver] w fun e w' => e = .returned (.tuple #[.slice none 0 0, .int .i64 (errV ty n x y s ver)]) ∧ Ext w w' := by
  refine (vput_any v l ty n x y s ver w hl hlen hn hx hy hs).mono ?_
  rintro e w' ⟨v', rfl, h1, h2, h3⟩
  exact ⟨by rw [h2 h], h3⟩
theorem rput_ok (ty n : Int) (x y : Nat) (s : ByteArray) (ver : Int) (w : World) (h : errV ty n x y s ver = 0) (hn : -9223372036854775808 ≤ n ∧ n < 9223372036854775808) (hx : x < 2 ^ 64) (hy : y < 2 ^ 64) (hs : s.size ≤ 9223372036854775807) :
    Calls Try.prog 116 #[.agg #[.int .u8 ty, .int .i64 n, .int .u64 x, .int .u64 y, .string s], .int .u8 ver] w fun e w' => ∃ v', e = .returned (.tuple #[v', .int .i64 0]) ∧ OB w' w.heap.size v' (putL ty n x y s ver) ∧ Ext w w' := by
  refine (rput_any ty n x y s ver w hn hx hy hs).mono ?_
  rintro e w' ⟨v', rfl, h1, h2, h3⟩
  exact ⟨v', by rw [h], h1 h, h3⟩
theorem rput_bad (ty n : Int) (x y : Nat) (s : ByteArray) (ver : Int) (w : World) (h : errV ty n x y s ver ≠ 0) (hn : -9223372036854775808 ≤ n ∧ n < 9223372036854775808) (hx : x < 2 ^ 64) (hy : y < 2 ^ 64) (hs : s.size ≤ 9223372036854775807) :
    Calls Try.prog 116 #[.agg #[.int .u8 ty, .int .i64 n, .int .u64 x, .int .u64 y, .string s], .int .u8 ver] w fun e w' => e = .returned (.tuple #[.slice none 0 0, .int .i64 (errV ty n x y s ver)]) ∧ Ext w w' := by
  refine (rput_any ty n x y s ver w hn hx hy hs).mono ?_
  rintro e w' ⟨v', rfl, h1, h2, h3⟩
  exact ⟨by rw [h2 h], h3⟩

end Go.Proofs.Ytdbepkfblfhlhaa

/-
Equality of two values of the document.
-/
namespace Go.Proofs.Ytdbepkfblfhlhaa
open Go.RowKit

theorem toList_inj2 {s t : ByteArray} (h : s.toList = t.toList) : s = t := by
  have := str_beq s t
  rw [h, beq_self_eq_true] at this
  exact of_decide_eq_true this.symm
set_option maxRecDepth 20000 in
theorem eq_val2 (ty n : Int) (x y : Nat) (s : ByteArray) (w : World) :
    (binOp .eql 59 (.agg #[.int .u8 ty, .int .i64 n, .int .u64 x, .int .u64 y, .string s]) (.agg #[.int .u8 ty, .int .i64 n, .int .u64 x, .int .u64 y, .string s])).run Try.prog w = .ok (.bool true) w := by
  simp [go_sem]

theorem toList_inj' {s t : ByteArray} (h : s.toList = t.toList) : s = t := by
  have := str_beq s t
  rw [h, beq_self_eq_true] at this
  exact of_decide_eq_true this.symm
set_option maxRecDepth 20000 in
theorem eq_val (ty n : Int) (x y : Nat) (s : ByteArray) (ty' n' : Int) (x' y' : Nat) (s' : ByteArray) (w : World) :
    (binOp .eql 59 (.agg #[.int .u8 ty, .int .i64 n, .int .u64 x, .int .u64 y, .string s]) (.agg #[.int .u8 ty', .int .i64 n', .int .u64 x', .int .u64 y', .string s'])).run Try.prog w = .ok (.bool (sameB ty n x y s ty' n' x' y' s')) w := by
  by_cases h1 : ty = ty' <;> by_cases h2 : n = n' <;> by_cases h3 : x = x' <;> by_cases h4 : y = y' <;> by_cases h5 : s = s' <;> simp [go_sem, sameB, h1, h2, h3, h4, h5]
  all_goals first
    | (intro h; exact absurd (toList_inj' h) h5)
    | omega
    | (intros; omega)
    | (intros; intro h; exact absurd (toList_inj' h) h5)


end Go.Proofs.Ytdbepkfblfhlhaa

/-
Bytes as strings.
-/
namespace Go.Proofs.Ytdbepkfblfhlhaa
open Go.RowKit

/-- A row of bytes as a string. -/
theorem conv_Sl {w : World} {v : Value} {l : List Int} (h : Sl w v 1 (l.map bcell)) : (convert 80 9 v).run Try.prog w = .ok (.string (strOfNums l)) w := by
  have h0 := h
  obtain ⟨a, cap, rfl, hs⟩ := h
  rcases hs with hn | ⟨b, o, rfl, hb, hc⟩
  · have hl : l = [] := by simpa using hn
    subst hl
    cases a with
    | none => exact run_convert_bytes_nil w _ _ Try.underlying80 Try.underlying5 _ _ _ Try.underlying9
    | some ad =>
      rw [run_convert_bytes_string w _ _ _ _ _ _ Try.underlying80 Try.underlying5 Try.underlying9]
      have hl : (loadCells ad 0).run Try.prog w = .ok (([] : List Int).map (Value.int .u8)).toArray w := by
        have := run_loadCells_list (P := Try.prog) w ad [] (fun j v hj => by simp at hj)
        simpa using this
      exact run_bytesToString w ad 0 cap [] hl
  · simp only [List.length_map] at *
    refine run_convert_bytes_arg w _ _ Try.underlying80 Try.underlying5 b o _ cap l rfl (fun i hi => ?_) _ Try.underlying9
    exact (Sl.bytes h0 (by omega)).2.2 i hi

theorem fresh_bytes (w : World) (l : List Int) (n : Nat) (hn : n = l.length) : Sl (w.alloc (.cells (bs l).toArray 5)) (.slice (some ⟨w.heap.size, 0, none⟩) n n) 1 (l.map bcell) := by
  subst hn
  have := Sl.new w (bs l).toArray 5 1 l.length l.length (l.map bcell) (by rw [bs_flat]) (by intro xs hxs; simp at hxs; obtain ⟨x, _, rfl⟩ := hxs; rfl) (by simp)
  exact this

theorem nilSl (w : World) : Sl w (.slice none 0 0) 1 (([] : List Int).map bcell) := ⟨none, 0, rfl, .inl rfl⟩
theorem empty_small : ByteArray.empty.size ≤ 9223372036854775807 := Nat.zero_le _

end Go.Proofs.Ytdbepkfblfhlhaa

/-
What is put are bytes; two values of one type are the same just if their bytes are.
-/
namespace Go.Proofs.Ytdbepkfblfhlhaa
open Go.RowKit

theorem isB_sevens : ∀ (k x : Nat), x ≤ k → isB (sevens x) := by
  intro k
  induction k using Nat.strongRecOn with
  | _ k ih =>
    intro x hx b hb
    by_cases h : x < 128
    · rw [sevens_lt h] at hb; simp at hb; omega
    · rw [sevens_ge h] at hb
      rcases List.mem_cons.1 hb with rfl | hb
      · omega
      · exact ih (x / 128) (by omega) _ (Nat.le_refl _) b hb
theorem isB_float (x : Nat) (ver : Int) : isB (floatL x ver) := by
  unfold floatL; split
  · exact isB_word _
  · exact isB_sevens _ _ (Nat.le_refl _)
theorem isB_mark (x y : Nat) : isB [markOf x y] := by
  intro b hb
  simp only [List.mem_singleton] at hb
  subst hb; unfold markOf; split <;> split <;> omega
theorem isB_if {p : Prop} [Decidable p] {l : List Int} (h : isB l) : isB (if p then [] else l) := by split; exact isB.nil; exact h
theorem isB_complex (x y : Nat) (ver : Int) : isB (complexL x y ver) := by
  by_cases h : ver = 2
  · unfold complexL; rw [if_pos h]
    exact isB.append (isB.append (isB_mark _ _) (isB_if (isB_float _ _))) (isB_if (isB_float _ _))
  · unfold complexL; rw [if_neg h]
    exact isB.append (isB_float _ _) (isB_float _ _)
theorem isB_putL {ty n : Int} {x y : Nat} {s : ByteArray} {ver : Int} (h : rightV ty n x y s = 0) : isB (putL ty n x y s ver) := by
  have hz := right_zero h
  unfold putL
  (repeat' split)
  · intro b hb
    simp only [List.mem_singleton] at hb
    subst hb
    rcases hz.2.2.2.1 (by assumption) with h1 | h1 <;> omega
  · exact isB_word _
  · exact isB_sevens _ _ (Nat.le_refl _)
  · exact isB_float _ _
  · exact isB_complex _ _ _
  · exact isB.append (isB_sevens _ _ (Nat.le_refl _)) (isB_strL _)
theorem strOf_inj {l m : List Int} (hl : isB l) (hm : isB m) (h : strOfNums l = strOfNums m) : l = m := by
  rw [← strL_strOf hl, ← strL_strOf hm, h]
theorem str_cmp {l m : List Int} (hl : isB l) (hm : isB m) : ((strOfNums l).toList == (strOfNums m).toList) = decide (l = m) := by
  rw [str_beq]
  exact decide_eq_decide.2 ⟨strOf_inj hl hm, fun h => by rw [h]⟩

theorem put_same {ty na nb : Int} {xa ya xb yb : Nat} {sa sb : ByteArray} {ver : Int} (hv : ver = 1 ∨ ver = 2) (ha : rightV ty na xa ya sa = 0) (hb : rightV ty nb xb yb sb = 0)
    (hna : -9223372036854775808 ≤ na ∧ na < 9223372036854775808) (hxa : xa < 2 ^ 64) (hya : ya < 2 ^ 64) (hnb : -9223372036854775808 ≤ nb ∧ nb < 9223372036854775808) (hxb : xb < 2 ^ 64) (hyb : yb < 2 ^ 64) :
    decide (putL ty na xa ya sa ver = putL ty nb xb yb sb ver) = sameB ty na xa ya sa ty nb xb yb sb := by
  unfold sameB
  refine decide_eq_decide.2 ⟨fun h => ?_, ?_⟩
  · have := put_inj (a := ⟨ty, na, xa, ya, sa⟩) (b := ⟨ty, nb, xb, yb, sb⟩) hv ha hb ⟨hna, hxa, hya⟩ ⟨hnb, hxb, hyb⟩ rfl h
    simp only [V.mk.injEq] at this
    exact ⟨rfl, this.2⟩
  · rintro ⟨-, rfl, rfl, rfl, rfl⟩; rfl

end Go.Proofs.Ytdbepkfblfhlhaa

/-
Readers, in plain words: runs of sevens; from no other bytes; cut anywhere too short.
-/
namespace Go.Proofs.Ytdbepkfblfhlhaa
open Go.RowKit

/-- The number of sevens, the least first. -/
def valL : List Int → Nat
  | [] => 0
  | x :: l => (x % 128).toNat + 128 * valL l
theorem valL_snoc : ∀ (l : List Int) (x : Int), valL (l ++ [x]) = valL l + (x % 128).toNat * 128 ^ l.length := by
  intro l
  induction l with
  | nil => intro x; simp [valL]
  | cons y l ih => intro x; rw [List.cons_append, valL, ih, valL, List.length_cons, Nat.pow_succ, Nat.mul_add, ← Nat.mul_assoc, Nat.mul_comm 128 ((x % 128).toNat), Nat.mul_assoc, Nat.mul_comm 128 (128 ^ l.length)]; omega
theorem valL_lt : ∀ (l : List Int), valL l < 128 ^ l.length := by
  intro l
  induction l with
  | nil => simp [valL]
  | cons x l ih => rw [valL, List.length_cons, Nat.pow_succ]; have : (x % 128).toNat < 128 := by omega
                   omega
/-- A run of bytes that say there is more. -/
theorem digs_run : ∀ (n : Nat) (l : List Int) (k v : Nat), k + n ≤ 9 → n ≤ l.length → (∀ i, i < n → 128 ≤ l.getD i 0) → digs l k v = digs (l.drop n) (k + n) (v + valL (l.take n) * 128 ^ k) := by
  intro n
  induction n with
  | zero => intro l k v _ _ _; simp [valL]
  | succ n ih =>
    intro l k v hk hn h
    cases l with
    | nil => simp at hn
    | cons x l =>
      have hx : 128 ≤ x := by simpa using h 0 (by omega)
      rw [digs, if_neg (by omega), if_pos hx, ih l (k + 1) _ (by omega) (by simpa using hn) (fun i hi => by simpa using h (i + 1) (by omega))]
      rw [List.drop_succ_cons, List.take_succ_cons, valL, Nat.add_mul, show k + 1 + n = k + (n + 1) by omega]
      congr 1
      rw [Nat.pow_succ, Nat.mul_comm (128 ^ k) 128, Nat.mul_right_comm, Nat.add_assoc, Nat.mul_comm (128 * 128 ^ k)]
theorem digs_ten (l : List Int) (h : 10 ≤ l.length) (hb : ∀ i, i < 10 → 128 ≤ l.getD i 0) : digs l 0 0 = (0, 0, 5) := by
  rw [digs_run 9 l 0 0 (by omega) (by omega) (fun i hi => hb i (by omega))]
  have e : l.drop 9 = l.getD 9 0 :: l.drop 10 := by
    rw [List.drop_eq_getElem_cons (by omega)]; simp [List.getD, List.getElem?_eq_getElem (show 9 < l.length by omega)]
  have := hb 9 (by omega)
  rw [e, digs, if_pos ⟨by omega, by omega⟩]
theorem digs_short (l : List Int) (n : Nat) (hn : n = l.length) (h9 : n ≤ 9) (hb : ∀ i, i < n → 128 ≤ l.getD i 0) : digs l 0 0 = (0, 0, 1) := by
  rw [digs_run n l 0 0 (by omega) (by omega) hb, hn, List.drop_length]; rfl
theorem digs_at (l : List Int) (n : Nat) (hn : n < l.length) (h9 : n ≤ 9) (hb : ∀ i, i < n → 128 ≤ l.getD i 0) (hx : l.getD n 0 < 128) :
    digs l 0 0 = if n = 9 ∧ 1 < l.getD n 0 then (0, 0, 5) else if 1 ≤ n ∧ l.getD n 0 = 0 then (0, 0, 5) else (valL (l.take (n + 1)), n + 1, 0) := by
  have e : l.drop n = l.getD n 0 :: l.drop (n + 1) := by
    rw [List.drop_eq_getElem_cons hn]; simp [List.getD, List.getElem?_eq_getElem hn]
  have e2 : l.take (n + 1) = l.take n ++ [l.getD n 0] := by
    rw [List.take_succ_eq_append_getElem hn]; simp [List.getD, List.getElem?_eq_getElem hn]
  have e3 : (l.take n).length = n := by simp; omega
  rw [digs_run n l 0 0 (by omega) (by omega) hb, e, digs, e2, valL_snoc, e3]
  simp only [Nat.zero_add, Nat.pow_zero, Nat.mul_one]
  split
  · rfl
  · rw [if_neg (by omega)]

/-! From no other bytes. -/
theorem giveS_e {st : RS} {e : Int} (he : e ≠ 0) : (giveS st e).e ≠ 0 := by unfold giveS; split; exact he; assumption
theorem uintR_e {st : RS} {m : Nat} (h : (uintR m st).2.e = 0) : st.e = 0 := by
  unfold uintR at h; simp only at h; (repeat' split at h)
  · rename_i hd; exact absurd h (giveS_e hd)
  · exact absurd h (giveS_e (by decide))
  · exact h
theorem bytesR_e {st : RS} {n : Nat} (h : (bytesR n st).2.e = 0) : st.e = 0 := by
  unfold bytesR at h; split at h
  · exact absurd h (giveS_e (by decide))
  · exact h
theorem uintR_inv {b l : List Int} {m x : Nat} (hb : isB b) (h : uintR m ⟨b, 0⟩ = (x, ⟨l, 0⟩)) : b = sevens x ++ l ∧ x < 2 ^ 64 ∧ x ≤ m := by
  unfold uintR at h
  simp only at h
  split at h
  · rename_i hd
    have := congrArg (fun z => z.2.e) h
    exact absurd this (giveS_e hd)
  · split at h
    · have := congrArg (fun z => z.2.e) h
      exact absurd this (giveS_e (by decide))
    · rename_i hd hm
      obtain ⟨v, n, e⟩ : ∃ v n, digs b 0 0 = (v, n, 0) := ⟨_, _, Prod.ext rfl (Prod.ext rfl (Classical.not_not.1 hd))⟩
      rw [e] at h hm
      simp only [Prod.mk.injEq, RS.mk.injEq] at h
      obtain ⟨rfl, rfl, -⟩ := h
      obtain ⟨y, h1, h2, h3, h4, -⟩ := digs_inv b 0 0 _ _ hb (by omega) e
      simp only [Nat.pow_zero, Nat.mul_one, Nat.zero_add] at h1 h2 h4
      subst h1; subst h2
      exact ⟨h3, h4, by simpa using hm⟩
theorem bytesR_inv {b l m : List Int} {n : Nat} (h : bytesR n ⟨b, 0⟩ = (m, ⟨l, 0⟩)) : b = m ++ l ∧ m.length = n := by
  unfold bytesR at h
  simp only at h
  split at h
  · have := congrArg (fun z => z.2.e) h
    exact absurd this (giveS_e (by decide))
  · rename_i hn
    simp only [Prod.mk.injEq, RS.mk.injEq] at h
    obtain ⟨rfl, rfl, -⟩ := h
    exact ⟨(List.take_append_drop n b).symm, by simp; omega⟩
theorem wordR_inv {b l : List Int} {x : Nat} (hb : isB b) (h : wordR ⟨b, 0⟩ = (x, ⟨l, 0⟩)) : b = wordL (x : Int) ++ l ∧ x < 2 ^ 64 := by
  unfold wordR at h
  simp only [Prod.mk.injEq] at h
  obtain ⟨h1, h2⟩ := h
  obtain ⟨m, hm⟩ : ∃ m, bytesR 8 ⟨b, 0⟩ = (m, ⟨l, 0⟩) := ⟨_, Prod.ext rfl h2⟩
  rw [hm] at h1
  simp only at h1
  obtain ⟨rfl, h8⟩ := bytesR_inv hm
  have hbm : isB m := fun z hz => hb z (List.mem_append.2 (.inl hz))
  subst h1
  exact ⟨by rw [word_inv hbm h8], ofBytes_lt64 hbm (by omega)⟩
theorem floatR_inv {b l : List Int} {x : Nat} {ver : Int} (hb : isB b) (h : floatR ver ⟨b, 0⟩ = (x, ⟨l, 0⟩)) : b = floatL x ver ++ l ∧ x < 2 ^ 64 := by
  unfold floatR at h
  unfold floatL
  by_cases hv : ver = 1
  · rw [if_pos hv] at h ⊢; exact wordR_inv hb h
  · rw [if_neg hv] at h ⊢
    simp only [Prod.mk.injEq] at h
    obtain ⟨h1, h2⟩ := h
    obtain ⟨y, hy⟩ : ∃ y, uintR 18446744073709551615 ⟨b, 0⟩ = (y, ⟨l, 0⟩) := ⟨_, Prod.ext rfl h2⟩
    rw [hy] at h1
    simp only at h1
    obtain ⟨h3, h4, -⟩ := uintR_inv hb hy
    subst h1
    exact ⟨by rw [rev_rev h4]; exact h3, rev_lt⟩
theorem floatR_e {st : RS} {ver : Int} (h : (floatR ver st).2.e = 0) : st.e = 0 := by
  unfold floatR at h; split at h
  · exact bytesR_e h
  · exact uintR_e h
theorem partR_e {st : RS} {t : Bool} (h : (partR t st).2.e = 0) : st.e = 0 := by
  unfold partR at h; split at h
  · simp only at h; split at h
    · exact absurd h (giveS_e (by decide))
    · exact floatR_e h
  · exact h
theorem partR_inv {b l : List Int} {x : Nat} {t : Bool} (hb : isB b) (h : partR t ⟨b, 0⟩ = (x, ⟨l, 0⟩)) : t = decide (x ≠ 0) ∧ b = (if x = 0 then [] else floatL x 2) ++ l ∧ x < 2 ^ 64 := by
  unfold partR at h
  cases t with
  | false =>
    simp only [Bool.false_eq_true, if_false, Prod.mk.injEq, RS.mk.injEq] at h
    obtain ⟨rfl, rfl, -⟩ := h
    exact ⟨rfl, rfl, by decide⟩
  | true =>
    simp only [if_true, Prod.mk.injEq] at h
    obtain ⟨h1, h2⟩ := h
    split at h2
    · have := congrArg RS.e h2
      exact absurd this (giveS_e (by decide))
    · rename_i hx
      obtain ⟨h3, h4⟩ := floatR_inv hb (Prod.ext h1 h2)
      rw [h1] at hx
      exact ⟨by simp [hx], by rw [if_neg hx]; exact h3, h4⟩
theorem RS.eta (st : RS) (h : st.e = 0) : st = ⟨st.l, 0⟩ := by cases st; simp only at h; subst h; rfl
theorem complexR_inv {b l : List Int} {x y : Nat} {ver : Int} (hv : ver = 1 ∨ ver = 2) (hb : isB b) (h : complexR ver ⟨b, 0⟩ = ((x, y), ⟨l, 0⟩)) : b = complexL x y ver ++ l ∧ x < 2 ^ 64 ∧ y < 2 ^ 64 := by
  unfold complexR at h
  rcases hv with rfl | rfl
  · rw [if_pos rfl] at h
    simp only [Prod.mk.injEq] at h
    obtain ⟨⟨h1, h2⟩, h3⟩ := h
    have he : (wordR ⟨b, 0⟩).2.e = 0 := bytesR_e (by have := congrArg RS.e h3; exact this)
    have e1 : wordR ⟨b, 0⟩ = (x, ⟨(wordR ⟨b, 0⟩).2.l, 0⟩) := Prod.ext h1 (RS.eta _ he)
    obtain ⟨h4, h5⟩ := wordR_inv hb e1
    rw [RS.eta _ he] at h2 h3
    have hb2 : isB (wordR ⟨b, 0⟩).2.l := fun z hz => hb z (by rw [h4]; exact List.mem_append.2 (.inr hz))
    obtain ⟨h6, h7⟩ := wordR_inv hb2 (Prod.ext h2 h3)
    refine ⟨?_, h5, h7⟩
    unfold complexL floatL
    rw [if_neg (by decide), if_pos rfl, if_pos rfl, List.append_assoc, ← h6]; exact h4
  · rw [if_neg (by decide)] at h
    simp only [Prod.mk.injEq] at h
    obtain ⟨⟨h1, h2⟩, h3⟩ := h
    obtain ⟨m, S1, hm⟩ : ∃ m S1, byteR ⟨b, 0⟩ = (m, S1) := ⟨_, _, rfl⟩
    rw [hm] at h1 h2 h3
    simp only at h1 h2 h3
    obtain ⟨S2, hS2⟩ : ∃ S2, S2 = (if 3 < m then giveS S1 4 else S1) := ⟨_, rfl⟩
    rw [← hS2] at h1 h2 h3
    obtain ⟨p, S3, hp⟩ : ∃ p S3, partR (decide (m % 2 = 1)) S2 = (p, S3) := ⟨_, _, rfl⟩
    rw [hp] at h1 h2 h3
    simp only at h1 h2 h3
    subst h1
    have e3 : S3.e = 0 := partR_e (t := decide (m / 2 % 2 = 1)) (by rw [h3])
    have e2 : S2.e = 0 := partR_e (t := decide (m % 2 = 1)) (by rw [hp]; exact e3)
    have hm3 : ¬ 3 < m := by
      intro h3
      rw [if_pos h3] at hS2
      rw [hS2] at e2
      exact giveS_e (by decide) e2
    rw [if_neg hm3] at hS2
    subst hS2
    obtain ⟨L1, rfl⟩ : ∃ L, S2 = ⟨L, 0⟩ := ⟨_, RS.eta _ e2⟩
    obtain ⟨L3, rfl⟩ : ∃ L, S3 = ⟨L, 0⟩ := ⟨_, RS.eta _ e3⟩
    have hbm : bytesR 1 ⟨b, 0⟩ = ((bytesR 1 ⟨b, 0⟩).1, ⟨L1, 0⟩) := Prod.ext rfl (by have := congrArg Prod.snd hm; exact this)
    obtain ⟨hb1, hb2⟩ := bytesR_inv hbm
    obtain ⟨z, hz⟩ : ∃ z, (bytesR 1 ⟨b, 0⟩).1 = [z] := by
      cases hq : (bytesR 1 ⟨b, 0⟩).1 with
      | nil => rw [hq] at hb2; cases hb2
      | cons z q => cases q with
        | nil => exact ⟨z, rfl⟩
        | cons y q => rw [hq] at hb2; simp at hb2
    have hzm : z = m := by have := congrArg Prod.fst hm; simp only [byteR, hz] at this; exact this
    subst hzm
    rw [hz] at hb1
    have hB1 : isB L1 := fun q hq => hb q (by rw [hb1]; exact List.mem_append.2 (.inr hq))
    obtain ⟨t1, l1, x1⟩ := partR_inv hB1 hp
    have hB3 : isB L3 := fun q hq => hB1 q (by rw [l1]; exact List.mem_append.2 (.inr hq))
    obtain ⟨t2, l2, x2⟩ := partR_inv hB3 (Prod.ext h2 h3)
    have hz0 : 0 ≤ z := (hb z (by rw [hb1]; simp)).1
    have hmark : z = markOf p y := by
      have q1 := decide_eq_decide.1 t1
      have q2 := decide_eq_decide.1 t2
      unfold markOf
      clear hb hb1 hb2 hz hm hbm hp h2 h3 l1 l2 t1 t2 x1 x2 hB1 hB3 e2 e3
      split <;> split <;> simp_all <;> omega
    refine ⟨?_, x1, x2⟩
    unfold complexL
    rw [if_pos rfl, hb1, ← hmark, List.append_assoc, List.append_assoc, ← l2, ← l1]

theorem byteR_inv {b l : List Int} {x : Int} (h : byteR ⟨b, 0⟩ = (x, ⟨l, 0⟩)) : b = x :: l := by
  unfold byteR at h
  simp only [Prod.mk.injEq] at h
  obtain ⟨h1, h2⟩ := h
  obtain ⟨m, hm⟩ : ∃ m, bytesR 1 ⟨b, 0⟩ = (m, ⟨l, 0⟩) := ⟨_, Prod.ext rfl h2⟩
  rw [hm] at h1
  obtain ⟨hb1, hb2⟩ := bytesR_inv hm
  cases m with
  | nil => cases hb2
  | cons z q => cases q with
    | nil => simp at h1; subst h1; exact hb1
    | cons y q => simp at hb2
theorem textR_inv {b l m : List Int} {n : Nat} (hb : isB b) (h : textR n ⟨b, 0⟩ = (m, ⟨l, 0⟩)) : b = sevens m.length ++ m ++ l ∧ m.length ≤ n := by
  unfold textR at h
  simp only at h
  obtain ⟨x, S1, hx⟩ : ∃ x S1, uintR n ⟨b, 0⟩ = (x, S1) := ⟨_, _, rfl⟩
  rw [hx] at h
  simp only at h
  have he : S1.e = 0 := bytesR_e (n := x) (by rw [h])
  obtain ⟨L1, rfl⟩ : ∃ L, S1 = ⟨L, 0⟩ := ⟨_, RS.eta _ he⟩
  obtain ⟨h1, -, h2⟩ := uintR_inv hb hx
  obtain ⟨h3, h4⟩ := bytesR_inv h
  subst h4
  exact ⟨by rw [h1, h3, List.append_assoc], h2⟩
theorem failS_e {S : RS} {e : Int} (h : (failS S e).e = 0) : e = 0 ∧ S.e = 0 := by
  unfold failS at h
  split at h
  · rename_i he; exact absurd h (giveS_e he)
  · rename_i he; exact ⟨Classical.not_not.1 he, h⟩

theorem wf_mk {ty n : Int} {x y : Nat} {s : ByteArray} (h1 : -9223372036854775808 ≤ n) (h2 : n < 9223372036854775808) (h3 : x < 2 ^ 64) (h4 : y < 2 ^ 64) : V.wf ⟨ty, n, x, y, s⟩ := ⟨⟨h1, h2⟩, h3, h4⟩
/-- What is taken of any bytes is put as just these. -/
theorem takeV_inv {b l : List Int} {kind ver : Int} {v : V} (hb : isB b) (hv : ver = 1 ∨ ver = 2) (h : takeV kind ver ⟨b, 0⟩ = (v, ⟨l, 0⟩)) : v.right = 0 ∧ v.wf ∧ v.ty = kind ∧ b = v.put ver ++ l := by
  unfold takeV at h
  rw [if_pos hv] at h
  simp only at h
  split at h
  · rename_i he
    have := congrArg (fun z => z.2.e) h
    exact absurd this he
  · rename_i he
    simp only [Classical.not_not] at he
    obtain ⟨v', S, hS⟩ : ∃ v' S, bodyR kind ver ⟨b, 0⟩ = (v', S) := ⟨_, _, rfl⟩
    rw [hS] at h he
    simp only at h he
    obtain ⟨hr, hSe⟩ := failS_e he
    simp only [Prod.mk.injEq] at h
    obtain ⟨rfl, h2⟩ := h
    have hS2 : S = ⟨l, 0⟩ := by unfold failS at h2; rw [if_neg (by simp [hr])] at h2; exact h2
    subst hS2
    clear h2 he hSe
    unfold bodyR at hS
    have hty := right_zero hr
    (repeat' split at hS)
    · rename_i hk
      simp only [Prod.mk.injEq] at hS
      obtain ⟨rfl, h2⟩ := hS
      have hx := byteR_inv (x := (byteR ⟨b, 0⟩).1) (Prod.ext rfl h2)
      simp only at hty
      have h01 := hty.2.2.2.1 hk
      refine ⟨hr, wf_mk (by omega) (by omega) (by decide) (by decide), rfl, ?_⟩
      simp only [V.put, putL]; rw [if_pos hk]; exact hx
    · rename_i hk hv1
      simp only [Prod.mk.injEq] at hS
      obtain ⟨rfl, h2⟩ := hS
      obtain ⟨h3, h4⟩ := wordR_inv (x := (wordR ⟨b, 0⟩).1) hb (Prod.ext rfl h2)
      refine ⟨hr, wf_mk (toI64_rng h4).1 (toI64_rng h4).2 (by decide) (by decide), rfl, ?_⟩
      simp only [V.put, putL]; rw [if_neg (by omega), if_pos hk, if_pos hv1, mod_toI64 h4]; exact h3
    · rename_i hk hv1
      simp only [Prod.mk.injEq, intR] at hS
      obtain ⟨rfl, h2⟩ := hS
      obtain ⟨h3, h4, -⟩ := uintR_inv (x := (uintR 18446744073709551615 ⟨b, 0⟩).1) hb (Prod.ext rfl h2)
      refine ⟨hr, wf_mk (zag_rng h4).1 (zag_rng h4).2 (by decide) (by decide), rfl, ?_⟩
      simp only [V.put, putL]; rw [if_neg (by omega), if_pos hk, if_neg hv1, zig_zag]; exact h3
    · rename_i hk
      simp only [Prod.mk.injEq] at hS
      obtain ⟨rfl, h2⟩ := hS
      obtain ⟨h3, h4⟩ := floatR_inv (x := (floatR ver ⟨b, 0⟩).1) hb (Prod.ext rfl h2)
      refine ⟨hr, wf_mk (by decide) (by decide) h4 (by decide), rfl, ?_⟩
      simp only [V.put, putL]; rw [if_neg (by omega), if_neg (by omega), if_pos hk]; exact h3
    · rename_i hk
      simp only [Prod.mk.injEq] at hS
      obtain ⟨rfl, h2⟩ := hS
      obtain ⟨h3, h4, h5⟩ := complexR_inv (x := (complexR ver ⟨b, 0⟩).1.1) (y := (complexR ver ⟨b, 0⟩).1.2) hv hb (Prod.ext rfl h2)
      refine ⟨hr, wf_mk (by decide) (by decide) h4 h5, rfl, ?_⟩
      simp only [V.put, putL]; rw [if_neg (by omega), if_neg (by omega), if_neg (by omega), if_pos hk]; exact h3
    · rename_i hk
      simp only [Prod.mk.injEq] at hS
      obtain ⟨rfl, h2⟩ := hS
      obtain ⟨h3, h4⟩ := textR_inv (m := (textR 2048 ⟨b, 0⟩).1) hb (Prod.ext rfl h2)
      have hbm : isB (textR 2048 ⟨b, 0⟩).1 := fun z hz => hb z (by rw [h3]; simp [hz])
      refine ⟨hr, wf_mk (by decide) (by decide) (by decide) (by decide), rfl, ?_⟩
      simp only [V.put, putL]
      rw [if_neg (by omega), if_neg (by omega), if_neg (by omega), if_neg (by omega), strL_strOf hbm, strOfNums_size]; exact h3
    · exfalso
      simp only [Prod.mk.injEq] at hS
      obtain ⟨rfl, h2⟩ := hS
      simp only at hty
      omega

/-! Cut anywhere. -/
def gone : RS := ⟨[], 1⟩
theorem give_gone (e : Int) : giveS gone e = gone := rfl
theorem digs_cut : ∀ (k x n v : Nat) (q : List Int), x ≤ k → x * 128 ^ n < 2 ^ 64 → (1 ≤ n → 1 ≤ x) → q.length < (sevens x).length → (∃ r, sevens x = q ++ r) → digs q n v = (0, 0, 1) := by
  intro k
  induction k using Nat.strongRecOn with
  | _ k ih =>
    intro x n v q hk hx hn hq ⟨r, hr⟩
    cases q with
    | nil => rfl
    | cons b q =>
      by_cases h : x < 128
      · rw [sevens_lt h] at hq; simp at hq
      · rw [sevens_ge h] at hr hq
        simp only [List.cons_append, List.cons.injEq, List.length_cons] at hr hq
        obtain ⟨rfl, hr⟩ := hr
        have hn8 : n ≠ 9 := by
          rintro rfl
          have h3 : 128 * 128 ^ 9 ≤ x * 128 ^ 9 := Nat.mul_le_mul_right _ (by omega)
          have h4 : (2 : Nat) ^ 64 < 128 * 128 ^ 9 := by decide
          omega
        have ep : 128 ^ (n + 1) = 128 * 128 ^ n := by rw [Nat.pow_succ, Nat.mul_comm]
        have hd : (x / 128) * (128 * 128 ^ n) ≤ x * 128 ^ n := by
          rw [← Nat.mul_assoc]; exact Nat.mul_le_mul_right _ (by omega)
        rw [digs, if_neg (by omega), if_pos (by omega)]
        exact ih (x / 128) (by omega) (x / 128) (n + 1) _ q (Nat.le_refl _) (by rw [ep]; omega) (fun _ => by omega) (by omega) ⟨r, hr⟩

theorem uintR_cut {x m : Nat} {q : List Int} (hx : x < 2 ^ 64) (hq : q.length < (sevens x).length) (hr : ∃ r, sevens x = q ++ r) : uintR m ⟨q, 0⟩ = (0, gone) := by
  unfold uintR
  simp only [digs_cut x x 0 0 q (Nat.le_refl _) (by simpa using hx) (fun h => by omega) hq hr]
  rfl
theorem uintR_gone (m : Nat) : uintR m gone = (0, gone) := rfl
theorem bytesR_cut {n : Nat} {q : List Int} (hq : q.length < n) : bytesR n ⟨q, 0⟩ = ([], gone) := by unfold bytesR; rw [if_pos hq]; rfl
theorem wordR_cut {q : List Int} (hq : q.length < 8) : wordR ⟨q, 0⟩ = (0, gone) := by unfold wordR; rw [bytesR_cut hq]; rfl
theorem wordR_gone : wordR gone = (0, gone) := rfl
theorem floatR_gone (ver : Int) : floatR ver gone = (0, gone) := by
  unfold floatR; split
  · rfl
  · rw [uintR_gone]; rfl
theorem floatR_cut {x : Nat} {ver : Int} {q : List Int} (hq : q.length < (floatL x ver).length) (hr : ∃ r, floatL x ver = q ++ r) : floatR ver ⟨q, 0⟩ = (0, gone) := by
  unfold floatR floatL at *
  by_cases hv : ver = 1
  · rw [if_pos hv] at *; rw [wordL_len] at hq; exact wordR_cut hq
  · rw [if_neg hv] at *; rw [uintR_cut rev_lt hq hr]; rfl
theorem partR_gone (t : Bool) : partR t gone = (0, gone) := by
  unfold partR; split
  · rw [floatR_gone]; rfl
  · rfl
theorem partR_cut {x : Nat} {q : List Int} (hq : q.length < (floatL x 2).length) (hr : ∃ r, floatL x 2 = q ++ r) : partR true ⟨q, 0⟩ = (0, gone) := by
  unfold partR; rw [if_pos rfl, floatR_cut hq hr]; rfl

theorem complexR_gone (ver : Int) : (complexR ver gone).2 = gone := by
  unfold complexR; split
  · rfl
  · have : byteR gone = (0, gone) := rfl
    simp only [this, give_gone, ite_self, partR_gone]

/-- A part ahead of the end: either within the first, or the first and a part of the second. -/
theorem cut_append {p m q r : List Int} (h : p ++ m = q ++ r) : (∃ s, p = q ++ s ∧ q.length < p.length) ∨ ∃ s, q = p ++ s ∧ m = s ++ r := by
  rcases Nat.lt_or_ge q.length p.length with hl | hl
  · left
    refine ⟨p.drop q.length, ?_, hl⟩
    have := congrArg (List.take q.length) h
    rw [List.take_append_of_le_length (by omega), List.take_left] at this
    rw [← this, List.length_take, Nat.min_eq_left (by omega), List.take_append_drop]
  · right
    refine ⟨q.drop p.length, ?_, ?_⟩
    · have := congrArg (List.take p.length) h
      rw [List.take_left, List.take_append_of_le_length hl] at this
      conv => rhs; lhs; rw [this]
      rw [List.take_append_drop]
    · have := congrArg (List.drop p.length) h
      rw [List.drop_left, List.drop_append_of_le_length hl] at this
      exact this

theorem takeV_cut {v : V} {ver : Int} {q r : List Int} (hv : ver = 1 ∨ ver = 2) (hr : v.right = 0) (hw : v.wf) (h : v.put ver = q ++ r) (hr0 : r ≠ []) : takeV v.ty ver ⟨q, 0⟩ = (V.zero, gone) := by
  have hz := right_zero hr
  obtain ⟨w1, w2, w3⟩ := hw
  have hlt : q.length < (v.put ver).length := by
    rw [h, List.length_append]; have := List.length_pos_iff.2 hr0; omega
  have key : (bodyR v.ty ver ⟨q, 0⟩).2 = gone := by
    obtain ⟨ty, n, x, y, s⟩ := v
    simp only at *
    have ht : ty = 1 ∨ ty = 2 ∨ ty = 3 ∨ ty = 4 ∨ ty = 5 ∨ ty = 6 := by omega
    unfold bodyR
    rcases ht with rfl | rfl | rfl | rfl | rfl | rfl
    · simp only [V.put, putL] at hlt
      have : q.length < 1 := by simpa using hlt
      rw [if_pos rfl]
      simp only [byteR, bytesR_cut this]
    · rw [if_neg (by decide), if_pos rfl]
      rcases hv with rfl | rfl
      · have e : V.put ⟨2, n, x, y, s⟩ 1 = wordL (n % 18446744073709551616) := by simp [V.put, putL]
        rw [e, wordL_len] at hlt
        rw [if_pos rfl, wordR_cut hlt]
      · have e : V.put ⟨2, n, x, y, s⟩ 2 = sevens (zig n) := by simp [V.put, putL]
        rw [e] at hlt h
        rw [if_neg (by decide)]
        simp only [intR, uintR_cut (zig_lt n w1) hlt ⟨r, h⟩]
    · have e : V.put ⟨3, n, x, y, s⟩ ver = floatL x ver := by simp [V.put, putL]
      rw [e] at hlt h
      rw [if_neg (by decide), if_neg (by decide), if_pos rfl]
      simp only [floatR_cut hlt ⟨r, h⟩]
    · have e : V.put ⟨4, n, x, y, s⟩ ver = complexL x y ver := by simp [V.put, putL]
      rw [e] at hlt h
      rw [if_neg (by decide), if_neg (by decide), if_neg (by decide), if_pos rfl]
      show (complexR ver ⟨q, 0⟩).2 = gone
      unfold complexR complexL at *
      rcases hv with rfl | rfl
      · rw [if_neg (by decide)] at h hlt
        rw [if_pos rfl]
        have f1 : floatL x 1 = wordL (x : Int) := by unfold floatL; rw [if_pos rfl]
        have f2 : floatL y 1 = wordL (y : Int) := by unfold floatL; rw [if_pos rfl]
        rw [f1, f2] at h hlt
        rcases cut_append h with ⟨t, h1, h2⟩ | ⟨t, h1, h2⟩
        · rw [wordL_len] at h2
          simp only [wordR_cut h2, wordR_gone]
        · subst h1
          have : t.length < 8 := by simp [wordL_len] at hlt; omega
          simp only [wordR_put t w2, wordR_cut this]
      · rw [if_pos rfl] at h hlt
        rw [if_neg (by decide)]
        have m1 : decide (markOf x y % 2 = 1) = decide (x ≠ 0) := by unfold markOf; split <;> split <;> simp_all
        have m2 : decide (markOf x y / 2 % 2 = 1) = decide (y ≠ 0) := by unfold markOf; split <;> split <;> simp_all
        have m3 : ¬ 3 < markOf x y := by unfold markOf; split <;> split <;> omega
        cases q with
        | nil =>
          have : byteR ⟨[], 0⟩ = (0, gone) := rfl
          simp only [this, give_gone, ite_self, partR_gone]
        | cons b q =>
          simp only [List.cons_append, List.nil_append, List.cons.injEq] at h
          obtain ⟨rfl, h⟩ := h
          have hb : byteR ⟨markOf x y :: q, 0⟩ = (markOf x y, ⟨q, 0⟩) := rfl
          simp only [hb, m1, m2, if_neg m3]
          rcases cut_append h with ⟨t, h1, h2⟩ | ⟨t, h1, h2⟩
          · by_cases hx : x = 0
            · rw [if_pos hx] at h2; simp at h2
            · rw [if_neg hx] at h1 h2
              have : decide (x ≠ 0) = true := by simp [hx]
              rw [this, partR_cut h2 ⟨t, h1⟩]
              simp only [partR_gone]
          · subst h1
            rw [partR_put t w2]
            simp only
            by_cases hy : y = 0
            · exfalso
              rw [if_pos hy] at h2
              have := congrArg List.length h2
              have h3 := List.length_pos_iff.2 hr0
              simp at this
              omega
            · rw [if_neg hy] at h2
              have : decide (y ≠ 0) = true := by simp [hy]
              have hl : t.length < (floatL y 2).length := by rw [h2, List.length_append]; have := List.length_pos_iff.2 hr0; omega
              rw [this, partR_cut hl ⟨r, h2⟩]
    all_goals
      simp [V.put, putL, -List.append_assoc] at hlt h
      simp only [Int.reduceEq, if_false, if_true, or_true, true_or]
      show (textR 2048 ⟨q, 0⟩).2 = gone
      have hs := hz.2.2.1
      unfold textR
      rcases cut_append h with ⟨t, h1, h2⟩ | ⟨t, h1, h2⟩
      · rw [uintR_cut (by omega) h2 ⟨t, h1⟩]; rfl
      · subst h1
        rw [uintR_sevens t (by omega) hs]
        have : t.length < s.size := by simp [strL_len] at hlt; omega
        simp only [bytesR_cut this]
  unfold takeV
  rw [if_pos hv]
  simp only [key]
  have hf : ∀ e, failS gone e = gone := fun e => by unfold failS; split; exact give_gone e; rfl
  rw [hf]
  rw [if_pos (show gone.e ≠ 0 by decide)]

end Go.Proofs.Ytdbepkfblfhlhaa

/-
Cells, in plain words: what is wrong with one, its bytes, what is taken of any bytes; what is put is taken as it was, and from no other bytes.
-/
namespace Go.Proofs.Ytdbepkfblfhlhaa
open Go.RowKit

/-- What is wrong with a cell in a column. -/
def rightC (k ty n x y : Int) (s : ByteArray) (kind : Int) : Int :=
  if kind < 1 ∨ 6 < kind then 11 else if 2 < k then 7
  else if k < 2 then (if ty = 0 ∧ n = 0 ∧ x = 0 ∧ y = 0 ∧ s.size = 0 then (if k = 1 ∧ kind ≠ 5 ∧ kind ≠ 6 then 11 else 0) else 3)
  else if rightV ty n x y s ≠ 0 then rightV ty n x y s else if ty ≠ kind then 11 else 0
def largeB (k ty : Int) (s : ByteArray) : Bool := decide (k = 2 ∧ (ty = 5 ∨ ty = 6) ∧ 64 < s.size)
/-- What is wrong with putting a cell; its bytes. -/
def errC (k ty n x y : Int) (s : ByteArray) (kind ver : Int) : Int :=
  if ver = 1 ∨ ver = 2 then (if rightC k ty n x y s kind ≠ 0 then rightC k ty n x y s kind else if k = 0 then 12 else 0) else 18
def putC (k ty n : Int) (x y : Nat) (s : ByteArray) (kind ver : Int) : List Int :=
  if k = 1 then [0] else if largeB k ty s = true then (3 - ver) :: sevens s.size
  else if ver = 2 then (if kind = 5 ∨ kind = 6 then sevens (s.size + 2) ++ strL s else putL ty n x y s 2) else 1 :: putL ty n x y s 1

theorem errC_zero {k ty n x y : Int} {s : ByteArray} {kind ver : Int} (hk0 : 0 ≤ k) (h : errC k ty n x y s kind ver = 0) :
    (ver = 1 ∨ ver = 2) ∧ rightC k ty n x y s kind = 0 ∧ (k = 1 ∨ k = 2) ∧ (1 ≤ kind ∧ kind ≤ 6) := by
  unfold errC at h
  by_cases hv : ver = 1 ∨ ver = 2
  · rw [if_pos hv] at h
    by_cases hr : rightC k ty n x y s kind = 0
    · rw [if_neg (by simpa using hr)] at h
      refine ⟨hv, hr, ?_⟩
      have hr2 := hr
      unfold rightC at hr2
      (repeat' split at hr2) <;> (repeat' split at h) <;> first | omega | (exfalso; omega)
    · rw [if_pos hr] at h; exact absurd h hr
  · rw [if_neg hv] at h; cases h

/-- A cell. -/
structure K where
  k : Int
  v : V
def K.zero : K := ⟨0, V.zero⟩
def K.right (c : K) (kind : Int) : Int := rightC c.k c.v.ty c.v.n c.v.x c.v.y c.v.s kind
def K.err (c : K) (kind ver : Int) : Int := errC c.k c.v.ty c.v.n c.v.x c.v.y c.v.s kind ver
def K.put (c : K) (kind ver : Int) : List Int := putC c.k c.v.ty c.v.n c.v.x c.v.y c.v.s kind ver

theorem right_same {k ty n x y : Int} {s : ByteArray} {kind : Int} (hk : k < 2) (h : rightC k ty n x y s kind = 0) : ty = 0 ∧ n = 0 ∧ x = 0 ∧ y = 0 ∧ s.size = 0 ∧ (k = 1 → kind = 5 ∨ kind = 6) := by
  unfold rightC at h
  (repeat' split at h) <;> first | omega | (exfalso; omega)
theorem right_full {ty n x y : Int} {s : ByteArray} {kind : Int} (h : rightC 2 ty n x y s kind = 0) : rightV ty n x y s = 0 ∧ ty = kind := by
  unfold rightC at h
  (repeat' split at h) <;> first | omega | (exfalso; omega)
theorem right_mk {ty n x y : Int} {s : ByteArray} {kind : Int} (h : rightV ty n x y s = 0) (hk : ty = kind) : rightC 2 ty n x y s kind = 0 := by
  have := right_zero h
  unfold rightC
  (repeat' split) <;> first | rfl | omega | (exfalso; omega)

/-- How many bytes a large cell has. -/
def largeR (st : RS) : Nat × RS := let r := uintR 2048 st; (r.1, if r.1 ≤ 64 then giveS r.2 4 else r.2)
def fullT (kind : Int) : K := ⟨2, ⟨kind, 0, 0, 0, ByteArray.empty⟩⟩
def textK (kind : Int) (q : List Int × RS) : (K × Nat) × RS := ((⟨2, ⟨kind, 0, 0, 0, strOfNums q.1⟩⟩, 0), failS q.2 (rightV kind 0 (0 : Nat) (0 : Nat) (strOfNums q.1)))
def firstC (kind : Int) (st : RS) : (K × Nat) × RS :=
  let t := byteR st
  if t.2.e ≠ 0 then ((K.zero, 0), t.2)
  else if 2 < t.1 ∨ (t.1 ≠ 1 ∧ kind ≠ 5 ∧ kind ≠ 6) then ((K.zero, 0), giveS t.2 7)
  else if t.1 = 0 then ((⟨1, V.zero⟩, 0), t.2)
  else if t.1 = 2 then let q := largeR t.2; ((fullT kind, q.1), q.2)
  else if kind = 5 ∨ kind = 6 then textK kind (textR 64 t.2)
  else let q := takeV kind 1 t.2; ((⟨2, q.1⟩, 0), q.2)
def secondC (kind : Int) (st : RS) : (K × Nat) × RS :=
  let t := uintR 66 st
  if t.2.e ≠ 0 then ((K.zero, 0), t.2)
  else if t.1 = 0 then ((⟨1, V.zero⟩, 0), t.2)
  else if t.1 = 1 then let q := largeR t.2; ((fullT kind, q.1), q.2)
  else textK kind (bytesR (t.1 - 2) t.2)
def preC (kind ver : Int) (st : RS) : (K × Nat) × RS :=
  if ¬ (ver = 1 ∨ ver = 2) then ((K.zero, 0), giveS st 18)
  else if kind < 1 ∨ 6 < kind then ((K.zero, 0), giveS st 11)
  else if ver = 1 then firstC kind st
  else if kind = 5 ∨ kind = 6 then secondC kind st
  else let q := takeV kind 2 st; ((⟨2, q.1⟩, 0), q.2)
def finC (r : (K × Nat) × RS) : (K × Nat) × RS := if r.2.e ≠ 0 then ((K.zero, 0), r.2) else r
/-- The next cell of a column, and how many bytes a large one has. -/
def takeC (kind ver : Int) (st : RS) : (K × Nat) × RS := finC (preC kind ver st)

theorem byteR_cons (x : Int) (l : List Int) (e : Int) : byteR ⟨x :: l, e⟩ = (x, ⟨l, e⟩) := by
  unfold byteR bytesR; simp
theorem finC_ok {r : (K × Nat) × RS} (h : r.2.e = 0) : finC r = r := by unfold finC; rw [if_neg (by simpa using h)]
theorem largeR_put {x : Nat} (l : List Int) (h : 64 < x) (h2 : x ≤ 2048) : largeR ⟨sevens x ++ l, 0⟩ = (x, ⟨l, 0⟩) := by
  unfold largeR
  simp only [uintR_sevens l (show x < 2 ^ 64 by omega) h2]
  rw [if_neg (by omega)]
theorem largeR_inv {b l : List Int} {x : Nat} (hb : isB b) (h : largeR ⟨b, 0⟩ = (x, ⟨l, 0⟩)) : b = sevens x ++ l ∧ 64 < x ∧ x ≤ 2048 := by
  unfold largeR at h
  simp only [Prod.mk.injEq] at h
  obtain ⟨h1, h2⟩ := h
  by_cases h64 : (uintR 2048 ⟨b, 0⟩).1 ≤ 64
  · rw [if_pos h64] at h2
    have := congrArg RS.e h2
    exact absurd this (giveS_e (by decide))
  · rw [if_neg h64] at h2
    obtain ⟨h3, -, h4⟩ := uintR_inv hb (Prod.ext h1 h2)
    exact ⟨h3, by omega, h4⟩
theorem textK_right {kind : Int} {s : ByteArray} {l : List Int} (h : rightV kind 0 (0 : Nat) (0 : Nat) s = 0) : textK kind (strL s, ⟨l, 0⟩) = ((⟨2, ⟨kind, 0, 0, 0, s⟩⟩, 0), ⟨l, 0⟩) := by
  unfold textK failS
  simp only [strOf_strL, h]
  rw [if_neg (by decide)]

/-- The text of a large cell is not taken. -/
def K.taken (c : K) : K × Nat := if largeB c.k c.v.ty c.v.s = true then (fullT c.v.ty, c.v.s.size) else (c, 0)

theorem takeC_put (c : K) (kind ver : Int) (l : List Int) (hk0 : 0 ≤ c.k) (he : c.err kind ver = 0) (hw : c.v.wf) : takeC kind ver ⟨c.put kind ver ++ l, 0⟩ = (c.taken, ⟨l, 0⟩) := by
  obtain ⟨hv, hr, hk, hkd⟩ := errC_zero hk0 he
  obtain ⟨k, v⟩ := c
  simp only [K.put, K.taken] at *
  unfold takeC preC
  rw [if_neg (fun h => h hv), if_neg (by omega)]
  rcases hk with rfl | rfl
  · obtain ⟨h1, h2, h3, h4, h5, h6⟩ := right_same (by decide) hr
    have hty := h6 rfl
    have hz : v = V.zero := by
      obtain ⟨ty, n, x, y, s⟩ := v
      simp only at h1 h2 h3 h4 h5
      obtain rfl := h1
      obtain rfl := h2
      obtain rfl : x = 0 := by omega
      obtain rfl : y = 0 := by omega
      obtain rfl : s = ByteArray.empty := (size_zero s).2 h5
      rfl
    subst hz
    have hl : largeB 1 V.zero.ty V.zero.s = false := by decide
    rw [hl]
    have hp : putC 1 V.zero.ty V.zero.n V.zero.x V.zero.y V.zero.s kind ver = [0] := by unfold putC; rw [if_pos rfl]
    rw [hp]
    rcases hv with rfl | rfl
    · rw [if_pos rfl]
      unfold firstC
      rw [List.cons_append, byteR_cons]
      simp only [ne_eq, not_true_eq_false, if_false]
      rw [if_neg (by omega)]
      simp [finC]
    · rw [if_neg (by decide), if_pos hty]
      unfold secondC
      have := uintR_sevens (x := 0) (m := 66) l (by decide) (by decide)
      rw [sevens_lt (by decide)] at this
      simp only [Int.natCast_zero] at this
      rw [this]
      simp [finC]
  · obtain ⟨h1, h2⟩ := right_full hr
    have hz := right_zero h1
    by_cases hL : largeB 2 v.ty v.s = true
    · rw [if_pos hL]
      have hp : putC 2 v.ty v.n v.x v.y v.s kind ver = (3 - ver) :: sevens v.s.size := by unfold putC; rw [if_neg (by decide), if_pos hL]
      rw [hp]
      unfold largeB at hL
      rw [decide_eq_true_eq] at hL
      obtain ⟨-, hty, h64⟩ := hL
      rw [h2] at hty
      rw [h2]
      rcases hv with rfl | rfl
      · rw [if_pos rfl]
        unfold firstC
        rw [List.cons_append, byteR_cons]
        simp only [ne_eq, not_true_eq_false, if_false]
        rw [if_neg (by omega), if_neg (by decide), if_pos (by decide), largeR_put l h64 hz.2.2.1]
        simp [finC]
      · rw [if_neg (by decide), if_pos hty]
        unfold secondC
        have := uintR_sevens (x := 1) (m := 66) (sevens v.s.size ++ l) (by decide) (by decide)
        rw [sevens_lt (by decide)] at this
        have e : ((3 - 2 : Int) :: sevens v.s.size) ++ l = [((1 : Nat) : Int)] ++ (sevens v.s.size ++ l) := rfl
        rw [e, this]
        simp only [ne_eq, not_true_eq_false, if_false, Nat.one_ne_zero, if_true]
        rw [largeR_put l h64 hz.2.2.1]
        simp [finC]
    · have hp1 : putC 2 v.ty v.n v.x v.y v.s kind 1 = 1 :: putL v.ty v.n v.x v.y v.s 1 := by unfold putC; rw [if_neg (by decide), if_neg hL, if_neg (by decide)]
      have hp2 : putC 2 v.ty v.n v.x v.y v.s kind 2 = if kind = 5 ∨ kind = 6 then sevens (v.s.size + 2) ++ strL v.s else putL v.ty v.n v.x v.y v.s 2 := by unfold putC; rw [if_neg (by decide), if_neg hL, if_pos rfl]
      rw [if_neg hL]
      unfold largeB at hL
      rw [decide_eq_true_eq] at hL
      have hT : kind = 5 ∨ kind = 6 → v = ⟨kind, 0, 0, 0, v.s⟩ ∧ v.s.size ≤ 64 := by
        intro hk
        obtain ⟨ty, n, x, y, s⟩ := v
        simp only at *
        obtain rfl := h2
        obtain rfl : n = 0 := by omega
        obtain rfl : x = 0 := by omega
        obtain rfl : y = 0 := by omega
        exact ⟨rfl, by rcases Nat.lt_or_ge 64 s.size with h | h; exact absurd ⟨by first | rfl | trivial, hk, h⟩ hL; exact h⟩
      rcases hv with rfl | rfl
      · rw [if_pos rfl, hp1]
        unfold firstC
        rw [List.cons_append, byteR_cons]
        simp only [ne_eq, not_true_eq_false, if_false]
        rw [if_neg (by first | omega | simp), if_neg (by decide), if_neg (by decide)]
        by_cases hty : kind = 5 ∨ kind = 6
        · rw [if_pos hty]
          obtain ⟨hv5, h64⟩ := hT hty
          have hp3 : putL v.ty v.n v.x v.y v.s 1 = sevens v.s.size ++ strL v.s := by
            unfold putL; rw [if_neg (by omega), if_neg (by omega), if_neg (by omega), if_neg (by omega)]
          rw [hp3, textR_put l h64 (by decide), textK_right]
          · rw [finC_ok rfl]; conv => rhs; rw [hv5]
          · rw [hv5] at h1; exact h1
        · rw [if_neg hty]
          have := takeV_put v 1 l (.inl rfl) h1 hw
          rw [h2] at this
          have e : putL v.ty v.n v.x v.y v.s 1 = v.put 1 := rfl
          rw [e, this]
          simp only
          rw [finC_ok rfl]
      · rw [if_neg (by decide), hp2]
        by_cases hty : kind = 5 ∨ kind = 6
        · rw [if_pos hty, if_pos hty]
          obtain ⟨hv5, h64⟩ := hT hty
          unfold secondC
          rw [List.append_assoc, uintR_sevens _ (by omega) (by omega)]
          simp only [ne_eq, not_true_eq_false, if_false]
          rw [if_neg (by omega), if_neg (by omega), Nat.add_sub_cancel, bytesR_put _ _ (strL_len v.s) 0, textK_right]
          · rw [finC_ok rfl]; conv => rhs; rw [hv5]
          · rw [hv5] at h1; exact h1
        · rw [if_neg hty, if_neg hty]
          have := takeV_put v 2 l (.inr rfl) h1 hw
          rw [h2] at this
          have e : putL v.ty v.n v.x v.y v.s 2 = v.put 2 := rfl
          rw [e, this]
          simp only
          rw [finC_ok rfl]

end Go.Proofs.Ytdbepkfblfhlhaa
