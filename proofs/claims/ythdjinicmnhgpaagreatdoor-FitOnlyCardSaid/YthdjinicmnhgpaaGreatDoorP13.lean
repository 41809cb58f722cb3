/-
The reference's text of a number, of a fault.
-/
import Derived.Shelf.Strings.OnBuilder
import Derived.Shelf.LaysM
import Derived.Shelf.Strconv.Itoa3
import Derived.Lib.LaidTab
import Derived.Test.YthdjinicmnhgpaaGreatDoorP12
namespace Go.Proofs.YthdjinicmnhgpaaGreatDoor
open Go.RowKit

theorem digit_slice : ∀ r, r < 10 → (⟨#[48, 49, 50, 51, 52, 53, 54, 55, 56, 57]⟩ : ByteArray).extract r (r + 1) = txt [UInt8.ofNat (48 + r)] := by
  intro r h
  match r, h with
  | 0, _ => rfl
  | 1, _ => rfl
  | 2, _ => rfl
  | 3, _ => rfl
  | 4, _ => rfl
  | 5, _ => rfl
  | 6, _ => rfl
  | 7, _ => rfl
  | 8, _ => rfl
  | 9, _ => rfl

theorem txt_size (l : List UInt8) : (txt l).size = l.length := by unfold txt; simp [ByteArray.size]

set_option maxRecDepth 100000 in set_option maxHeartbeats 1600000 in
theorem rnum_any (n : Nat) (w : World) (hn : n < 18446744073709551616) :
    Calls Tryz.prog 62 #[.int .u64 n] w fun e w' => e = .returned (.string (txt (Lib.decDigits n))) ∧ w = w' := by
  have HN : Hid ((Lib.decDigits n).length ≤ 21) := Hid.mk' (dec_len64 hn)
  go_enter Tryz.func62, Tryz.ntmps62
  go_wp2
  go_loop [0, 3] (fun a s => ∃ (m : Nat) (l : List UInt8), a = .int .u64 m ∧ s = .string (txt l) ∧ m < 18446744073709551616 ∧ Hid (Lib.decDigits n = Lib.decDigits m ++ l)) (fun a _ => (intOf a).toNat)
  case atStart => exact ⟨n, [], rfl, rfl, hn, Hid.mk' (by rw [List.append_nil])⟩
  case round =>
    obtain ⟨m, l, rfl, rfl, hm, hd⟩ := hrel
    have hsz : (txt l).size ≤ 21 := by
      have h := HN.out
      rw [hd.out, List.length_append] at h
      rw [txt_size]; omega
    by_cases h9 : m ≤ 9
    · have HR := Hid.mk' (show (⟨#[48, 49, 50, 51, 52, 53, 54, 55, 56, 57]⟩ : ByteArray).extract m (m + 1) ++ txt l = txt (Lib.decDigits n) by rw [digit_slice m (by omega), txt_app, hd.out, dec_lt (by omega)])
      go_wp2
      go_ret
      exact ⟨by rw [← HR.out]; rfl, rfl⟩
    · have HR := Hid.mk' (show (⟨#[48, 49, 50, 51, 52, 53, 54, 55, 56, 57]⟩ : ByteArray).extract (m % 10) (m % 10 + 1) ++ txt l = txt ([UInt8.ofNat (48 + m % 10)] ++ l) by rw [digit_slice (m % 10) (by omega), txt_app])
      have HL := Hid.mk' (dec_ge (n := m) (by omega))
      go_wp2
      go_round
      case rel => exact ⟨m / 10, [UInt8.ofNat (48 + m % 10)] ++ l, by rw [show ((m / 10 : Nat) : Int) = (m : Int) / 10 by omega], by rw [HR.out], by omega, Hid.mk' (by rw [hd.out, HL.out, List.append_assoc])⟩
      case measure => simp [intOf]; omega

set_option maxRecDepth 100000 in set_option maxHeartbeats 1600000 in
theorem rsigned_any (v : Int) (w : World) (h0 : -9223372036854775808 ≤ v) (h1 : v ≤ 9223372036854775807) :
    Calls Tryz.prog 36 #[.int .i64 v] w fun e w' => e = .returned (.string (txt (Lib.itoa v))) ∧ w = w' := by
  by_cases hv : v < 0
  · have HL := Hid.mk' (show txt [45] ++ txt (Lib.decDigits v.natAbs) = txt (Lib.itoa v) by unfold Lib.itoa; rw [if_pos hv, txt_app]; rfl)
    have HZ : Hid ((txt (Lib.decDigits v.natAbs)).size ≤ 21) := Hid.mk' (by rw [txt_size]; exact dec_len64 (by omega))
    have HC := Hid.mk' (fun W => rnum_any v.natAbs W (by omega))
    have HE : Hid ((v.natAbs : Int) = -(v + 1) + 1) := Hid.mk' (by omega)
    rw [HE.out] at HC
    obtain ⟨D, hD⟩ : ∃ D, D = txt (Lib.decDigits v.natAbs) := ⟨_, rfl⟩
    rw [← hD] at HL HC HZ
    clear hD
    have hz := HZ.out
    go_enter Tryz.func36, Tryz.ntmps36
    go_wp2_with (go_at_call 62; refine (HC.out _).mono ?_; rintro e w1 ⟨rfl, rfl⟩)
    go_ret
    exact ⟨by rw [← HL.out]; rfl, rfl⟩
  · have HL := Hid.mk' (show txt (Lib.decDigits v.toNat) = txt (Lib.itoa v) by unfold Lib.itoa; rw [if_neg hv])
    have HC := Hid.mk' (fun W => rnum_any v.toNat W (by omega))
    have HE : Hid ((v.toNat : Int) = v) := Hid.mk' (by omega)
    rw [HE.out] at HC
    go_enter Tryz.func36, Tryz.ntmps36
    go_wp2_with (go_at_call 62; refine (HC.out _).mono ?_; rintro e w1 ⟨rfl, rfl⟩)
    go_ret
    exact ⟨by rw [← HL.out]; rfl, rfl⟩

theorem txt_faultE4 (tx er : Int) (h : er ≠ 0) : txt [116, 114, 97, 110, 115, 97, 99, 116, 105, 111, 110, 32] ++ txt (Lib.itoa tx) ++ txt [32, 101, 114, 114, 111, 114, 32] ++ txt (Lib.itoa er) = txt (faultT tx (-1) er) := by
  unfold faultT
  rw [if_neg h, if_pos rfl, join4, txt_app, txt_app, txt_app]
  simp [wTx, wEr]
theorem txt_faultE6 (tx ev er : Int) (h : er ≠ 0) (h2 : ev ≠ -1) : txt [116, 114, 97, 110, 115, 97, 99, 116, 105, 111, 110, 32] ++ txt (Lib.itoa tx) ++ txt [32, 101, 118, 101, 110, 116, 32] ++ txt (Lib.itoa ev) ++ txt [32, 101, 114, 114, 111, 114, 32] ++ txt (Lib.itoa er) = txt (faultT tx ev er) := by
  unfold faultT
  rw [if_neg h, if_neg h2, join6, txt_app, txt_app, txt_app, txt_app, txt_app]
  simp [wTx, wEv, wEr]
theorem ba_size (a b : ByteArray) : (a ++ b).size = a.size + b.size := by simp

set_option maxRecDepth 100000 in set_option maxHeartbeats 1600000 in
theorem rfault_any (tx ev er : Int) (w : World) (a0 : -9223372036854775808 ≤ tx) (a1 : tx ≤ 9223372036854775807) (b0 : -9223372036854775808 ≤ ev) (b1 : ev ≤ 9223372036854775807) (c0 : -9223372036854775808 ≤ er) (c1 : er ≤ 9223372036854775807) :
    Calls Tryz.prog 16 #[.int .i64 tx, .int .i64 ev, .int .i64 er] w fun e w' => e = .returned (.string (txt (faultT tx ev er))) ∧ w = w' := by
  have HC := Hid.mk' (fun v (h0 : -9223372036854775808 ≤ v) (h1 : v ≤ 9223372036854775807) W => rsigned_any v W h0 h1)
  have s1 : (txt (Lib.itoa tx)).size ≤ 22 := by rw [txt_size]; exact itoa_len a0 a1
  have s2 : (txt (Lib.itoa ev)).size ≤ 22 := by rw [txt_size]; exact itoa_len b0 b1
  have s3 : (txt (Lib.itoa er)).size ≤ 22 := by rw [txt_size]; exact itoa_len c0 c1
  by_cases h0 : er = 0
  · have HR := Hid.mk' (show faultT tx ev er = [102, 105, 110, 101] from if_pos h0)
    subst h0
    go_enter Tryz.func16, Tryz.ntmps16
    go_wp2
    go_ret
    exact ⟨by rw [HR.out]; rfl, rfl⟩
  have h0' : (er == 0) = false := by simpa using h0
  by_cases h1 : ev = -1
  · have HR := Hid.mk' (txt_faultE4 tx er h0)
    subst h1
    clear h0
    obtain ⟨T1, hT1⟩ : ∃ T, T = txt (Lib.itoa tx) := ⟨_, rfl⟩
    obtain ⟨T3, hT3⟩ : ∃ T, T = txt (Lib.itoa er) := ⟨_, rfl⟩
    have HC1 := Hid.mk' (HC.out tx a0 a1)
    have HC3 := Hid.mk' (HC.out er c0 c1)
    rw [← hT1] at HC1 s1 HR
    rw [← hT3] at HC3 s3 HR
    clear hT1 hT3 HC
    go_enter Tryz.func16, Tryz.ntmps16
    go_wp2_with (first
      | (go_at_call_of 36 (Value.int .i64 tx); refine (HC1.out _).mono ?_; rintro e w1 ⟨rfl, rfl⟩)
      | (go_at_call_of 36 (Value.int .i64 er); refine (HC3.out _).mono ?_; rintro e w1 ⟨rfl, rfl⟩))
    go_ret
    exact ⟨by rw [← HR.out]; rfl, rfl⟩
  · have HR := Hid.mk' (txt_faultE6 tx ev er h0 h1)
    have h1' : (ev != -1) = true := by simpa using h1
    clear h0 h1
    obtain ⟨T1, hT1⟩ : ∃ T, T = txt (Lib.itoa tx) := ⟨_, rfl⟩
    obtain ⟨T2, hT2⟩ : ∃ T, T = txt (Lib.itoa ev) := ⟨_, rfl⟩
    obtain ⟨T3, hT3⟩ : ∃ T, T = txt (Lib.itoa er) := ⟨_, rfl⟩
    have HC1 := Hid.mk' (HC.out tx a0 a1)
    have HC2 := Hid.mk' (HC.out ev b0 b1)
    have HC3 := Hid.mk' (HC.out er c0 c1)
    rw [← hT1] at HC1 s1 HR
    rw [← hT2] at HC2 s2 HR
    rw [← hT3] at HC3 s3 HR
    clear hT1 hT2 hT3 HC
    go_enter Tryz.func16, Tryz.ntmps16
    go_wp2_with (first
      | (go_at_call_of 36 (Value.int .i64 tx); refine (HC1.out _).mono ?_; rintro e w1 ⟨rfl, rfl⟩)
      | (go_at_call_of 36 (Value.int .i64 ev); refine (HC2.out _).mono ?_; rintro e w1 ⟨rfl, rfl⟩)
      | (go_at_call_of 36 (Value.int .i64 er); refine (HC3.out _).mono ?_; rintro e w1 ⟨rfl, rfl⟩))
    go_ret
    exact ⟨by rw [← HR.out]; rfl, rfl⟩

end Go.Proofs.YthdjinicmnhgpaaGreatDoor

/-
strconv.Itoa and strings.Join, laid in plain words.
-/
namespace Go.Proofs.YthdjinicmnhgpaaGreatDoor
open Go.Shelf
def Tryz.lays156_ren : Go.Shelf.Ren := ⟨fun | 156 => 35 | 165 => 59 | 166 => 60 | 169 => 61 | 240 => 87 | 241 => 88 | 276 => 122 | 277 => 123 | n => n, fun | 31 => 97 | 9 => 9 | 3 => 3 | 4 => 4 | 0 => 0 | 20 => 20 | 72 => 137 | 76 => 141 | 70 => 134 | 37 => 135 | 75 => 140 | 127 => 168 | 164 => 199 | 5 => 5 | 80 => 44 | n => n, fun | n => n⟩
theorem Tryz.lays156 : Go.Proofs.Lays.n156 Tryz.prog Tryz.lays156_ren := {
  mixed := by kernel_rfl
  f156 := Tryz.func35.trans (congrArg some (by kernel_rfl))
  f165 := Tryz.func59.trans (congrArg some (by kernel_rfl))
  f166 := Tryz.func60.trans (congrArg some (by kernel_rfl))
  f169 := Tryz.func61.trans (congrArg some (by kernel_rfl))
  f240 := Tryz.func87.trans (congrArg some (by kernel_rfl))
  f241 := Tryz.func88.trans (congrArg some (by kernel_rfl))
  f276 := Tryz.func122.trans (congrArg some (by kernel_rfl))
  f277 := Tryz.func123.trans (congrArg some (by kernel_rfl))
  t0 := Tryz.underlying0
  a0 := Tryz.isAgg0
  z0 := Tryz.sizeOf0
  v0 := Tryz.zeroValue0
  t3 := Tryz.underlying3
  a3 := Tryz.isAgg3
  z3 := Tryz.sizeOf3
  v3 := Tryz.zeroValue3
  t4 := Tryz.underlying4
  a4 := Tryz.isAgg4
  z4 := Tryz.sizeOf4
  v4 := Tryz.zeroValue4
  t9 := Tryz.underlying9
  a9 := Tryz.isAgg9
  z9 := Tryz.sizeOf9
  v9 := Tryz.zeroValue9
  t20 := Tryz.underlying20
  a20 := Tryz.isAgg20
  z20 := Tryz.sizeOf20
  v20 := Tryz.zeroValue20
  t31 := Tryz.underlying97
  a31 := Tryz.isAgg97
  z31 := Tryz.sizeOf97
  v31 := Tryz.zeroValue97
  t37 := Tryz.underlying135
  a37 := Tryz.isAgg135
  z37 := Tryz.sizeOf135
  v37 := Tryz.zeroValue135
  t70 := Tryz.underlying134
  a70 := Tryz.isAgg134
  z70 := Tryz.sizeOf134
  v70 := Tryz.zeroValue134
  t72 := Tryz.underlying137
  a72 := Tryz.isAgg137
  z72 := Tryz.sizeOf137
  v72 := Tryz.zeroValue137
  t75 := Tryz.underlying140
  a75 := Tryz.isAgg140
  z75 := Tryz.sizeOf140
  v75 := Tryz.zeroValue140
  t76 := Tryz.underlying141
  a76 := Tryz.isAgg141
  z76 := Tryz.sizeOf141
  v76 := Tryz.zeroValue141
  t127 := Tryz.underlying168
  a127 := Tryz.isAgg168
  z127 := Tryz.sizeOf168
  v127 := Tryz.zeroValue168
  t164 := Tryz.underlying199
  a164 := Tryz.isAgg199
  z164 := Tryz.sizeOf199
  v164 := Tryz.zeroValue199 }
def Tryz.laysM171_ren : Go.Shelf.Ren := ⟨fun | 171 => 34 | 243 => 58 | 246 => 86 | 283 => 118 | 284 => 119 | 285 => 120 | 286 => 121 | 129 => 116 | 317 => 140 | 318 => 141 | 319 => 142 | 320 => 143 | 337 => 150 | 338 => 151 | n => n, fun | 3 => 3 | 9 => 9 | 2 => 2 | 4 => 4 | 171 => 195 | 0 => 0 | 53 => 60 | 37 => 135 | 5 => 5 | 173 => 197 | 212 => 220 | 51 => 54 | 20 => 20 | 213 => 221 | 46 => 164 | 232 => 236 | 233 => 237 | n => n, fun | 17 => 1 | 18 => 4 | 19 => 5 | n => n⟩
theorem Tryz.laysM171 : Go.Proofs.LaysM.n171 Tryz.prog Tryz.laysM171_ren := {
  mixed := by kernel_rfl
  f129 := Tryz.func116.trans (congrArg some (by kernel_rfl))
  f171 := Tryz.func34.trans (congrArg some (by kernel_rfl))
  f243 := Tryz.func58.trans (congrArg some (by kernel_rfl))
  f246 := Tryz.func86.trans (congrArg some (by kernel_rfl))
  f283 := Tryz.func118.trans (congrArg some (by kernel_rfl))
  f284 := Tryz.func119.trans (congrArg some (by kernel_rfl))
  f285 := Tryz.func120.trans (congrArg some (by kernel_rfl))
  f286 := Tryz.func121.trans (congrArg some (by kernel_rfl))
  f317 := Tryz.func140.trans (congrArg some (by kernel_rfl))
  f318 := Tryz.func141.trans (congrArg some (by kernel_rfl))
  f319 := Tryz.func142.trans (congrArg some (by kernel_rfl))
  f320 := Tryz.func143.trans (congrArg some (by kernel_rfl))
  f337 := Tryz.func150.trans (congrArg some (by kernel_rfl))
  f338 := Tryz.func151.trans (congrArg some (by kernel_rfl))
  t0 := Tryz.underlying0
  a0 := Tryz.isAgg0
  z0 := Tryz.sizeOf0
  v0 := Tryz.zeroValue0
  t2 := Tryz.underlying2
  a2 := Tryz.isAgg2
  z2 := Tryz.sizeOf2
  v2 := Tryz.zeroValue2
  t3 := Tryz.underlying3
  a3 := Tryz.isAgg3
  z3 := Tryz.sizeOf3
  v3 := Tryz.zeroValue3
  t4 := Tryz.underlying4
  a4 := Tryz.isAgg4
  z4 := Tryz.sizeOf4
  v4 := Tryz.zeroValue4
  t5 := Tryz.underlying5
  a5 := Tryz.isAgg5
  z5 := Tryz.sizeOf5
  v5 := Tryz.zeroValue5
  t9 := Tryz.underlying9
  a9 := Tryz.isAgg9
  z9 := Tryz.sizeOf9
  v9 := Tryz.zeroValue9
  t20 := Tryz.underlying20
  a20 := Tryz.isAgg20
  z20 := Tryz.sizeOf20
  v20 := Tryz.zeroValue20
  t37 := Tryz.underlying135
  a37 := Tryz.isAgg135
  z37 := Tryz.sizeOf135
  v37 := Tryz.zeroValue135
  t46 := Tryz.underlying164
  a46 := Tryz.isAgg164
  z46 := Tryz.sizeOf164
  v46 := Tryz.zeroValue164
  t51 := Tryz.underlying54
  a51 := Tryz.isAgg54
  z51 := Tryz.sizeOf54
  v51 := Tryz.zeroValue54
  t53 := Tryz.underlying60
  a53 := Tryz.isAgg60
  z53 := Tryz.sizeOf60
  v53 := Tryz.zeroValue60
  t171 := Tryz.underlying195
  a171 := Tryz.isAgg195
  z171 := Tryz.sizeOf195
  v171 := Tryz.zeroValue195
  t173 := Tryz.underlying197
  a173 := Tryz.isAgg197
  z173 := Tryz.sizeOf197
  v173 := Tryz.zeroValue197
  t212 := Tryz.underlying220
  a212 := Tryz.isAgg220
  z212 := Tryz.sizeOf220
  v212 := Tryz.zeroValue220
  t213 := Tryz.underlying221
  a213 := Tryz.isAgg221
  z213 := Tryz.sizeOf221
  t232 := Tryz.underlying236
  a232 := Tryz.isAgg236
  z232 := Tryz.sizeOf236
  v232 := Tryz.zeroValue236
  t233 := Tryz.underlying237
  a233 := Tryz.isAgg237
  z233 := Tryz.sizeOf237
  v233 := Tryz.zeroValue237
  g17 := by kernel_rfl
  g18 := by kernel_rfl
  g19 := by kernel_rfl
  i0 := by kernel_rfl
  i2 := by kernel_rfl
  i3 := by kernel_rfl
  i4 := by kernel_rfl
  i5 := by kernel_rfl
  i9 := by kernel_rfl
  i20 := by kernel_rfl
  i37 := by kernel_rfl
  i46 := by kernel_rfl
  i51 := by kernel_rfl
  i53 := by kernel_rfl
  i171 := by kernel_rfl
  i173 := by kernel_rfl
  i212 := by kernel_rfl
  i232 := by kernel_rfl
  i233 := by kernel_rfl
  m17 := by kernel_rfl
  m18 := by kernel_rfl
  m19 := by kernel_rfl }
end Go.Proofs.YthdjinicmnhgpaaGreatDoor

/-
The program's text of a fault.
-/
namespace Go.Proofs.YthdjinicmnhgpaaGreatDoor
open Go.RowKit Go.Shelf Go.Sort

theorem Tryz.beX : Builder.Extra Tryz.prog Tryz.lays156_ren := {
  sizeBuilder := by kernel_rfl
  liesBuilder := by kernel_rfl
  t5 := Tryz.underlying5
  a5 := Tryz.isAgg5
  z5 := Tryz.sizeOf5
  v5 := Tryz.zeroValue5
  infoByte := by kernel_rfl
  cellsByte := by kernel_rfl
  sizeByte := by kernel_rfl
  neB5 := by decide }
theorem Tryz.infoStr : (Tryz.prog.info? 9).map (fun i => (i.zero, i.size, i.bytes)) = some (some (.string ⟨#[]⟩), 1, 16) := by kernel_rfl

/-- The table that the library's numbers' texts read. -/
def Tab (w : World) : Prop := Lib.TabIs Tryz.prog w "internal/strconv.uint64pow10" .u64 Lib.pow10Tab
theorem Tab.ext {w w' : World} (h : Tab w) (he : Ext w w') : Tab w' := by
  unfold Tab Lib.TabIs World.var? at h ⊢
  have hgn : Tryz.prog.globalNamed "internal/strconv.uint64pow10" = some 1 := by kernel_rfl
  rw [hgn] at h ⊢
  simp only [Option.bind_some] at h ⊢
  have hlt : 1 < w.heap.size := by
    rcases Nat.lt_or_ge 1 w.heap.size with h' | h'
    · exact h'
    · rw [Array.getElem?_eq_none h'] at h; cases h
  rw [he.block _ hlt]
  exact h
theorem ext_grow (w : World) (k : Nat) (os : Array Obj) : Ext w (grow (w.drewN k) os) :=
  ⟨rfl, rfl, rfl, by rw [size_grow]; exact Nat.le_add_right _ _, fun i hi => heap_grow_old (w.drewN k) os hi⟩
theorem itoa_any (v : Int) (w : World) (h0 : -9223372036854775808 ≤ v) (h1 : v ≤ 9223372036854775807) (ht : Tab w) :
    Calls Tryz.prog 34 #[.int .i64 v] w fun e w' => e = .returned (.string (txt (Lib.itoa v))) ∧ Ext w w' := by
  have h := Any.strconv_Itoa Tryz.laysM171 v h0 h1 w ht
  change Calls Tryz.prog 34 _ _ _ at h
  refine h.mono ?_
  rintro e w' ⟨he, k, os, rfl⟩
  exact ⟨he, ext_grow w k os⟩
theorem join_any (b c : Nat) (xs : List ByteArray) (w : World) (hc : ∀ (j : Nat) x, xs[j]? = some x → w.cell? ⟨b, 0 + j, none⟩ = some (.string x)) (hb : b < w.heap.size) (hcap : xs.length ≤ c) (hn : xs.length ≤ 10)
    (hlen : (Lib.join (xs.map (·.data.toList)) [32]).length ≤ 1000) :
    Calls Tryz.prog 35 #[.slice (some ⟨b, 0, none⟩) xs.length c, .string ⟨#[32]⟩] w fun e w' => e = .returned (.string (txt (Lib.join (xs.map (·.data.toList)) [32]))) ∧ Ext w w' := by
  have h := Any.strings_Join Tryz.lays156 Tryz.beX b 0 c xs ⟨#[32]⟩ w hc hb (by omega) hcap (by show (Lib.join (xs.map (·.data.toList)) [32]).length ≤ _; omega)
  change Calls Tryz.prog 35 _ _ _ at h
  exact h.mono fun e w' h => h

set_option maxRecDepth 100000 in set_option maxHeartbeats 4000000 in
theorem fault_any (tx ev er : Int) (w : World) (a0 : -9223372036854775808 ≤ tx) (a1 : tx ≤ 9223372036854775807) (b0 : -9223372036854775808 ≤ ev) (b1 : ev ≤ 9223372036854775807) (c0 : -9223372036854775808 ≤ er) (c1 : er ≤ 9223372036854775807) (ht : Tab w) :
    Calls Tryz.prog 15 #[.agg #[.int .i64 tx, .int .i64 ev, .int .i64 er]] w fun e w' => e = .returned (.string (txt (faultT tx ev er))) ∧ Ext w w' := by
  obtain ⟨i0, hi, hz0, hz1, hz2⟩ := info_parts Tryz.infoStr
  have HT := Hid.mk' ht
  have HC := Hid.mk' (fun v (h0 : -9223372036854775808 ≤ v) (h1 : v ≤ 9223372036854775807) W (h : Ext w W) => itoa_any v W h0 h1 (ht.ext h))
  have l1 := itoa_len a0 a1
  have l2 := itoa_len b0 b1
  have l3 := itoa_len c0 c1
  clear ht
  by_cases h0 : er = 0
  · have HR := Hid.mk' (show faultT tx ev er = [102, 105, 110, 101] from if_pos h0)
    subst h0
    go_enter Tryz.func15, Tryz.ntmps15
    go_wp2
    go_ret
    exact ⟨by rw [HR.out]; rfl, by (repeat (with_reducible (first | exact Ext.refl _ | assumption | exact held_left (by assumption) | apply Ext.drewN | apply Ext.drew | apply Ext.alloc | (refine Ext.setCell ?_ (by first | (simp; done) | (simp; omega) | omega) _) | (refine Ext.trans ?_ (by assumption)) | (refine Ext.trans ?_ (held_left (by assumption))))))⟩
  have h0' : (er == 0) = false := by simpa using h0
  have HC1 := Hid.mk' (HC.out tx a0 a1)
  have HC2 := Hid.mk' (HC.out ev b0 b1)
  have HC3 := Hid.mk' (HC.out er c0 c1)
  by_cases h1 : ev = -1
  · have HR := Hid.mk' (show Lib.join [wTx, Lib.itoa tx, wEr, Lib.itoa er] [32] = faultT tx ev er from by unfold faultT; rw [if_neg h0, if_pos h1])
    have HLN : Hid ((faultT tx ev er).length ≤ 1000) := Hid.mk' (by rw [← HR.out, join4]; simp [wTx, wEr]; omega)
    have h1' : (ev != -1) = false := by simpa using h1
    clear h0 h1
    obtain ⟨L1, hL1⟩ : ∃ T, T = Lib.itoa tx := ⟨_, rfl⟩
    obtain ⟨L3, hL3⟩ : ∃ T, T = Lib.itoa er := ⟨_, rfl⟩
    rw [← hL1] at HC1 HR
    rw [← hL3] at HC3 HR
    clear hL1 hL3 HC l1 l2 l3 HC2
    go_enter Tryz.func15, Tryz.ntmps15
    go_upto_region 4 with (go_at_call 34; refine (HC1.out _ (by (repeat (with_reducible (first | exact Ext.refl _ | assumption | exact held_left (by assumption) | apply Ext.drewN | apply Ext.drew | apply Ext.alloc | (refine Ext.setCell ?_ (by first | (simp; done) | (simp; omega) | omega) _) | (refine Ext.trans ?_ (by assumption)) | (refine Ext.trans ?_ (held_left (by assumption)))))))).mono ?_; rintro e w1 ⟨rfl, hb1⟩; have HB := Hid.mk' ((Blk.new w #[.int .i64 tx, .int .i64 ev, .int .i64 er] 36).ext hb1); have HE1 := Hid.mk' (show Ext w w1 by (repeat (with_reducible (first | exact Ext.refl _ | assumption | exact held_left (by assumption) | apply Ext.drewN | apply Ext.drew | apply Ext.alloc | (refine Ext.setCell ?_ (by first | (simp; done) | (simp; omega) | omega) _) | (refine Ext.trans ?_ (by assumption)) | (refine Ext.trans ?_ (held_left (by assumption))))))); clear hb1)
    have g1 := HB.out.cell
    have z1 := HB.out.lt
    have HO1 := Hid.mk' (show (w1.alloc (.cells #[.string (⟨#[116, 114, 97, 110, 115, 97, 99, 116, 105, 111, 110]⟩ : ByteArray), .string (txt L1)] 9)).ownsRow w1.heap.size 9 1 (.slice (some ⟨w1.heap.size, 0, none⟩) 2 2) 2 [.string (⟨#[116, 114, 97, 110, 115, 97, 99, 116, 105, 111, 110]⟩ : ByteArray), .string (txt L1)] from ⟨rfl, .inr ⟨w1.heap.size, 2, #[.string (⟨#[116, 114, 97, 110, 115, 97, 99, 116, 105, 111, 110]⟩ : ByteArray), .string (txt L1)], rfl, Nat.le_refl _, Blk.new w1 _ _, Nat.le_refl _, by unfold maxLen; omega, rfl, rfl⟩⟩)
    go_wp2_with (first
      | (go_at_call 34; refine (HC3.out _ (by have := HE1.out; (repeat (with_reducible (first | exact Ext.refl _ | assumption | exact held_left (by assumption) | apply Ext.drewN | apply Ext.drew | apply Ext.alloc | (refine Ext.setCell ?_ (by first | (simp; done) | (simp; omega) | omega) _) | (refine Ext.trans ?_ (by assumption)) | (refine Ext.trans ?_ (held_left (by assumption)))))))).mono ?_; rintro e w2 ⟨rfl, hb2⟩; have HE2 := Hid.mk' (show Ext (w1.alloc (.cells #[.string (⟨#[116, 114, 97, 110, 115, 97, 99, 116, 105, 111, 110]⟩ : ByteArray), .string (txt L1)] 9)) w2 by (repeat (with_reducible (first | exact Ext.refl _ | assumption | exact held_left (by assumption) | apply Ext.drewN | apply Ext.drew | apply Ext.alloc | (refine Ext.setCell ?_ (by first | (simp; done) | (simp; omega) | omega) _) | (refine Ext.trans ?_ (by assumption)) | (refine Ext.trans ?_ (held_left (by assumption))))))); clear hb2)
      | (at_builtin; refine wpList_append_own _ rfl _ _ 97 rfl w1.heap.size 9 i0 _ 1 16 Tryz.underlying97 hi hz0 hz1 hz2 rfl (by decide) (.slice (some ⟨w1.heap.size, 0, none⟩) 2 2) 2 [.string (⟨#[116, 114, 97, 110, 115, 97, 99, 116, 105, 111, 110]⟩ : ByteArray), .string (txt L1)] rfl (owns_ext HO1.out (HE2.out.alloc _)) ⟨_, 0, none⟩ 2 2 [.string (⟨#[101, 114, 114, 111, 114]⟩ : ByteArray), .string (txt L3)] rfl rfl ?c1 ?c2 ?c3 ?c4 ?c5 ?_))
    case c1 => exact cells_new _ #[.string (⟨#[101, 114, 114, 111, 114]⟩ : ByteArray), .string (txt L3)] _
    case c2 => intro u hu; simp at hu; rcases hu with rfl | rfl <;> rfl
    case c3 => unfold maxLen; omega
    case c4 => omega
    case c5 => have := HE2.out.size; simp at this ⊢; omega
    intro v' w3 hown' hgrow _
    have HE3 : Hid (Ext w w3) := Hid.mk' (by
      have h1 : Ext w (w2.alloc (.cells #[.string (⟨#[101, 114, 114, 111, 114]⟩ : ByteArray), .string (txt L3)] 9)) := by have := HE1.out; have := HE2.out; (repeat (with_reducible (first | exact Ext.refl _ | assumption | exact held_left (by assumption) | apply Ext.drewN | apply Ext.drew | apply Ext.alloc | (refine Ext.setCell ?_ (by first | (simp; done) | (simp; omega) | omega) _) | (refine Ext.trans ?_ (by assumption)) | (refine Ext.trans ?_ (held_left (by assumption))))))
      exact Below.grown h1 hgrow (by have := h1.size; exact this) (fun g hg => by have := (HO1.out.lt g hg).1; have := HE1.out.size; omega))
    have hown2 : w3.ownsRow w1.heap.size 9 1 v' 4 ([(⟨#[116, 114, 97, 110, 115, 97, 99, 116, 105, 111, 110]⟩ : ByteArray), txt L1, (⟨#[101, 114, 114, 111, 114]⟩ : ByteArray), txt L3].map Value.string) := hown'
    rcases hown2.2 with ⟨-, h00⟩ | ⟨g, cap, cur, rfl, hg, hBl, hnc, -, -, htk⟩
    · cases h00
    have hBk : Blk w3 g cur 9 := hBl
    have HJ := Hid.mk' (join_any g cap [(⟨#[116, 114, 97, 110, 115, 97, 99, 116, 105, 111, 110]⟩ : ByteArray), txt L1, (⟨#[101, 114, 114, 111, 114]⟩ : ByteArray), txt L3] w3 (fun j x hj => by
        have hj4 : j < 4 := by
          rcases Nat.lt_or_ge j 4 with h | h
          · exact h
          · rw [List.getElem?_eq_none (by simpa using h)] at hj; cases hj
        have h1 : (cur.toList.take (4 * 1))[j]? = some (.string x) := by rw [htk, List.getElem?_map, hj]; rfl
        rw [List.getElem?_take_of_lt (by omega)] at h1
        rw [hBk.cell, Nat.zero_add, ← Array.getElem?_toList]
        exact h1) hBk.lt hnc (by simp) (by have h := HLN.out; rw [← HR.out] at h; exact h))
    have HJ2 : Hid (Calls Tryz.prog 35 #[.slice (some ⟨g, 0, none⟩) 4 cap, .string ⟨#[32]⟩] w3 fun e w' => e = .returned (.string (txt (faultT tx ev er))) ∧ Ext w3 w') := Hid.mk' (by rw [← HR.out]; exact HJ.out)
    clear hown' hown2 hgrow hg hBl hBk hnc htk HJ
    go_wp2_with (go_at_call 35; refine HJ2.out.mono ?_; rintro e w4 ⟨rfl, hb4⟩)
    go_ret
    exact ⟨rfl, HE3.out.trans hb4⟩
  · have HR := Hid.mk' (show Lib.join [wTx, Lib.itoa tx, wEv, Lib.itoa ev, wEr, Lib.itoa er] [32] = faultT tx ev er from by unfold faultT; rw [if_neg h0, if_neg h1])
    have HLN : Hid ((faultT tx ev er).length ≤ 1000) := Hid.mk' (by rw [← HR.out, join6]; simp [wTx, wEv, wEr]; omega)
    have h1' : (ev != -1) = true := by simpa using h1
    clear h0 h1
    obtain ⟨L1, hL1⟩ : ∃ T, T = Lib.itoa tx := ⟨_, rfl⟩
    obtain ⟨L2, hL2⟩ : ∃ T, T = Lib.itoa ev := ⟨_, rfl⟩
    obtain ⟨L3, hL3⟩ : ∃ T, T = Lib.itoa er := ⟨_, rfl⟩
    rw [← hL1] at HC1 HR
    rw [← hL2] at HC2 HR
    rw [← hL3] at HC3 HR
    clear hL1 hL2 hL3 HC l1 l2 l3
    go_enter Tryz.func15, Tryz.ntmps15
    go_upto_region 4 with (go_at_call 34; refine (HC1.out _ (by (repeat (with_reducible (first | exact Ext.refl _ | assumption | exact held_left (by assumption) | apply Ext.drewN | apply Ext.drew | apply Ext.alloc | (refine Ext.setCell ?_ (by first | (simp; done) | (simp; omega) | omega) _) | (refine Ext.trans ?_ (by assumption)) | (refine Ext.trans ?_ (held_left (by assumption)))))))).mono ?_; rintro e w1 ⟨rfl, hb1⟩; have HB := Hid.mk' ((Blk.new w #[.int .i64 tx, .int .i64 ev, .int .i64 er] 36).ext hb1); have HE1 := Hid.mk' (show Ext w w1 by (repeat (with_reducible (first | exact Ext.refl _ | assumption | exact held_left (by assumption) | apply Ext.drewN | apply Ext.drew | apply Ext.alloc | (refine Ext.setCell ?_ (by first | (simp; done) | (simp; omega) | omega) _) | (refine Ext.trans ?_ (by assumption)) | (refine Ext.trans ?_ (held_left (by assumption))))))); clear hb1)
    have g1 := HB.out.cell
    have z1 := HB.out.lt
    have HO1 := Hid.mk' (show (w1.alloc (.cells #[.string (⟨#[116, 114, 97, 110, 115, 97, 99, 116, 105, 111, 110]⟩ : ByteArray), .string (txt L1)] 9)).ownsRow w1.heap.size 9 1 (.slice (some ⟨w1.heap.size, 0, none⟩) 2 2) 2 [.string (⟨#[116, 114, 97, 110, 115, 97, 99, 116, 105, 111, 110]⟩ : ByteArray), .string (txt L1)] from ⟨rfl, .inr ⟨w1.heap.size, 2, #[.string (⟨#[116, 114, 97, 110, 115, 97, 99, 116, 105, 111, 110]⟩ : ByteArray), .string (txt L1)], rfl, Nat.le_refl _, Blk.new w1 _ _, Nat.le_refl _, by unfold maxLen; omega, rfl, rfl⟩⟩)
    go_upto_region 6 with (first
      | (go_at_call 34; refine (HC2.out _ (by have := HE1.out; (repeat (with_reducible (first | exact Ext.refl _ | assumption | exact held_left (by assumption) | apply Ext.drewN | apply Ext.drew | apply Ext.alloc | (refine Ext.setCell ?_ (by first | (simp; done) | (simp; omega) | omega) _) | (refine Ext.trans ?_ (by assumption)) | (refine Ext.trans ?_ (held_left (by assumption)))))))).mono ?_; rintro e w2 ⟨rfl, hb2⟩; have HE2 := Hid.mk' (show Ext (w1.alloc (.cells #[.string (⟨#[116, 114, 97, 110, 115, 97, 99, 116, 105, 111, 110]⟩ : ByteArray), .string (txt L1)] 9)) w2 by (repeat (with_reducible (first | exact Ext.refl _ | assumption | exact held_left (by assumption) | apply Ext.drewN | apply Ext.drew | apply Ext.alloc | (refine Ext.setCell ?_ (by first | (simp; done) | (simp; omega) | omega) _) | (refine Ext.trans ?_ (by assumption)) | (refine Ext.trans ?_ (held_left (by assumption))))))); clear hb2)
      | (at_builtin; refine wpList_append_own _ rfl _ _ 97 rfl w1.heap.size 9 i0 _ 1 16 Tryz.underlying97 hi hz0 hz1 hz2 rfl (by decide) (.slice (some ⟨w1.heap.size, 0, none⟩) 2 2) 2 [.string (⟨#[116, 114, 97, 110, 115, 97, 99, 116, 105, 111, 110]⟩ : ByteArray), .string (txt L1)] rfl (owns_ext HO1.out (HE2.out.alloc _)) ⟨_, 0, none⟩ 2 2 [.string (⟨#[101, 118, 101, 110, 116]⟩ : ByteArray), .string (txt L2)] rfl rfl ?c1 ?c2 ?c3 ?c4 ?c5 ?_))
    case c1 => exact cells_new _ #[.string (⟨#[101, 118, 101, 110, 116]⟩ : ByteArray), .string (txt L2)] _
    case c2 => intro u hu; simp at hu; rcases hu with rfl | rfl <;> rfl
    case c3 => unfold maxLen; omega
    case c4 => omega
    case c5 => have := HE2.out.size; simp at this ⊢; omega
    intro v' w3 hown' hgrow _
    have HX3 : Hid (Ext w1 w3) := Hid.mk' (by
      have h1 : Ext w1 (w2.alloc (.cells #[.string (⟨#[101, 118, 101, 110, 116]⟩ : ByteArray), .string (txt L2)] 9)) := by have := HE2.out; (repeat (with_reducible (first | exact Ext.refl _ | assumption | exact held_left (by assumption) | apply Ext.drewN | apply Ext.drew | apply Ext.alloc | (refine Ext.setCell ?_ (by first | (simp; done) | (simp; omega) | omega) _) | (refine Ext.trans ?_ (by assumption)) | (refine Ext.trans ?_ (held_left (by assumption))))))
      exact Below.grown h1 hgrow (by have := h1.size; exact this) (fun g hg => (HO1.out.lt g hg).1))
    have HO3 : Hid (w3.ownsRow w1.heap.size 9 1 v' 4 [.string (⟨#[116, 114, 97, 110, 115, 97, 99, 116, 105, 111, 110]⟩ : ByteArray), .string (txt L1), .string (⟨#[101, 118, 101, 110, 116]⟩ : ByteArray), .string (txt L2)]) := Hid.mk' hown'
    have HE3 : Hid (Ext w w3) := Hid.mk' (HE1.out.trans HX3.out)
    clear hown' hgrow g1 z1
    have g3 := (HB.out.ext HX3.out).cell
    have z3 := (HB.out.ext HX3.out).lt
    go_wp2_with (first
      | (go_at_call 34; refine (HC3.out _ HE3.out).mono ?_; rintro e w4 ⟨rfl, hb4⟩; have HE4 := Hid.mk' hb4; clear hb4)
      | (at_builtin; refine wpList_append_own _ rfl _ _ 97 rfl w1.heap.size 9 i0 _ 1 16 Tryz.underlying97 hi hz0 hz1 hz2 rfl (by decide) v' 4 _ rfl (owns_ext HO3.out (HE4.out.alloc _)) ⟨_, 0, none⟩ 2 2 [.string (⟨#[101, 114, 114, 111, 114]⟩ : ByteArray), .string (txt L3)] rfl rfl ?d1 ?d2 ?d3 ?d4 ?d5 ?_))
    case d1 => exact cells_new _ #[.string (⟨#[101, 114, 114, 111, 114]⟩ : ByteArray), .string (txt L3)] _
    case d2 => intro u hu; simp at hu; rcases hu with rfl | rfl <;> rfl
    case d3 => unfold maxLen; omega
    case d4 => omega
    case d5 => have := HX3.out.size; have := HE4.out.size; simp; omega
    intro v5 w5 hown' hgrow _
    have HE5 : Hid (Ext w w5) := Hid.mk' (by
      have h1 : Ext w (w4.alloc (.cells #[.string (⟨#[101, 114, 114, 111, 114]⟩ : ByteArray), .string (txt L3)] 9)) := by have := HE3.out; have := HE4.out; (repeat (with_reducible (first | exact Ext.refl _ | assumption | exact held_left (by assumption) | apply Ext.drewN | apply Ext.drew | apply Ext.alloc | (refine Ext.setCell ?_ (by first | (simp; done) | (simp; omega) | omega) _) | (refine Ext.trans ?_ (by assumption)) | (refine Ext.trans ?_ (held_left (by assumption))))))
      exact Below.grown h1 hgrow (by have := h1.size; exact this) (fun g hg => by have := (HO3.out.lt g hg).1; have := HE1.out.size; omega))
    have hown2 : w5.ownsRow w1.heap.size 9 1 v5 6 ([(⟨#[116, 114, 97, 110, 115, 97, 99, 116, 105, 111, 110]⟩ : ByteArray), txt L1, (⟨#[101, 118, 101, 110, 116]⟩ : ByteArray), txt L2, (⟨#[101, 114, 114, 111, 114]⟩ : ByteArray), txt L3].map Value.string) := hown'
    rcases hown2.2 with ⟨-, h00⟩ | ⟨g, cap, cur, rfl, hg, hBl, hnc, -, -, htk⟩
    · cases h00
    have hBk : Blk w5 g cur 9 := hBl
    have HJ := Hid.mk' (join_any g cap [(⟨#[116, 114, 97, 110, 115, 97, 99, 116, 105, 111, 110]⟩ : ByteArray), txt L1, (⟨#[101, 118, 101, 110, 116]⟩ : ByteArray), txt L2, (⟨#[101, 114, 114, 111, 114]⟩ : ByteArray), txt L3] w5 (fun j x hj => by
        have hj4 : j < 6 := by
          rcases Nat.lt_or_ge j 6 with h | h
          · exact h
          · rw [List.getElem?_eq_none (by simpa using h)] at hj; cases hj
        have h1 : (cur.toList.take (6 * 1))[j]? = some (.string x) := by rw [htk, List.getElem?_map, hj]; rfl
        rw [List.getElem?_take_of_lt (by omega)] at h1
        rw [hBk.cell, Nat.zero_add, ← Array.getElem?_toList]
        exact h1) hBk.lt hnc (by simp) (by have h := HLN.out; rw [← HR.out] at h; exact h))
    have HJ2 : Hid (Calls Tryz.prog 35 #[.slice (some ⟨g, 0, none⟩) 6 cap, .string ⟨#[32]⟩] w5 fun e w' => e = .returned (.string (txt (faultT tx ev er))) ∧ Ext w5 w') := Hid.mk' (by rw [← HR.out]; exact HJ.out)
    clear hown' hown2 hgrow hg hBl hBk hnc htk HJ
    go_wp2_with (go_at_call 35; refine HJ2.out.mono ?_; rintro e w6 ⟨rfl, hb6⟩)
    go_ret
    exact ⟨rfl, HE5.out.trans hb6⟩

end Go.Proofs.YthdjinicmnhgpaaGreatDoor

/-
The chapter's example of faults.
-/
namespace Go.Proofs.YthdjinicmnhgpaaGreatDoor
open Go.RowKit

/-- What the program's variable of no fault holds. -/
def Non (w : World) : Prop := (w.cell? ⟨0, 0, none⟩ = some (.int .i64 (-1)) ∧ w.cell? ⟨0, 1, none⟩ = some (.int .i64 (-1)) ∧ w.cell? ⟨0, 2, none⟩ = some (.int .i64 0)) ∧ 0 < w.heap.size
theorem Non.ext {w w' : World} (h : Non w) (he : Ext w w') : Non w' :=
  ⟨⟨(he.cells.1 _ _ h.2).trans h.1.1, (he.cells.1 _ _ h.2).trans h.1.2.1, (he.cells.1 _ _ h.2).trans h.1.2.2⟩, Nat.lt_of_lt_of_le h.2 he.size⟩

set_option maxRecDepth 20000 in set_option maxHeartbeats 400000 in
theorem cnew14_any (w : World) : Calls Tryz.prog 24 #[] w fun e w' => ∃ g, e = .returned (.pointer (some ⟨g, 0, none⟩)) ∧ Ext w w' := by
  go_enter Tryz.func24, Tryz.ntmps24
  go_wp2
  go_ret
  exact ⟨_, rfl, by (repeat (with_reducible (first | exact Ext.refl _ | assumption | exact held_left (by assumption) | apply Ext.drewN | apply Ext.drew | apply Ext.alloc | (refine Ext.setCell ?_ (by first | (simp; done) | (simp; omega) | omega) _) | (refine Ext.trans ?_ (by assumption)) | (refine Ext.trans ?_ (held_left (by assumption))))))⟩

set_option maxRecDepth 20000 in set_option maxHeartbeats 400000 in
theorem txr0_any (p : Value) (w : World) : Calls Tryz.prog 28 #[.agg #[.int .u32 3, .int .u64 0, .slice none 0 0], p] w fun e w' => e = .returned (.tuple #[.int .i64 (-1), .int .i64 0]) ∧ Ext w w' := by
  go_enter Tryz.func28, Tryz.ntmps28
  go_wp2
  go_loop [21] (fun i => i = .int .i64 0) (fun _ => 0)
  case atStart => rfl
  case round =>
    subst hrel
    go_wp2
    go_ret2
    exact ⟨rfl, by (repeat (with_reducible (first | exact Ext.refl _ | assumption | exact held_left (by assumption) | apply Ext.drewN | apply Ext.drew | apply Ext.alloc | (refine Ext.setCell ?_ (by first | (simp; done) | (simp; omega) | omega) _) | (refine Ext.trans ?_ (by assumption)) | (refine Ext.trans ?_ (held_left (by assumption))))))⟩

set_option maxRecDepth 100000 in set_option maxHeartbeats 4000000 in
theorem check2_any (p : Value) (b c : Nat) (w : World) (h0 : w.cell? ⟨b, 0, none⟩ = some (.int .u32 3) ∧ w.cell? ⟨b, 1, none⟩ = some (.int .u64 0) ∧ w.cell? ⟨b, 2, none⟩ = some (.slice none 0 0))
    (h1 : w.cell? ⟨b, 3, none⟩ = some (.int .u32 3) ∧ w.cell? ⟨b, 4, none⟩ = some (.int .u64 0) ∧ w.cell? ⟨b, 5, none⟩ = some (.slice none 0 0)) (hb : b < w.heap.size) :
    Calls Tryz.prog 10 #[p, .slice (some ⟨b, 0, none⟩) 2 c] w fun e w' => e = .returned (.agg #[.int .i64 1, .int .i64 (-1), .int .i64 15]) ∧ Ext w w' := by
  have H0 := Hid.mk' h0
  have H1 := Hid.mk' h1
  have HB := Hid.mk' hb
  clear h0 h1 hb
  go_enter Tryz.func10, Tryz.ntmps10
  go_wp2
  go_loopw [5, 12] (fun l i wr => ((l = .int .u32 0 ∧ i = .int .i64 0) ∨ (l = .int .u32 3 ∧ i = .int .i64 1)) ∧ Hid (Blk wr w.heap.size #[.int .i64 0, .int .i64 0, .int .i64 0] 36) ∧ Hid (Ext w wr)) (fun _ i _ => 2 - (intOf i).toNat)
  case atStart => exact ⟨.inl ⟨rfl, rfl⟩, Hid.mk' (Blk.new _ _ _), Hid.mk' (by (repeat (with_reducible (first | exact Ext.refl _ | assumption | exact held_left (by assumption) | apply Ext.drewN | apply Ext.drew | apply Ext.alloc | (refine Ext.setCell ?_ (by first | (simp; done) | (simp; omega) | omega) _) | (refine Ext.trans ?_ (by assumption)) | (refine Ext.trans ?_ (held_left (by assumption)))))))⟩
  case round =>
    obtain ⟨hh, hX, hE⟩ := hrel
    have hbw : b < wr.heap.size := Nat.lt_of_lt_of_le HB.out hE.out.size
    have k0 := (hE.out.cells.1 b 0 HB.out).trans H0.out.1
    have k1 := (hE.out.cells.1 b 1 HB.out).trans H0.out.2.1
    have k2 := (hE.out.cells.1 b 2 HB.out).trans H0.out.2.2
    have k3 := (hE.out.cells.1 b 3 HB.out).trans H1.out.1
    have k4 := (hE.out.cells.1 b 4 HB.out).trans H1.out.2.1
    have k5 := (hE.out.cells.1 b 5 HB.out).trans H1.out.2.2
    rcases hh with ⟨rfl, rfl⟩ | ⟨rfl, rfl⟩
    · go_wp2_with (go_at_call 28; refine (txr0_any _ _).mono ?_; rintro e w1 ⟨rfl, hb1⟩; have HE1 := Hid.mk' (show Ext wr w1 by (repeat (with_reducible (first | exact Ext.refl _ | assumption | exact held_left (by assumption) | apply Ext.drewN | apply Ext.drew | apply Ext.alloc | (refine Ext.setCell ?_ (by first | (simp; done) | (simp; omega) | omega) _) | (refine Ext.trans ?_ (by assumption)) | (refine Ext.trans ?_ (held_left (by assumption))))))); clear hb1)
      go_roundw
      case rel => exact ⟨.inr ⟨rfl, rfl⟩, Hid.mk' (hX.out.ext HE1.out), Hid.mk' (hE.out.trans HE1.out)⟩
      case measure => simp [intOf]
    · have gx := hX.out.cell
      have gxf := hX.out.frozen
      have zx := hX.out.lt
      go_wp2
      simp [bodyPost, results, Tryz.results10, go_sem, *]
      have := hE.out
      (repeat (with_reducible (first | exact Ext.refl _ | assumption | exact held_left (by assumption) | apply Ext.drewN | apply Ext.drew | apply Ext.alloc | (refine Ext.setCell ?_ (by first | (simp; done) | (simp; omega) | omega) _) | (refine Ext.trans ?_ (by assumption)) | (refine Ext.trans ?_ (held_left (by assumption))))))

set_option maxRecDepth 100000 in set_option maxHeartbeats 4000000 in
theorem check1_any (p : Value) (b c : Nat) (w : World) (h0 : w.cell? ⟨b, 0, none⟩ = some (.int .u32 3) ∧ w.cell? ⟨b, 1, none⟩ = some (.int .u64 0) ∧ w.cell? ⟨b, 2, none⟩ = some (.slice none 0 0)) (hb : b < w.heap.size) (hN : Non w) :
    Calls Tryz.prog 10 #[p, .slice (some ⟨b, 0, none⟩) 1 c] w fun e w' => e = .returned (.agg #[.int .i64 (-1), .int .i64 (-1), .int .i64 0]) ∧ Ext w w' := by
  have H0 := Hid.mk' h0
  have HB := Hid.mk' hb
  have HN := Hid.mk' hN
  clear h0 hb hN
  go_enter Tryz.func10, Tryz.ntmps10
  go_wp2
  go_loopw [5, 12] (fun l i wr => ((l = .int .u32 0 ∧ i = .int .i64 0) ∨ (l = .int .u32 3 ∧ i = .int .i64 1)) ∧ Hid (Blk wr w.heap.size #[.int .i64 0, .int .i64 0, .int .i64 0] 36) ∧ Hid (Ext w wr)) (fun _ i _ => 2 - (intOf i).toNat)
  case atStart => exact ⟨.inl ⟨rfl, rfl⟩, Hid.mk' (Blk.new _ _ _), Hid.mk' (by (repeat (with_reducible (first | exact Ext.refl _ | assumption | exact held_left (by assumption) | apply Ext.drewN | apply Ext.drew | apply Ext.alloc | (refine Ext.setCell ?_ (by first | (simp; done) | (simp; omega) | omega) _) | (refine Ext.trans ?_ (by assumption)) | (refine Ext.trans ?_ (held_left (by assumption)))))))⟩
  case round =>
    obtain ⟨hh, hX, hE⟩ := hrel
    have hbw : b < wr.heap.size := Nat.lt_of_lt_of_le HB.out hE.out.size
    have k0 := (hE.out.cells.1 b 0 HB.out).trans H0.out.1
    have k1 := (hE.out.cells.1 b 1 HB.out).trans H0.out.2.1
    have k2 := (hE.out.cells.1 b 2 HB.out).trans H0.out.2.2
    rcases hh with ⟨rfl, rfl⟩ | ⟨rfl, rfl⟩
    · go_wp2_with (go_at_call 28; refine (txr0_any _ _).mono ?_; rintro e w1 ⟨rfl, hb1⟩; have HE1 := Hid.mk' (show Ext wr w1 by (repeat (with_reducible (first | exact Ext.refl _ | assumption | exact held_left (by assumption) | apply Ext.drewN | apply Ext.drew | apply Ext.alloc | (refine Ext.setCell ?_ (by first | (simp; done) | (simp; omega) | omega) _) | (refine Ext.trans ?_ (by assumption)) | (refine Ext.trans ?_ (held_left (by assumption))))))); clear hb1)
      go_roundw
      case rel => exact ⟨.inr ⟨rfl, rfl⟩, Hid.mk' (hX.out.ext HE1.out), Hid.mk' (hE.out.trans HE1.out)⟩
      case measure => simp [intOf]
    · have gx := hX.out.cell
      have gxf := hX.out.frozen
      have zx := hX.out.lt
      obtain ⟨n0, n1, n2⟩ := (HN.out.ext hE.out).1
      have nz := (HN.out.ext hE.out).2
      go_wp2
      simp [bodyPost, results, Tryz.results10, go_sem, *]
      have := hE.out
      (repeat (with_reducible (first | exact Ext.refl _ | assumption | exact held_left (by assumption) | apply Ext.drewN | apply Ext.drew | apply Ext.alloc | (refine Ext.setCell ?_ (by first | (simp; done) | (simp; omega) | omega) _) | (refine Ext.trans ?_ (by assumption)) | (refine Ext.trans ?_ (held_left (by assumption))))))

set_option maxRecDepth 100000 in set_option maxHeartbeats 4000000 in
theorem fits1_any (p : Value) (b c : Nat) (w : World) (h0 : w.cell? ⟨b, 0, none⟩ = some (.int .u32 3) ∧ w.cell? ⟨b, 1, none⟩ = some (.int .u64 0) ∧ w.cell? ⟨b, 2, none⟩ = some (.slice none 0 0)) (hb : b < w.heap.size) (hN : Non w) :
    Calls Tryz.prog 14 #[p, .slice (some ⟨b, 0, none⟩) 1 c] w fun e w' => e = .returned (.bool true) ∧ Ext w w' := by
  have HC := Hid.mk' (fun W (h : Ext w W) => check1_any p b c W ⟨(h.cells.1 b 0 hb).trans h0.1, (h.cells.1 b 1 hb).trans h0.2.1, (h.cells.1 b 2 hb).trans h0.2.2⟩ (Nat.lt_of_lt_of_le hb h.size) (hN.ext h))
  obtain ⟨⟨n0, n1, n2⟩, nz⟩ := hN
  clear h0 hb
  go_enter Tryz.func14, Tryz.ntmps14
  go_wp2
  go_region_held3 (fun w' => Ext (w) w' ∧ (∀ b o, b < (w).heap.size → w'.cell? ⟨b, o, none⟩ = (w).cell? ⟨b, o, none⟩) ∧ (∀ b o, b < (w).heap.size → w'.frozen? ⟨b, o, none⟩ = (w).frozen? ⟨b, o, none⟩)) ((exact held_of (by (repeat (with_reducible (first | exact Ext.refl _ | assumption | exact held_left (by assumption) | apply Ext.drewN | apply Ext.drew | apply Ext.alloc | (refine Ext.setCell ?_ (by first | (simp; done) | (simp; omega) | omega) _) | (refine Ext.trans ?_ (by assumption)) | (refine Ext.trans ?_ (held_left (by assumption))))))))) (first | (go_at_call 10; refine (HC.out _ (by (repeat (with_reducible (first | exact Ext.refl _ | assumption | exact held_left (by assumption) | apply Ext.drewN | apply Ext.drew | apply Ext.alloc | (refine Ext.setCell ?_ (by first | (simp; done) | (simp; omega) | omega) _) | (refine Ext.trans ?_ (by assumption)) | (refine Ext.trans ?_ (held_left (by assumption)))))))).mono ?_; rintro e w1 ⟨rfl, hb1⟩))
  go_wp2
  go_ret
  exact ⟨rfl, by (repeat (with_reducible (first | exact Ext.refl _ | assumption | exact held_left (by assumption) | apply Ext.drewN | apply Ext.drew | apply Ext.alloc | (refine Ext.setCell ?_ (by first | (simp; done) | (simp; omega) | omega) _) | (refine Ext.trans ?_ (by assumption)) | (refine Ext.trans ?_ (held_left (by assumption))))))⟩

theorem fault_awk : txt (faultT 1 (-1) 15) = (⟨#[116, 114, 97, 110, 115, 97, 99, 116, 105, 111, 110, 32, 49, 32, 101, 114, 114, 111, 114, 32, 49, 53]⟩ : ByteArray) := by
  unfold faultT
  rw [if_neg (by decide), if_pos rfl, join4]
  have e1 : Lib.itoa 1 = [49] := by unfold Lib.itoa; rw [if_neg (by decide), dec_lt (by decide)]; rfl
  have e2 : Lib.itoa 15 = [49, 53] := by
    unfold Lib.itoa
    rw [if_neg (by decide), show (15 : Int).toNat = 15 from rfl, dec_ge (by decide), dec_lt (by decide)]; rfl
  rw [e1, e2]
  rfl

set_option maxRecDepth 100000 in set_option maxHeartbeats 4000000 in
theorem awake14_any (w : World) (ht : Tab w) (hN : Non w) : Calls Tryz.prog 19 #[] w fun e w' => e = .returned (.bool true) ∧ Ext w w' := by
  have HER := Hid.mk' (fun W (h : Ext w W) => fault_any 1 (-1) 15 W (by decide) (by decide) (by decide) (by decide) (by decide) (by decide) (ht.ext h))
  rw [fault_awk] at HER
  have HFS := Hid.mk' (fun p b c W h0 hb (h : Ext w W) => fits1_any p b c W h0 hb (hN.ext h))
  clear ht hN
  go_enter Tryz.func19, Tryz.ntmps19
  go_upto_region 2 with (first
    | (go_at_call 24; refine (cnew14_any _).mono ?_; rintro e w1 ⟨g, rfl, hb1⟩; have HE1 := Hid.mk' (show Ext w w1 by (repeat (with_reducible (first | exact Ext.refl _ | assumption | exact held_left (by assumption) | apply Ext.drewN | apply Ext.drew | apply Ext.alloc | (refine Ext.setCell ?_ (by first | (simp; done) | (simp; omega) | omega) _) | (refine Ext.trans ?_ (by assumption)) | (refine Ext.trans ?_ (held_left (by assumption))))))); clear hb1)
    | (go_at_call 10; refine (check2_any _ _ _ _ (by simp) (by simp) (by simp)).mono ?_; rintro e w2 ⟨rfl, hb2⟩; have HE2 := Hid.mk' (show Ext w w2 by have := HE1.out; (repeat (with_reducible (first | exact Ext.refl _ | assumption | exact held_left (by assumption) | apply Ext.drewN | apply Ext.drew | apply Ext.alloc | (refine Ext.setCell ?_ (by first | (simp; done) | (simp; omega) | omega) _) | (refine Ext.trans ?_ (by assumption)) | (refine Ext.trans ?_ (held_left (by assumption))))))); clear hb2))
  go_wp2_with (first
    | (go_at_call 15; refine (HER.out _ (by have := HE2.out; (repeat (with_reducible (first | exact Ext.refl _ | assumption | exact held_left (by assumption) | apply Ext.drewN | apply Ext.drew | apply Ext.alloc | (refine Ext.setCell ?_ (by first | (simp; done) | (simp; omega) | omega) _) | (refine Ext.trans ?_ (by assumption)) | (refine Ext.trans ?_ (held_left (by assumption)))))))).mono ?_; rintro e w3 ⟨rfl, hb3⟩; have HE3 := Hid.mk' (show Ext w w3 by have := HE2.out; (repeat (with_reducible (first | exact Ext.refl _ | assumption | exact held_left (by assumption) | apply Ext.drewN | apply Ext.drew | apply Ext.alloc | (refine Ext.setCell ?_ (by first | (simp; done) | (simp; omega) | omega) _) | (refine Ext.trans ?_ (by assumption)) | (refine Ext.trans ?_ (held_left (by assumption))))))); clear hb3)
    | (go_at_call 24; refine (cnew14_any _).mono ?_; rintro e w4 ⟨g4, rfl, hb4⟩; have HE4 := Hid.mk' (show Ext w w4 by have := HE3.out; (repeat (with_reducible (first | exact Ext.refl _ | assumption | exact held_left (by assumption) | apply Ext.drewN | apply Ext.drew | apply Ext.alloc | (refine Ext.setCell ?_ (by first | (simp; done) | (simp; omega) | omega) _) | (refine Ext.trans ?_ (by assumption)) | (refine Ext.trans ?_ (held_left (by assumption))))))); clear hb4)
    | (go_at_call 14; refine (HFS.out _ _ _ _ (by simp) (by simp) (by have := HE4.out; (repeat (with_reducible (first | exact Ext.refl _ | assumption | exact held_left (by assumption) | apply Ext.drewN | apply Ext.drew | apply Ext.alloc | (refine Ext.setCell ?_ (by first | (simp; done) | (simp; omega) | omega) _) | (refine Ext.trans ?_ (by assumption)) | (refine Ext.trans ?_ (held_left (by assumption)))))))).mono ?_; rintro e w5 ⟨rfl, hb5⟩; have HE5 := Hid.mk' (show Ext w w5 by have := HE4.out; (repeat (with_reducible (first | exact Ext.refl _ | assumption | exact held_left (by assumption) | apply Ext.drewN | apply Ext.drew | apply Ext.alloc | (refine Ext.setCell ?_ (by first | (simp; done) | (simp; omega) | omega) _) | (refine Ext.trans ?_ (by assumption)) | (refine Ext.trans ?_ (held_left (by assumption))))))); clear hb5))
  go_ret
  exact ⟨rfl, HE5.out⟩

end Go.Proofs.YthdjinicmnhgpaaGreatDoor

/-
What is wrong with transactions first: the program's answer.
-/
namespace Go.Proofs.YthdjinicmnhgpaaGreatDoor
open Go.RowKit

/-- What is wrong with number k; where. -/
noncomputable def chE (xs : List Tx) (l : List Rl) (k : Nat) : Int := if h : k < xs.length then (if 0 < k ∧ xs[k].xid ≤ (xs.map Tx.xid).getD (k - 1) 0 then 15 else rtE xs[k] l) else 0
noncomputable def chP (xs : List Tx) (l : List Rl) (k : Nat) : Int := if h : k < xs.length then (if 0 < k ∧ xs[k].xid ≤ (xs.map Tx.xid).getD (k - 1) 0 then -1 else rtP xs[k] l) else -1
noncomputable def ckE (xs : List Tx) (l : List Rl) : Int := firstE (chE xs l) xs.length
noncomputable def ckT (xs : List Tx) (l : List Rl) : Int := if ckE xs l = 0 then -1 else (plE (chE xs l) xs.length : Nat)
noncomputable def ckP (xs : List Tx) (l : List Rl) : Int := if ckE xs l = 0 then -1 else chP xs l (plE (chE xs l) xs.length)
theorem ck_ok {xs : List Tx} {l : List Rl} (h : ∀ j, j < xs.length → chE xs l j = 0) : ckT xs l = -1 ∧ ckP xs l = -1 ∧ ckE xs l = 0 := by
  have e : ckE xs l = 0 := firstE_zero h
  unfold ckT ckP
  rw [if_pos e, if_pos e]
  exact ⟨rfl, rfl, e⟩
theorem ck_bad {xs : List Tx} {l : List Rl} {k : Nat} (hk : k < xs.length) (h : ∀ j, j < k → chE xs l j = 0) (hn : chE xs l k ≠ 0) : ckT xs l = k ∧ ckP xs l = chP xs l k ∧ ckE xs l = chE xs l k := by
  have e : ckE xs l = chE xs l k := firstE_at h hk hn
  have p := plE_at h hn hk
  unfold ckT ckP
  rw [if_neg (by rw [e]; exact hn), if_neg (by rw [e]; exact hn), p]
  exact ⟨rfl, rfl, e⟩
theorem ch_pre {ts : List TL} {l : List Rl} {k : Nat} (hk : k < ts.length) (h : 0 < k) (hp : ts[k].xid ≤ (ts.map TL.xid).getD (k - 1) 0) : chE (ts.map TL.t) l k = 15 ∧ chP (ts.map TL.t) l k = -1 := by
  unfold chE chP
  have hk' : k < (ts.map TL.t).length := by simpa using hk
  have e : ((ts.map TL.t).map Tx.xid) = ts.map TL.xid := by rw [List.map_map]; rfl
  have hc : 0 < k ∧ (ts.map TL.t)[k].xid ≤ ((ts.map TL.t).map Tx.xid).getD (k - 1) 0 := ⟨h, by rw [e, List.getElem_map]; exact hp⟩
  rw [dif_pos hk', dif_pos hk', if_pos hc, if_pos hc]
  exact ⟨rfl, rfl⟩
theorem ch_own {ts : List TL} {l : List Rl} {k : Nat} (hk : k < ts.length) (h : ¬ (0 < k ∧ ts[k].xid ≤ (ts.map TL.xid).getD (k - 1) 0)) : chE (ts.map TL.t) l k = rtE ts[k].t l ∧ chP (ts.map TL.t) l k = rtP ts[k].t l := by
  unfold chE chP
  have hk' : k < (ts.map TL.t).length := by simpa using hk
  have e : ((ts.map TL.t).map Tx.xid) = ts.map TL.xid := by rw [List.map_map]; rfl
  have hc : ¬ (0 < k ∧ (ts.map TL.t)[k].xid ≤ ((ts.map TL.t).map Tx.xid).getD (k - 1) 0) := by rw [e, List.getElem_map]; exact h
  rw [dif_pos hk', dif_pos hk', if_neg hc, if_neg hc, List.getElem_map]
  exact ⟨rfl, rfl⟩
theorem xid_at {ts : List TL} {k : Nat} (hk : k < ts.length) : (ts.map TL.xid).getD k 0 = ts[k].xid := by
  rw [List.getD_eq_getElem?_getD, List.getElem?_map, List.getElem?_eq_getElem hk]; rfl

set_option maxRecDepth 100000 in set_option maxHeartbeats 8000000 in
theorem check_any (ts : List TL) (a : Option Addr) (cap : Nat) (N g : Nat) (c : Value) (ps : List RR) (w : World) (ht : TS 5 K.pc w (.slice a ts.length cap) ts) (hlen : ts.length ≤ 1000) (hn : ∀ t ∈ ts, t.es.length ≤ 1000) (hs : ∀ t ∈ ts, ∀ e ∈ t.es, e.e.small) (hwk : ∀ t ∈ ts, ∀ e ∈ t.es, e.e.wk) (hc : Ca w N g c ps) (hN : Non w) :
    Calls Tryz.prog 10 #[.pointer (some ⟨g, 0, none⟩), .slice a ts.length cap] w fun e w' => e = .returned (.agg #[.int .i64 (ckT (ts.map TL.t) (ps.map RR.r)), .int .i64 (ckP (ts.map TL.t) (ps.map RR.r)), .int .i64 (ckE (ts.map TL.t) (ps.map RR.r))]) ∧ Ext w w' := by
  have HT := Hid.mk' ht
  have HTR := Hid.mk' (fun t (h1 : t ∈ ts) W (h : Ext w W) => txright_any t N g c ps W ((ht.sl t h1).ext h) (hn t h1) (hs t h1) (hwk t h1) (hc.ext h))
  have HN := Hid.mk' hN
  obtain ⟨LC, hLC⟩ : ∃ LC, LC = ps.map RR.r := ⟨_, rfl⟩
  rw [← hLC] at HTR ⊢
  clear ht hn hs hwk hc hN hLC
  go_enter Tryz.func10, Tryz.ntmps10
  go_wp2
  go_loopg [5, 12] ts.length (fun z l i wr => ∃ (k : Nat) (p : Int), z + k = ts.length ∧ l = .int .u32 p ∧ i = .int .i64 k ∧ Hid (0 < k → p = (ts.map TL.xid).getD (k - 1) 0) ∧ Hid (∀ j, j < k → chE (ts.map TL.t) LC j = 0) ∧ Hid (Blk wr w.heap.size #[.int .i64 0, .int .i64 0, .int .i64 0] 36) ∧ Hid (Ext w wr))
  case atStart => exact ⟨0, 0, by omega, rfl, rfl, Hid.mk' (fun h => absurd h (by omega)), Hid.mk' (fun j h => by omega), Hid.mk' (Blk.new _ _ _), Hid.mk' (by (repeat (with_reducible (first | exact Ext.refl _ | assumption | exact held_left (by assumption) | apply Ext.drewN | apply Ext.drew | apply Ext.alloc | (refine Ext.setCell ?_ (by first | (simp; done) | (simp; omega) | omega) _) | (refine Ext.trans ?_ (by assumption)) | (refine Ext.trans ?_ (held_left (by assumption)))))))⟩
  case round =>
    obtain ⟨k, p, hzk, rfl, rfl, hpv, hz, hX, hE⟩ := hrel
    by_cases hlt : k < ts.length
    · obtain ⟨b, o, rfl, hb, hx⟩ := HT.out.row.at_ (i := k) (by simpa using hlt)
      obtain ⟨f0, f1, f2⟩ := TL.at_ hlt hx hb hE.out
      have hbw : b < wr.heap.size := Nat.lt_of_lt_of_le hb hE.out.size
      have HTK := Hid.mk' (fun W (h : Ext wr W) => HTR.out _ (List.getElem_mem hlt) W (hE.out.trans h))
      have HXA := Hid.mk' (xid_at hlt)
      have HPR := Hid.mk' (fun h h2 => ch_pre (l := LC) hlt h h2)
      have HOW := Hid.mk' (fun h => ch_own (l := LC) hlt h)
      have HBD := Hid.mk' (fun h => ck_bad (xs := ts.map TL.t) (l := LC) (by simpa using hlt) hz.out h)
      obtain ⟨x, hxx⟩ : ∃ x, x = ts[k] := ⟨_, rfl⟩
      rw [← hxx] at f0 f1 f2 HTK HXA HPR HOW
      clear hxx hx hb
      have HLT := Hid.mk' hlt
      obtain ⟨E, hEE⟩ : ∃ E, E = rtE x.t LC := ⟨_, rfl⟩
      obtain ⟨P, hPP⟩ : ∃ P, P = rtP x.t LC := ⟨_, rfl⟩
      rw [← hEE, ← hPP] at HTK HOW
      clear hEE hPP
      obtain ⟨xid, st, es, ta, tc⟩ := x
      unfold TL.agg at HTK
      simp only at f0 f1 f2 HTK HXA HPR HOW
      by_cases hk0 : k = 0
      · subst hk0
        simp only [Nat.zero_mul, Nat.add_zero] at f0 f1 f2
        obtain ⟨hce, hcp⟩ := HOW.out (fun h => absurd h.1 (by omega))
        by_cases hE0 : E = 0
        · subst hE0
          have HCE := Hid.mk' hce
          clear hce hcp hpv
          go_wp2_with (go_at_call 28; refine (HTK.out _ (by (repeat (with_reducible (first | exact Ext.refl _ | assumption | exact held_left (by assumption) | apply Ext.drewN | apply Ext.drew | apply Ext.alloc | (refine Ext.setCell ?_ (by first | (simp; done) | (simp; omega) | omega) _) | (refine Ext.trans ?_ (by assumption)) | (refine Ext.trans ?_ (held_left (by assumption)))))))).mono ?_; rintro e w1 ⟨rfl, hb1⟩; have HE1 := Hid.mk' (show Ext wr w1 by (repeat (with_reducible (first | exact Ext.refl _ | assumption | exact held_left (by assumption) | apply Ext.drewN | apply Ext.drew | apply Ext.alloc | (refine Ext.setCell ?_ (by first | (simp; done) | (simp; omega) | omega) _) | (refine Ext.trans ?_ (by assumption)) | (refine Ext.trans ?_ (held_left (by assumption))))))); clear hb1)
          go_roundg (ts.length - 1)
          case measure => have := HLT.out; omega
          case rel =>
            exact ⟨1, _, Nat.sub_add_cancel HLT.out, rfl, by go_num, Hid.mk' (fun _ => HXA.out.symm), Hid.mk' (fun j hj => by
              obtain rfl : j = 0 := by omega
              exact HCE.out), Hid.mk' (hX.out.ext HE1.out), Hid.mk' (hE.out.trans HE1.out)⟩
        · have hE1 : (E != 0) = true := by simpa using hE0
          have h := HBD.out (by rw [hce]; exact hE0)
          rw [hce, hcp] at h
          have HR := Hid.mk' h
          clear h hce hcp hpv hE0
          go_wp2_with (go_at_call 28; refine (HTK.out _ (by (repeat (with_reducible (first | exact Ext.refl _ | assumption | exact held_left (by assumption) | apply Ext.drewN | apply Ext.drew | apply Ext.alloc | (refine Ext.setCell ?_ (by first | (simp; done) | (simp; omega) | omega) _) | (refine Ext.trans ?_ (by assumption)) | (refine Ext.trans ?_ (held_left (by assumption)))))))).mono ?_; rintro e w1 ⟨rfl, hb1⟩; have HE1 := Hid.mk' (show Ext wr w1 by (repeat (with_reducible (first | exact Ext.refl _ | assumption | exact held_left (by assumption) | apply Ext.drewN | apply Ext.drew | apply Ext.alloc | (refine Ext.setCell ?_ (by first | (simp; done) | (simp; omega) | omega) _) | (refine Ext.trans ?_ (by assumption)) | (refine Ext.trans ?_ (held_left (by assumption))))))); have gx := (hX.out.ext HE1.out).cell; have gxf := (hX.out.ext HE1.out).frozen; have zx := (hX.out.ext HE1.out).lt; clear hb1)
          (have eT := HR.out.1; have eP := HR.out.2.1; have eE := HR.out.2.2; simp [bodyPost, results, Tryz.results10, go_sem, *]; have := hE.out.trans HE1.out; (repeat (with_reducible (first | exact Ext.refl _ | assumption | exact held_left (by assumption) | apply Ext.drewN | apply Ext.drew | apply Ext.alloc | (refine Ext.setCell ?_ (by first | (simp; done) | (simp; omega) | omega) _) | (refine Ext.trans ?_ (by assumption)) | (refine Ext.trans ?_ (held_left (by assumption)))))))
      · have hkp : 0 < k := by omega
        have hd : decide ((0 : Int) < (k : Int)) = true := decide_eq_true (by omega)
        obtain rfl := hpv.out hkp
        obtain ⟨p, hp⟩ : ∃ p, p = (ts.map TL.xid).getD (k - 1) 0 := ⟨_, rfl⟩
        rw [← hp] at HPR HOW ⊢
        clear hpv hp
        by_cases hle : xid ≤ p
        · obtain ⟨hce, hcp⟩ := HPR.out hkp hle
          have h := HBD.out (by rw [hce]; decide)
          rw [hce, hcp] at h
          have HR := Hid.mk' h
          have HE1 : Hid (Ext wr wr) := Hid.mk' (Ext.refl _)
          have gx := hX.out.cell
          have gxf := hX.out.frozen
          have zx := hX.out.lt
          clear h hce hcp
          go_wp2
          have eT := HR.out.1
          have eP := HR.out.2.1
          have eE := HR.out.2.2
          simp [bodyPost, results, Tryz.results10, go_sem, *]
          have := hE.out
          (repeat (with_reducible (first | exact Ext.refl _ | assumption | exact held_left (by assumption) | apply Ext.drewN | apply Ext.drew | apply Ext.alloc | (refine Ext.setCell ?_ (by first | (simp; done) | (simp; omega) | omega) _) | (refine Ext.trans ?_ (by assumption)) | (refine Ext.trans ?_ (held_left (by assumption))))))
        · have hle2 : decide (xid ≤ p) = false := decide_eq_false hle
          obtain ⟨hce, hcp⟩ := HOW.out (fun h => hle h.2)
          by_cases hE0 : E = 0
          · subst hE0
            have HCE := Hid.mk' hce
            clear hce hcp
            go_wp2_with (go_at_call 28; refine (HTK.out _ (by (repeat (with_reducible (first | exact Ext.refl _ | assumption | exact held_left (by assumption) | apply Ext.drewN | apply Ext.drew | apply Ext.alloc | (refine Ext.setCell ?_ (by first | (simp; done) | (simp; omega) | omega) _) | (refine Ext.trans ?_ (by assumption)) | (refine Ext.trans ?_ (held_left (by assumption)))))))).mono ?_; rintro e w1 ⟨rfl, hb1⟩; have HE1 := Hid.mk' (show Ext wr w1 by (repeat (with_reducible (first | exact Ext.refl _ | assumption | exact held_left (by assumption) | apply Ext.drewN | apply Ext.drew | apply Ext.alloc | (refine Ext.setCell ?_ (by first | (simp; done) | (simp; omega) | omega) _) | (refine Ext.trans ?_ (by assumption)) | (refine Ext.trans ?_ (held_left (by assumption))))))); clear hb1)
            go_roundg (ts.length - (k + 1))
            case measure => have := HLT.out; omega
            case rel =>
              exact ⟨k + 1, _, Nat.sub_add_cancel HLT.out, rfl, by go_num, Hid.mk' (fun _ => by rw [Nat.add_sub_cancel]; exact HXA.out.symm), Hid.mk' (fun j hj => if e : j = k then (by subst e; exact HCE.out) else hz.out j (by omega)), Hid.mk' (hX.out.ext HE1.out), Hid.mk' (hE.out.trans HE1.out)⟩
          · have hE1 : (E != 0) = true := by simpa using hE0
            have h := HBD.out (by rw [hce]; exact hE0)
            rw [hce, hcp] at h
            have HR := Hid.mk' h
            clear h hce hcp hE0
            go_wp2_with (go_at_call 28; refine (HTK.out _ (by (repeat (with_reducible (first | exact Ext.refl _ | assumption | exact held_left (by assumption) | apply Ext.drewN | apply Ext.drew | apply Ext.alloc | (refine Ext.setCell ?_ (by first | (simp; done) | (simp; omega) | omega) _) | (refine Ext.trans ?_ (by assumption)) | (refine Ext.trans ?_ (held_left (by assumption)))))))).mono ?_; rintro e w1 ⟨rfl, hb1⟩; have HE1 := Hid.mk' (show Ext wr w1 by (repeat (with_reducible (first | exact Ext.refl _ | assumption | exact held_left (by assumption) | apply Ext.drewN | apply Ext.drew | apply Ext.alloc | (refine Ext.setCell ?_ (by first | (simp; done) | (simp; omega) | omega) _) | (refine Ext.trans ?_ (by assumption)) | (refine Ext.trans ?_ (held_left (by assumption))))))); have gx := (hX.out.ext HE1.out).cell; have gxf := (hX.out.ext HE1.out).frozen; have zx := (hX.out.ext HE1.out).lt; clear hb1)
            (have eT := HR.out.1; have eP := HR.out.2.1; have eE := HR.out.2.2; simp [bodyPost, results, Tryz.results10, go_sem, *]; have := hE.out.trans HE1.out; (repeat (with_reducible (first | exact Ext.refl _ | assumption | exact held_left (by assumption) | apply Ext.drewN | apply Ext.drew | apply Ext.alloc | (refine Ext.setCell ?_ (by first | (simp; done) | (simp; omega) | omega) _) | (refine Ext.trans ?_ (by assumption)) | (refine Ext.trans ?_ (held_left (by assumption)))))))
    · obtain rfl : k = ts.length := by omega
      have HR := Hid.mk' (ck_ok (xs := ts.map TL.t) (l := LC) (fun j hj => hz.out j (by simpa using hj)))
      have gx := hX.out.cell
      have gxf := hX.out.frozen
      have zx := hX.out.lt
      obtain ⟨n0, n1, n2⟩ := (HN.out.ext hE.out).1
      have nz := (HN.out.ext hE.out).2
      go_wp2
      have eT := HR.out.1
      have eP := HR.out.2.1
      have eE := HR.out.2.2
      simp [bodyPost, results, Tryz.results10, go_sem, *]
      have := hE.out
      (repeat (with_reducible (first | exact Ext.refl _ | assumption | exact held_left (by assumption) | apply Ext.drewN | apply Ext.drew | apply Ext.alloc | (refine Ext.setCell ?_ (by first | (simp; done) | (simp; omega) | omega) _) | (refine Ext.trans ?_ (by assumption)) | (refine Ext.trans ?_ (held_left (by assumption))))))

set_option maxRecDepth 100000 in set_option maxHeartbeats 1600000 in
theorem fitsT_any (ts : List TL) (a : Option Addr) (cap : Nat) (N g : Nat) (c : Value) (ps : List RR) (w : World) (ht : TS 5 K.pc w (.slice a ts.length cap) ts) (hlen : ts.length ≤ 1000) (hn : ∀ t ∈ ts, t.es.length ≤ 1000) (hs : ∀ t ∈ ts, ∀ e ∈ t.es, e.e.small) (hwk : ∀ t ∈ ts, ∀ e ∈ t.es, e.e.wk) (hc : Ca w N g c ps) (hN : Non w) :
    Calls Tryz.prog 14 #[.pointer (some ⟨g, 0, none⟩), .slice a ts.length cap] w fun e w' => e = .returned (.bool (decide (ckE (ts.map TL.t) (ps.map RR.r) = 0))) ∧ Ext w w' := by
  have HC := Hid.mk' (fun W (h : Ext w W) => check_any ts a cap N g c ps W (ht.ext h) hlen hn hs hwk (hc.ext h) (hN.ext h))
  obtain ⟨⟨n0, n1, n2⟩, nz⟩ := hN
  have HZ : Hid (ckE (ts.map TL.t) (ps.map RR.r) = 0 → ckT (ts.map TL.t) (ps.map RR.r) = -1 ∧ ckP (ts.map TL.t) (ps.map RR.r) = -1) := Hid.mk' (fun h => by unfold ckT ckP; rw [if_pos h, if_pos h]; exact ⟨rfl, rfl⟩)
  generalize ckE (ts.map TL.t) (ps.map RR.r) = E at HC HZ ⊢
  generalize ckT (ts.map TL.t) (ps.map RR.r) = T at HC HZ
  generalize ckP (ts.map TL.t) (ps.map RR.r) = P at HC HZ
  clear ht hlen hn hs hwk hc
  by_cases hE : E = 0
  · obtain ⟨rfl, rfl⟩ := HZ.out hE
    subst hE
    rw [decide_eq_true rfl]
    go_enter Tryz.func14, Tryz.ntmps14
    go_wp2
    go_region_held3 (fun w' => Ext (w) w' ∧ (∀ b o, b < (w).heap.size → w'.cell? ⟨b, o, none⟩ = (w).cell? ⟨b, o, none⟩) ∧ (∀ b o, b < (w).heap.size → w'.frozen? ⟨b, o, none⟩ = (w).frozen? ⟨b, o, none⟩)) ((exact held_of (by (repeat (with_reducible (first | exact Ext.refl _ | assumption | exact held_left (by assumption) | apply Ext.drewN | apply Ext.drew | apply Ext.alloc | (refine Ext.setCell ?_ (by first | (simp; done) | (simp; omega) | omega) _) | (refine Ext.trans ?_ (by assumption)) | (refine Ext.trans ?_ (held_left (by assumption))))))))) (first | (go_at_call 10; refine (HC.out _ (by (repeat (with_reducible (first | exact Ext.refl _ | assumption | exact held_left (by assumption) | apply Ext.drewN | apply Ext.drew | apply Ext.alloc | (refine Ext.setCell ?_ (by first | (simp; done) | (simp; omega) | omega) _) | (refine Ext.trans ?_ (by assumption)) | (refine Ext.trans ?_ (held_left (by assumption)))))))).mono ?_; rintro e w1 ⟨rfl, hb1⟩))
    go_wp2
    go_ret
    exact ⟨rfl, by (repeat (with_reducible (first | exact Ext.refl _ | assumption | exact held_left (by assumption) | apply Ext.drewN | apply Ext.drew | apply Ext.alloc | (refine Ext.setCell ?_ (by first | (simp; done) | (simp; omega) | omega) _) | (refine Ext.trans ?_ (by assumption)) | (refine Ext.trans ?_ (held_left (by assumption))))))⟩
  · rw [decide_eq_false hE]
    have hE1 : (E == 0) = false := by simpa using hE
    have hE2 : decide (E = 0) = false := decide_eq_false hE
    go_enter Tryz.func14, Tryz.ntmps14
    go_wp2
    go_region_held3 (fun w' => Ext (w) w' ∧ (∀ b o, b < (w).heap.size → w'.cell? ⟨b, o, none⟩ = (w).cell? ⟨b, o, none⟩) ∧ (∀ b o, b < (w).heap.size → w'.frozen? ⟨b, o, none⟩ = (w).frozen? ⟨b, o, none⟩)) ((exact held_of (by (repeat (with_reducible (first | exact Ext.refl _ | assumption | exact held_left (by assumption) | apply Ext.drewN | apply Ext.drew | apply Ext.alloc | (refine Ext.setCell ?_ (by first | (simp; done) | (simp; omega) | omega) _) | (refine Ext.trans ?_ (by assumption)) | (refine Ext.trans ?_ (held_left (by assumption))))))))) (first | (go_at_call 10; refine (HC.out _ (by (repeat (with_reducible (first | exact Ext.refl _ | assumption | exact held_left (by assumption) | apply Ext.drewN | apply Ext.drew | apply Ext.alloc | (refine Ext.setCell ?_ (by first | (simp; done) | (simp; omega) | omega) _) | (refine Ext.trans ?_ (by assumption)) | (refine Ext.trans ?_ (held_left (by assumption)))))))).mono ?_; rintro e w1 ⟨rfl, hb1⟩))
    go_wp2
    go_ret
    exact ⟨by simp [hE], by (repeat (with_reducible (first | exact Ext.refl _ | assumption | exact held_left (by assumption) | apply Ext.drewN | apply Ext.drew | apply Ext.alloc | (refine Ext.setCell ?_ (by first | (simp; done) | (simp; omega) | omega) _) | (refine Ext.trans ?_ (by assumption)) | (refine Ext.trans ?_ (held_left (by assumption))))))⟩

end Go.Proofs.YthdjinicmnhgpaaGreatDoor

/-
What is wrong is told in small numbers.
-/
namespace Go.Proofs.YthdjinicmnhgpaaGreatDoor
open Go.RowKit

def Sm (e : Int) : Prop := 0 ≤ e ∧ e ≤ 100
theorem firstE_sm {f : Nat → Int} (h : ∀ i, Sm (f i)) : ∀ n, Sm (firstE f n)
  | 0 => ⟨by unfold firstE; omega, by unfold firstE; omega⟩
  | n + 1 => by
    have ih := firstE_sm h n
    unfold firstE
    split
    · exact ih
    · exact h n
theorem plE_le (f : Nat → Int) : ∀ n, plE f n ≤ n
  | 0 => Nat.le_refl _
  | n + 1 => by
    have ih := plE_le f n
    unfold plE
    split
    · omega
    · split <;> omega
theorem rightV_sm (ty n x y : Int) (s : ByteArray) : Sm (rightV ty n x y s) := by
  unfold rightV
  (repeat' split) <;> exact ⟨by omega, by omega⟩
theorem rightC_sm (k ty n x y : Int) (s : ByteArray) (kind : Int) : Sm (rightC k ty n x y s kind) := by
  have h := rightV_sm ty n x y s
  unfold rightC
  (repeat' split) <;> first | exact h | exact ⟨by omega, by omega⟩
theorem colE_sm (c : Col) (l : List Col) : Sm (colE c l) := by
  unfold colE
  (repeat' split) <;> exact ⟨by omega, by omega⟩
theorem rl_sm (r : Rl) : Sm r.right := by
  have h := firstE_sm (f := colAt r.cols) (fun i => by
    unfold colAt
    split
    · exact colE_sm _ _
    · exact ⟨by omega, by omega⟩) r.cols.length
  unfold Rl.right
  (repeat' split) <;> first | exact h | exact ⟨by omega, by omega⟩
theorem fits_sm (l : List K) (r : Rl) : Sm (fitsE l r) := by
  have h := rl_sm r
  have h2 := firstE_sm (f := fitAt l r.cols) (fun i => by
    unfold fitAt
    split
    · exact rightC_sm _ _ _ _ _ _ _
    · exact ⟨by omega, by omega⟩) l.length
  unfold fitsE
  (repeat' split) <;> first | exact h | exact h2 | exact ⟨by omega, by omega⟩
theorem keyed_sm (l : List K) (r : Rl) : Sm (keyedE l r) := by
  have h := fits_sm l r
  have h2 := firstE_sm (f := keyE r.cols l) (fun i => by
    unfold keyE kindE
    (repeat' split) <;> exact ⟨by omega, by omega⟩) l.length
  unfold keyedE
  split
  · exact h
  · exact h2
theorem isKey_sm (l : List K) (r : Rl) : Sm (isKeyE l r) := by
  have h := keyed_sm l r
  have h2 := firstE_sm (f := nonE r.cols l) (fun i => by
    unfold nonE
    (repeat' split) <;> exact ⟨by omega, by omega⟩) l.length
  unfold isKeyE
  split
  · exact h
  · exact h2
theorem isFull_sm (l : List K) (r : Rl) : Sm (isFullE l r) := by
  have h := keyed_sm l r
  have h2 := firstE_sm (f := sameE l) (fun i => by
    unfold sameE
    (repeat' split) <;> exact ⟨by omega, by omega⟩) l.length
  unfold isFullE
  split
  · exact h
  · exact h2
theorem img_sm (r : Rl) (kind old : Int) (b a : List K) : Sm (imgE r kind old b a) := by
  have h1 := isKey_sm b r
  have h2 := isFull_sm b r
  have h3 := isFull_sm a r
  have h4 := keyed_sm a r
  unfold imgE
  (repeat' split) <;> first | exact h1 | exact h2 | exact h3 | exact h4 | exact ⟨by omega, by omega⟩
theorem trunc_sm (e : Ev) (l : List Rl) : Sm (truncE e l) := by
  unfold truncE
  (repeat' split) <;> exact ⟨by omega, by omega⟩
theorem ev_sm (e : Ev) (l : List Rl) : Sm (evE e l) := by
  unfold evE
  split
  · exact ⟨by omega, by omega⟩
  split
  · exact ⟨by omega, by omega⟩
  split
  · exact trunc_sm e l
  split
  · exact ⟨by omega, by omega⟩
  · exact img_sm _ _ _ _ _
theorem rt_sm (t : Tx) (l : List Rl) : Sm (rtE t l) := by
  have h := firstE_sm (f := evAt t.es l) (fun i => by
    unfold evAt
    split
    · exact ev_sm _ _
    · exact ⟨by omega, by omega⟩) t.es.length
  unfold rtE
  (repeat' split) <;> first | exact h | exact ⟨by omega, by omega⟩
theorem rtP_b {t : Tx} (l : List Rl) (h : t.es.length ≤ 1000) : -1 ≤ rtP t l ∧ rtP t l ≤ 1000 := by
  have h1 := plE_le (evAt t.es l) t.es.length
  unfold rtP
  (repeat' split) <;> exact ⟨by omega, by omega⟩
theorem chE_sm (xs : List Tx) (l : List Rl) (k : Nat) : Sm (chE xs l k) := by
  unfold chE
  (repeat' split) <;> first | exact rt_sm _ _ | exact ⟨by omega, by omega⟩
theorem ckE_sm (xs : List Tx) (l : List Rl) : Sm (ckE xs l) := firstE_sm (chE_sm xs l) _
theorem ckT_b {xs : List Tx} (l : List Rl) (h : xs.length ≤ 1000) : -1 ≤ ckT xs l ∧ ckT xs l ≤ 1000 := by
  have h1 := plE_le (chE xs l) xs.length
  unfold ckT
  split <;> exact ⟨by omega, by omega⟩
theorem chP_b {xs : List Tx} (l : List Rl) (k : Nat) (h : ∀ t ∈ xs, t.es.length ≤ 1000) : -1 ≤ chP xs l k ∧ chP xs l k ≤ 1000 := by
  unfold chP
  split
  · split
    · exact ⟨by omega, by omega⟩
    · exact rtP_b l (h _ (List.getElem_mem _))
  · exact ⟨by omega, by omega⟩
theorem ckP_b {xs : List Tx} (l : List Rl) (h : ∀ t ∈ xs, t.es.length ≤ 1000) : -1 ≤ ckP xs l ∧ ckP xs l ≤ 1000 := by
  unfold ckP
  split
  · exact ⟨by omega, by omega⟩
  · exact chP_b l _ h

end Go.Proofs.YthdjinicmnhgpaaGreatDoor
