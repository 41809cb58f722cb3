/-
The program's map of bits: counted, Size, Pack, a row's nulls; the reference's Size and Pack.
-/
import Derived.Test.YtdbepkfblfhlhaaP6
namespace Go.Proofs.Ytdbepkfblfhlhaa
open Go.RowKit

def boolC (b : Bool) : List Value := [.bool b]
theorem boolC_at {w wr : World} {b o : Nat} {l : List Bool} {k : Nat} (hk : k < l.length) (hc : ∀ j, j < 1 → w.cell? ⟨b, o + k * 1 + j, none⟩ = ((l.map boolC).getD k [])[j]?) (hb : b < w.heap.size) (hE : Ext w wr) :
    wr.cell? ⟨b, o + k, none⟩ = some (.bool l[k]) := by
  rw [getD_map boolC l hk] at hc
  have := hc 0 (by omega)
  rw [Nat.mul_one, Nat.add_zero] at this
  exact (hE.cells.1 b _ hb).trans this

set_option maxRecDepth 20000 in set_option maxHeartbeats 400000 in
theorem counted_yes (n : Nat) (w : World) (h : n ≤ 16) : Calls Try.prog 107 #[.int .i64 n] w fun e w' => e = .returned (.bool true) ∧ w = w' := by
  go_enter Try.func107, Try.ntmps107
  go_wp2
  go_ret
  exact ⟨ret_bool (by first | (simp; done) | (simp; omega)), rfl⟩
set_option maxRecDepth 20000 in set_option maxHeartbeats 400000 in
theorem counted_no (n : Nat) (w : World) (h : 16 < n) : Calls Try.prog 107 #[.int .i64 n] w fun e w' => e = .returned (.bool false) ∧ w = w' := by
  go_enter Try.func107, Try.ntmps107
  go_wp2
  go_ret
  exact ⟨ret_bool (by first | (simp; done) | (simp; omega)), rfl⟩
set_option maxRecDepth 20000 in set_option maxHeartbeats 400000 in
theorem msize_any (n : Nat) (w : World) (h : n ≤ 16) : Calls Try.prog 108 #[.int .i64 n] w fun e w' => e = .returned (.int .i64 (mapSize n : Nat)) ∧ w = w' := by
  have HC := Hid.mk' (fun w => counted_yes n w h)
  go_enter Try.func108, Try.ntmps108
  go_wp2_with (go_at_call 107; refine (HC.out _).mono ?_; rintro e w1 ⟨rfl, rfl⟩)
  go_ret
  exact ⟨ret_int (by unfold mapSize; omega), rfl⟩
set_option maxRecDepth 20000 in set_option maxHeartbeats 400000 in
theorem rmsize_any (n : Nat) (w : World) (h : n ≤ 16) : Calls Try.prog 91 #[.int .i64 n] w fun e w' => e = .returned (.int .i64 (mapSize n : Nat)) ∧ w = w' := by
  by_cases h0 : n = 0
  · subst h0
    go_enter Try.func91, Try.ntmps91
    go_wp2
    go_ret
    exact ⟨rfl, rfl⟩
  · have h0' : ((n : Int) == 0) = false := by simpa using h0
    go_enter Try.func91, Try.ntmps91
    go_wp2
    all_goals
      go_ret
      exact ⟨ret_int (by unfold mapSize; omega), rfl⟩

theorem u8_wrap' (n : Int) : IntKind.u8.wrap n = n % 256 := by
  simp [IntKind.wrap, IntKind.signed, IntKind.bits]
theorem bits_or_u8_nat (a b : Nat) (ha : a < 256) (hb : b < 256) : bits .or .u8 (a : Int) (b : Int) = ((a ||| b : Nat) : Int) := by
  have hx : a ||| b < 2 ^ 8 := Nat.or_lt_two_pow (by omega) (by omega)
  have h1 : (BitVec.ofInt 8 (a : Int)).toNat = a := by
    rw [BitVec.ofInt_natCast, BitVec.toNat_ofNat]; exact Nat.mod_eq_of_lt (by omega)
  have h2 : (BitVec.ofInt 8 (b : Int)).toNat = b := by
    rw [BitVec.ofInt_natCast, BitVec.toNat_ofNat]; exact Nat.mod_eq_of_lt (by omega)
  show IntKind.u8.wrap ((BitVec.ofInt 8 (a : Int) ||| BitVec.ofInt 8 (b : Int)).toNat : Int) = _
  rw [BitVec.toNat_or, h1, h2, u8_wrap']
  omega

theorem cells_new' (w : World) (cs : Array Value) (t : TypeId) {b : Nat} (h : b = w.heap.size) : ∀ j u, cs.toList[j]? = some u → (w.alloc (.cells cs t)).cell? ((⟨b, 0, none⟩ : Addr).add j) = some u := by subst h; exact cells_new w cs t

theorem or_two (x n : Nat) (hx : x < 2 ^ n) : x ||| 2 ^ n = x + 2 ^ n := by
  have := Nat.two_pow_add_eq_or_of_lt hx 1
  rw [Nat.mul_one] at this
  rw [Nat.or_comm, ← this, Nat.add_comm]

/-- make of bytes. -/
theorem run_makeB (n : Nat) (hn : n ≤ 1000) (w : World) :
    (Instr.makeSlice 80 (.int .i64 (n : Int)) (.int .i64 (n : Int))).run Try.prog w = .ok (.slice (some ⟨w.heap.size, 0, none⟩) n n) (w.alloc (.cells (bs (List.replicate n 0)).toArray 5)) := by
  obtain ⟨i0, hi, hz0, hz1, hz2⟩ := info_parts Try.infoU8
  have hr := run_make (P := Try.prog) w 80 5 i0 _ Try.underlying80 hi hz0 .i64 .i64 (n : Int) (n : Int) (by omega) (by omega) (by rw [hz2]; omega) (by omega)
  simp only [Int.toNat_natCast, hz1, Nat.mul_one] at hr
  have e : ∀ z : Array Value, z = #[.int .u8 0] → madeCells z n = (bs (List.replicate n 0)).toArray := by
    rintro z rfl
    apply Array.ext
    · simp [bs, madeCells]
    · intro i h1 h2
      simp [bs, madeCells, Nat.mod_one]
  have e2 := e _ (show (Value.int .u8 0).cells = #[.int .u8 0] from rfl)
  rw [hr, e2]

set_option maxRecDepth 100000 in set_option maxHeartbeats 4000000 in
theorem pack_any (l : List Bool) (a : Option Addr) (cap : Nat) (w : World) (hl : Sl w (.slice a l.length cap) 1 (l.map boolC)) (h16 : l.length ≤ 16) :
    Calls Try.prog 76 #[.slice a l.length cap] w fun e w' => ∃ v', e = .returned (.tuple #[v', .int .i64 0]) ∧ OB w' w.heap.size v' (mapL l) ∧ Ext w w' := by
  have HC := Hid.mk' (fun w => counted_yes l.length w h16)
  have HZ := Hid.mk' (fun w => msize_any l.length w h16)
  have hs2 : mapSize l.length ≤ 2 := by unfold mapSize; omega
  have hmk := run_makeB (mapSize l.length) (by omega) w
  have HL := Hid.mk' hl
  clear hl
  go_enter Try.func76, Try.ntmps76
  go_wp2_with (first
    | (go_at_call 107; refine (HC.out _).mono ?_; rintro e w1 ⟨rfl, rfl⟩)
    | (go_at_call 108; refine (HZ.out _).mono ?_; rintro e w1 ⟨rfl, rfl⟩))
  clear hmk
  go_loopw [17] (fun i wr => ∃ k : Nat, k ≤ l.length ∧ i = .int .i64 k ∧ Hid (Blk wr w.heap.size (bs (mapTo l k)).toArray 5) ∧ Hid (Ext w wr)) (fun i _ => l.length - (intOf i).toNat)
  case atStart => exact ⟨0, Nat.zero_le _, rfl, Hid.mk' (by rw [mapTo_zero]; exact Blk.new _ _ _), Hid.mk' (by (repeat (with_reducible (first | exact Ext.refl _ | assumption | exact held_left (by assumption) | apply Ext.drewN | apply Ext.drew | apply Ext.alloc | (refine Ext.setCell ?_ (by first | (simp; done) | (simp; omega) | omega) _) | (refine Ext.trans ?_ (by assumption)) | (refine Ext.trans ?_ (held_left (by assumption)))))))⟩
  case round =>
    obtain ⟨k, hk, rfl, hB, hE⟩ := hrel
    by_cases hlt : k < l.length
    · obtain ⟨b, o, rfl, hb, hx⟩ := HL.out.at_ (i := k) (by simpa using hlt)
      have f0 := boolC_at hlt hx hb hE.out
      have hbw : b < wr.heap.size := Nat.lt_of_lt_of_le hb hE.out.size
      clear hx
      cases hq : l[k] with
      | false =>
        rw [hq] at f0
        have HM := Hid.mk' (mapTo_no hlt hq)
        clear hq
        go_wp2
        go_roundw
        case rel => exact ⟨k + 1, by omega, by go_num, Hid.mk' (by rw [HM.out]; exact hB.out), hE⟩
        case measure => simp [intOf]; omega
      | true =>
        rw [hq] at f0
        have HM := Hid.mk' (mapTo_yes hlt hq)
        clear hq
        have hlt8 : k / 8 < mapSize l.length := by unfold mapSize; omega
        have hg0 := hB.out.lt
        have hgf := hB.out.frozen
        have hgc := hB.out.cell (k / 8)
        obtain ⟨x, hx, hxv⟩ : ∃ x : Nat, x < 2 ^ (k % 8) ∧ (mapTo l k).getD (k / 8) 0 = (x : Int) := by
          refine ⟨_, ?_, mapTo_get hlt8⟩
          have := bits_at (l := l) (k := k) (by omega)
          have h8 : 2 ^ (k % 8) ≤ 128 := Nat.le_trans (Nat.pow_le_pow_right (by decide) (show k % 8 ≤ 7 by omega)) (by decide)
          rw [Nat.mod_eq_of_lt (by omega)]; exact this
        rw [hxv] at HM
        have hgc2 : wr.cell? ⟨w.heap.size, k / 8, none⟩ = some (.int .u8 x) := by
          rw [hgc, ← hxv]
          simp [bs, List.getD, mapTo_len, hlt8]
        clear hgc hxv
        have hp8 : 2 ^ (k % 8) ≤ 128 := Nat.le_trans (Nat.pow_le_pow_right (by decide) (show k % 8 ≤ 7 by omega)) (by decide)
        have hsh : ∀ W : World, (Op.shift .shl .u8 1 .i64 ((k : Int).tmod 8)).run Try.prog W = .ok (.int .u8 ((2 ^ (k % 8) : Nat) : Int)) W := by
          intro W
          have hk8 : k % 8 = 0 ∨ k % 8 = 1 ∨ k % 8 = 2 ∨ k % 8 = 3 ∨ k % 8 = 4 ∨ k % 8 = 5 ∨ k % 8 = 6 ∨ k % 8 = 7 := by omega
          have e : (k : Int).tmod 8 = ((k % 8 : Nat) : Int) := rfl
          rw [e]
          rcases hk8 with h | h | h | h | h | h | h | h <;> rw [h] <;> simp [go_sem, IntKind.wrap, IntKind.signed, IntKind.bits]
        have hor : bits BinOp.or IntKind.u8 (x : Int) ((2 ^ (k % 8) : Nat) : Int) = ((x + 2 ^ (k % 8) : Nat) : Int) := by
          rw [bits_or_u8_nat _ _ (by omega) (by omega), or_two x (k % 8) hx]
        obtain ⟨p, hp⟩ : ∃ p : Nat, p = 2 ^ (k % 8) := ⟨_, rfl⟩
        rw [← hp] at hsh hor hx hp8 HM
        have hw8 : IntKind.i64.wrap ((k : Int) / 8) = (k : Int) / 8 := by rw [i64_wrap]; omega
        have hn8 : ((k : Int) / 8).toNat = k / 8 := by omega
        have h08 : 0 ≤ (k : Int) / 8 := by omega
        have hl8 : (k : Int) / 8 < ((mapSize l.length : Nat) : Int) := by omega
        clear hp
        go_wp2
        refine wp_region_head 9 (fun w' => Ext (wr) w' ∧ (∀ b o, b < (wr).heap.size → w'.cell? ⟨b, o, none⟩ = (wr).cell? ⟨b, o, none⟩) ∧ (∀ b o, b < (wr).heap.size → w'.frozen? ⟨b, o, none⟩ = (wr).frozen? ⟨b, o, none⟩)) (by kernel_rfl) (by decide) ?_
        have hA0 : Hid ((fun w' => Ext (wr) w' ∧ (∀ b o, b < (wr).heap.size → w'.cell? ⟨b, o, none⟩ = (wr).cell? ⟨b, o, none⟩) ∧ (∀ b o, b < (wr).heap.size → w'.frozen? ⟨b, o, none⟩ = (wr).frozen? ⟨b, o, none⟩)) wr.drew) := held_of (by (repeat (with_reducible (first | exact Ext.refl _ | assumption | exact held_left (by assumption) | apply Ext.drewN | apply Ext.drew | apply Ext.alloc | (refine Ext.setCell ?_ (by first | (simp; done) | (simp; omega) | omega) _) | (refine Ext.trans ?_ (by assumption)) | (refine Ext.trans ?_ (held_left (by assumption)))))))
        (refine wpHd_take (i := 0) (v := ?_) rfl (by kernel_rfl) (by kernel_rfl) (by kernel_rfl) (fun _ _ _ h => h) (Or.inl ⟨by rfl, ?_⟩) hA0.out ?_; rotate_left 1; · (intro w' hS'; (obtain ⟨hEs', hcs', hfs'⟩ := hS'); go_simp; try with_reducible rfl))
        (refine wpHd_take (i := 1) (v := ?_) rfl (by kernel_rfl) (by kernel_rfl) (by kernel_rfl) (fun _ _ _ h => h) (Or.inl ⟨by rfl, ?_⟩) hA0.out ?_; rotate_left 1; · (intro w' hS'; (obtain ⟨hEs', hcs', hfs'⟩ := hS'); go_simp; try with_reducible rfl))
        (refine wpHd_take (i := 2) (v := ?_) rfl (by kernel_rfl) (by kernel_rfl) (by kernel_rfl) (fun _ _ _ h => h) (Or.inl ⟨by rfl, ?_⟩) hA0.out ?_; rotate_left 1; · (intro w' hS'; (obtain ⟨hEs', hcs', hfs'⟩ := hS'); go_simp; try with_reducible rfl))
        (refine wpHd_take (i := 3) (v := ?_) rfl (by kernel_rfl) (by kernel_rfl) (by kernel_rfl) (fun _ _ _ h => h) (Or.inl ⟨by rfl, ?_⟩) hA0.out ?_; rotate_left 1; · (intro w' hS'; (obtain ⟨hEs', hcs', hfs'⟩ := hS'); go_simp; try with_reducible rfl))
        (refine wpHd_take (i := 4) (v := ?_) rfl (by kernel_rfl) (by kernel_rfl) (by kernel_rfl) (fun _ _ _ h => h) (Or.inl ⟨by rfl, ?_⟩) hA0.out ?_; rotate_left 1; · (intro w' hS'; (obtain ⟨hEs', hcs', hfs'⟩ := hS'); go_simp; try with_reducible rfl))
        (refine wpHd_take (i := 5) (v := ?_) rfl (by kernel_rfl) (by kernel_rfl) (by kernel_rfl) (fun _ _ _ h => h) (Or.inl ⟨by rfl, ?_⟩) hA0.out ?_; rotate_left 1; · (intro w' hS'; (obtain ⟨hEs', hcs', hfs'⟩ := hS'); go_simp; try with_reducible rfl))
        (refine wpHd_take (i := 6) (v := ?_) rfl (by kernel_rfl) (by kernel_rfl) (by kernel_rfl) (fun _ _ _ h => h) (Or.inl ⟨by rfl, ?_⟩) hA0.out ?_; rotate_left 1; · (intro w' hS'; (obtain ⟨hEs', hcs', hfs'⟩ := hS'); go_simp; try with_reducible rfl))
        (refine wpHd_take (i := 7) (v := ?_) rfl (by kernel_rfl) (by kernel_rfl) (by kernel_rfl) (fun _ _ _ h => h) (Or.inl ⟨by rfl, ?_⟩) hA0.out ?_; rotate_left 1; · (intro w' hS'; (obtain ⟨hEs', hcs', hfs'⟩ := hS'); go_simp; try with_reducible rfl))
        (refine wpHd_take (i := 8) (v := ?_) rfl (by kernel_rfl) (by kernel_rfl) (by kernel_rfl) (fun _ _ _ h => h) (Or.inl ⟨by rfl, ?_⟩) hA0.out ?_; rotate_left 1; · (intro w' hS'; (obtain ⟨hEs', hcs', hfs'⟩ := hS'); go_simp; try with_reducible rfl))
        refine wpHd_tail (by kernel_rfl) ?_
        simp only [List.drop_succ_cons, List.drop_zero]
        go_wp2
        go_roundw
        case rel => exact ⟨k + 1, by omega, by go_num, Hid.mk' (by rw [HM.out]; have e : (bs ((mapTo l k).set (k / 8) ((x : Int) + (p : Int)))).toArray = (bs (mapTo l k)).toArray.setIfInBounds (k / 8) (.int .u8 ((x : Int) + (p : Int))) := (by simp [bs, List.map_set]); rw [e]; exact (hB.out.set _ _).drew), Hid.mk' (by have hE := hE.out; (repeat (with_reducible (first | exact Ext.refl _ | assumption | exact held_left (by assumption) | apply Ext.drewN | apply Ext.drew | apply Ext.alloc | (refine Ext.setCell ?_ (by first | (simp; done) | (simp; omega) | omega) _) | (refine Ext.trans ?_ (by assumption)) | (refine Ext.trans ?_ (held_left (by assumption)))))))⟩
        case measure => simp [intOf]; omega
    · have hkk : k = l.length := by omega
      subst hkk
      have HB := Hid.mk' (show Blk wr w.heap.size (bs (mapL l)).toArray 5 by rw [← mapTo_all]; exact hB.out)
      go_wp2
      go_ret2
      exact ⟨_, rfl, OB.of_blk HB.out (Nat.le_refl _) (mapL_len l).symm (by rw [mapL_len]; omega), hE.out⟩

theorem Try.infoBool : (Try.prog.info? 4).map (fun i => (i.zero, i.size, i.bytes)) = some (some (.bool false), 1, 1) := by kernel_rfl

set_option maxRecDepth 100000 in set_option maxHeartbeats 2000000 in
theorem nulls_any (l : List K) (a : Option Addr) (cap : Nat) (w : World) (hl : Sl w (.slice a l.length cap) 5 (l.map K.pc)) (hlen : l.length ≤ 1000) :
    Calls Try.prog 77 #[.slice a l.length cap] w fun e w' => ∃ a' cap', e = .returned (.slice a' l.length cap') ∧ Sl w' (.slice a' l.length cap') 1 ((nullsL l).map boolC) ∧ Ext w w' := by
  have HL := Hid.mk' hl
  clear hl
  obtain ⟨i0, hi, hz0, hz1, hz2⟩ := info_parts Try.infoBool
  go_enter Try.func77, Try.ntmps77
  go_wp2
  go_loopw [3, 8] (fun v i wr => ∃ k : Nat, k ≤ l.length ∧ i = .int .i64 k ∧ Hid (wr.ownsRow w.heap.size 4 1 v k (((nullsL l).map boolC).take k).flatten) ∧ Hid (Ext w wr)) (fun _ i _ => l.length - (intOf i).toNat)
  case atStart => exact ⟨0, Nat.zero_le _, rfl, World.ownsRow_nil _ _ _ _, Ext.refl _⟩
  case round =>
    obtain ⟨k, hk, rfl, hown, hE⟩ := hrel
    by_cases hlt : k < l.length
    · obtain ⟨b, o, rfl, hb, hx⟩ := HL.out.at_ (i := k) (by simpa using hlt)
      obtain ⟨f0, f1, f2, f3, f4⟩ := K.pcAt hlt hx hb hE.out
      have hbw : b < wr.heap.size := Nat.lt_of_lt_of_le hb hE.out.size
      have HT := Hid.mk' (flat_snoc (f := boolC) (l := nullsL l) (k := k) (by rw [nullsL_len]; exact hlt))
      have hnk : (nullsL l)[k]'(by rw [nullsL_len]; exact hlt) = decide (l[k].k = 0) := by simp [nullsL]
      rw [hnk] at HT
      obtain ⟨c, hc⟩ : ∃ c, c = l[k] := ⟨_, rfl⟩
      rw [← hc] at f0 f1 f2 f3 f4 HT
      have hdk : (c.k == 0) = decide (c.k = 0) := by by_cases h : c.k = 0 <;> simp [h]
      have HDK := Hid.mk' hdk
      obtain ⟨q, hq⟩ : ∃ q, q = decide (c.k = 0) := ⟨_, rfl⟩
      rw [← hq] at HT hdk
      clear hc hx hnk hq HDK
      go_wp2_with (at_builtin; refine wpList_append_own _ rfl _ _ 148 rfl w.heap.size 4 i0 _ 1 1 Try.underlying148 hi hz0 hz1 hz2 rfl (by decide) _ _ _ rfl ((hown.out.alloc _).alloc _) ⟨_, 0, none⟩ 1 1 (boolC q) rfl rfl ?c1 ?c2 ?c3 ?c4 ?c5 ?_)
      case c1 => exact cells_new' _ #[.bool q] _ (by simp)
      case c2 => intro u hu; simp [boolC] at hu; subst hu; rfl
      case c3 => unfold maxLen; omega
      case c4 => omega
      case c5 => have := hE.out.size; simp; omega
      intro v' w2 hown' hgrow _
      have HE2 := Hid.mk' (Below.grown ((hE.out.alloc _).alloc _) hgrow (by have := hE.out.size; rw [World.size_alloc, World.size_alloc]; omega) (fun g hg => (hown.out.lt g hg).1))
      have HO2 := Hid.mk' hown'
      clear hown' hgrow
      go_wp2
      go_roundw
      case rel => exact ⟨k + 1, by omega, by go_num, Hid.mk' (by rw [HT.out]; exact HO2.out), HE2⟩
      case measure => simp [intOf]; omega
    · have hkk : k = l.length := by omega
      subst hkk
      have hml : ((nullsL l).map boolC).length = l.length := by rw [List.length_map, nullsL_len]
      rw [← hml, List.take_length, hml] at hown
      obtain ⟨a', c', rfl⟩ := owns_shape hown.out
      go_wp2
      go_ret
      refine ⟨a', c', rfl, Sl.of_owns (base := w.heap.size) (e := 4) ?_ ?_, hE.out⟩
      · rw [hml]; exact hown.out
      · intro xs hxs; simp at hxs; rcases hxs with ⟨_, rfl⟩ | ⟨_, rfl⟩ <;> rfl

end Go.Proofs.Ytdbepkfblfhlhaa

/-
The things of a map: the program's Unpack, the reference's.
-/
namespace Go.Proofs.Ytdbepkfblfhlhaa
open Go.RowKit

theorem bits_and_u8_nat (a b : Nat) (ha : a < 256) (hb : b < 256) : bits .and .u8 (a : Int) (b : Int) = ((a &&& b : Nat) : Int) := by
  have hx : a &&& b < 2 ^ 8 := Nat.and_lt_two_pow _ (by omega)
  have h1 : (BitVec.ofInt 8 (a : Int)).toNat = a := by
    rw [BitVec.ofInt_natCast, BitVec.toNat_ofNat]; exact Nat.mod_eq_of_lt (by omega)
  have h2 : (BitVec.ofInt 8 (b : Int)).toNat = b := by
    rw [BitVec.ofInt_natCast, BitVec.toNat_ofNat]; exact Nat.mod_eq_of_lt (by omega)
  show IntKind.u8.wrap ((BitVec.ofInt 8 (a : Int) &&& BitVec.ofInt 8 (b : Int)).toNat : Int) = _
  rw [BitVec.toNat_and, h1, h2, u8_wrap']
  omega

def UnPost (b : List Int) (n : Nat) (w : World) (e : Ending) (w' : World) : Prop :=
  ∃ a c, e = .returned (.tuple #[.slice a (unmapL b n).1.length c, .int .i64 (unmapL b n).2]) ∧ Sl w' (.slice a (unmapL b n).1.length c) 1 ((unmapL b n).1.map boolC) ∧ (∀ k o, a = some ⟨k, o, none⟩ → w.heap.size ≤ k) ∧ Ext w w'
theorem owns_at {w : World} {base : Nat} {e : TypeId} {size n m c : Nat} {a : Option Addr} {xs : List Value} (h : w.ownsRow base e size (.slice a m c) n xs) : ∀ k o, a = some ⟨k, o, none⟩ → base ≤ k := by
  intro k o e
  subst e
  rcases h.2 with ⟨h3, _⟩ | ⟨g, cap, cur, hv, hb, _⟩
  · cases h3
  · simp only [Value.slice.injEq, Option.some.injEq, Addr.mk.injEq] at hv
    rw [hv.1.1]; exact hb
theorem UnPost.bad {b : List Int} {n : Nat} {w w' : World} (h : unmapL b n = ([], 3)) (hE : Ext w w') : UnPost b n w (.returned (.tuple #[.slice none 0 0, .int .i64 3])) w' := by
  unfold UnPost; rw [h]; exact ⟨none, 0, rfl, ⟨none, 0, rfl, .inl rfl⟩, (fun _ _ e => by cases e), hE⟩
theorem UnPost.ok {b : List Int} {n m : Nat} {l : List Bool} {w w' : World} {a : Option Addr} {c : Nat} (h : unmapL b n = (l, 0)) (hm : m = l.length) (hs : Sl w' (.slice a m c) 1 (l.map boolC)) (ha : ∀ k o, a = some ⟨k, o, none⟩ → w.heap.size ≤ k) (hE : Ext w w') : UnPost b n w (.returned (.tuple #[.slice a m c, .int .i64 0])) w' := by
  unfold UnPost; rw [h]; subst hm; exact ⟨a, c, rfl, hs, ha, hE⟩
theorem boolC_len {l : List Bool} : ∀ xs ∈ l.map boolC, xs.length = 1 := by intro xs hxs; simp at hxs; rcases hxs with ⟨_, rfl⟩ | ⟨_, rfl⟩ <;> rfl
theorem unbits_flat (v k : Nat) : ((unbits v (k + 1)).map boolC).flatten = ((unbits v k).map boolC).flatten ++ boolC (bitAt v k) := by rw [unbits_snoc]; simp

set_option maxRecDepth 100000 in set_option maxHeartbeats 4000000 in
theorem unpack_any (b : List Int) (n : Nat) (a : Option Addr) (cap : Nat) (w : World) (hl : Sl w (.slice a b.length cap) 1 (b.map bcell)) (hb : isB b) (h16 : n ≤ 16) (hn : b.length = mapSize n) :
    Calls Try.prog 123 #[.slice a b.length cap, .int .i64 n] w (UnPost b n w) := by
  obtain ⟨i0, hi, hz0, hz1, hz2⟩ := info_parts Try.infoBool
  have HC := Hid.mk' (fun w => counted_yes n w h16)
  have HZ := Hid.mk' (fun w => msize_any n w h16)
  rw [← hn] at HZ
  have hb2 : b.length ≤ 2 := by rw [hn]; unfold mapSize; omega
  have hn8 : n ≤ 8 * b.length := by rw [hn]; unfold mapSize; omega
  have HL := Hid.mk' hl
  have HB := Hid.mk' hb
  have HN := Hid.mk' hn
  clear hl hb hn
  go_enter Try.func123, Try.ntmps123
  go_wp2_with (first
    | (go_at_call 107; refine (HC.out _).mono ?_; rintro e w1 ⟨rfl, rfl⟩)
    | (go_at_call 108; refine (HZ.out _).mono ?_; rintro e w1 ⟨rfl, rfl⟩))
  go_loopw [6, 28] (fun v i wr => ∃ k : Nat, k ≤ 8 * b.length ∧ i = .int .i64 k ∧ Hid (wr.ownsRow w.heap.size 4 1 v (min k n) (((unbits (ofBytes b) (min k n)).map boolC).flatten)) ∧ Hid (∀ j, n ≤ j → j < k → bitAt (ofBytes b) j = false) ∧ Hid (Ext w wr)) (fun _ i _ => 8 * b.length - (intOf i).toNat)
  case atStart => exact ⟨0, Nat.zero_le _, rfl, Hid.mk' (by rw [Nat.zero_min]; exact World.ownsRow_nil _ _ _ _), Hid.mk' (fun j _ h => by omega), Hid.mk' (by (repeat (with_reducible (first | exact Ext.refl _ | assumption | exact held_left (by assumption) | apply Ext.drewN | apply Ext.drew | apply Ext.alloc | (refine Ext.setCell ?_ (by first | (simp; done) | (simp; omega) | omega) _) | (refine Ext.trans ?_ (by assumption)) | (refine Ext.trans ?_ (held_left (by assumption)))))))⟩
  case round =>
    obtain ⟨k, hk, rfl, hown, hrel, hE⟩ := hrel
    by_cases hlt : k < 8 * b.length
    · have hk8 : k / 8 < b.length := by omega
      obtain ⟨bb, o, rfl, hbb, hx⟩ := HL.out.at_ (i := k / 8) (by simpa using hk8)
      have hxv := HB.out _ (List.getElem_mem hk8)
      obtain ⟨x, hxn⟩ : ∃ x : Nat, b[k / 8] = (x : Int) := ⟨b[k / 8].toNat, by omega⟩
      have f0 : wr.cell? ⟨bb, o + k / 8, none⟩ = some (.int .u8 (x : Int)) := by
        rw [hE.out.cells.1 _ _ hbb]
        have := hx 0 (by omega)
        rw [Nat.mul_one, Nat.add_zero, getD_map bcell b hk8, hxn] at this
        exact this
      have hbit := ofBytes_bit b k HB.out hlt
      have hgd : (b.getD (k / 8) 0).toNat = x := by simp [List.getD, hk8, hxn]
      rw [hgd] at hbit
      have hx256 : x < 256 := by omega
      have hbw : bb < wr.heap.size := Nat.lt_of_lt_of_le hbb hE.out.size
      have hy : x / 2 ^ (k % 8) < 256 := Nat.lt_of_le_of_lt (Nat.div_le_self _ _) hx256
      have hand : bits BinOp.and IntKind.u8 ((x : Int) / 2 ^ (k % 8)) 1 = ((x / 2 ^ (k % 8) % 2 : Nat) : Int) := by
        rw [show ((x : Int) / 2 ^ (k % 8)) = ((x / 2 ^ (k % 8) : Nat) : Int) by simp]
        have := bits_and_u8_nat (x / 2 ^ (k % 8)) 1 hy (by decide)
        rw [Nat.and_one_is_mod] at this
        exact this
      obtain ⟨y, hye⟩ : ∃ y : Nat, y = x / 2 ^ (k % 8) := ⟨_, rfl⟩
      rw [← hye] at hand hbit hy
      have hw8 : IntKind.i64.wrap ((k : Int) / 8) = (k : Int) / 8 := by rw [i64_wrap]; omega
      have hnn8 : ((k : Int) / 8).toNat = k / 8 := by omega
      have h08 : 0 ≤ (k : Int) / 8 := by omega
      have hl8 : (k : Int) / 8 < ((b.length : Nat) : Int) := by omega
      have HBIT := Hid.mk' hbit
      clear hx hxv hgd hye hx256 hxn hbit
      by_cases hkn : k < n
      · have hmin : min (k + 1) n = k + 1 := by omega
        have hmin0 : min k n = k := by omega
        have HT := Hid.mk' (unbits_flat (ofBytes b) k)
        rw [hmin0] at hown
        obtain ⟨q, hq⟩ : ∃ q, q = bitAt (ofBytes b) k := ⟨_, rfl⟩
        rw [← hq] at HT
        have hdq : (((y % 2 : Nat) : Int) == 1) = q := by
          rw [hq, HBIT.out]; by_cases h : y % 2 = 1 <;> simp [h] <;> omega
        obtain ⟨z, hz⟩ : ∃ z : Nat, z = y % 2 := ⟨_, rfl⟩
        rw [← hz] at hand hdq
        clear hq hz
        go_wp2_with (at_builtin; refine wpList_append_own _ rfl _ _ 148 rfl w.heap.size 4 i0 _ 1 1 Try.underlying148 hi hz0 hz1 hz2 rfl (by decide) _ _ _ rfl (hown.out.alloc _) ⟨_, 0, none⟩ 1 1 (boolC q) rfl rfl ?c1 ?c2 ?c3 ?c4 ?c5 ?_)
        case c1 => exact cells_new' _ #[.bool q] _ (by simp)
        case c2 => intro u hu; simp [boolC] at hu; subst hu; rfl
        case c3 => unfold maxLen; omega
        case c4 => omega
        case c5 => have := hE.out.size; simp; omega
        intro v' w2 hown' hgrow _
        have HE2 := Hid.mk' (Below.grown (hE.out.alloc (.cells #[.bool q] 4)) hgrow (by have := hE.out.size; simp; omega) (fun g hg => (hown.out.lt g hg).1))
        have HO2 := Hid.mk' hown'
        clear hown' hgrow
        go_wp2
        go_roundw
        case rel => exact ⟨k + 1, by omega, by go_num, Hid.mk' (by rw [hmin, HT.out]; exact HO2.out), Hid.mk' (fun j h1 h2 => by omega), HE2⟩
        case measure => simp [intOf]; omega
      · have hmin : min (k + 1) n = min k n := by omega
        have hkn' : n ≤ k := by omega
        by_cases hbt : bitAt (ofBytes b) k = true
        · have HR := Hid.mk' (unmap_bad hbt hkn')
          have h1 : y % 2 = 1 := by rw [HBIT.out] at hbt; simpa using hbt
          rw [h1] at hand
          clear hbt
          go_wp2
          go_ret2
          exact UnPost.bad HR.out hE.out
        · have HF := Hid.mk' hbt
          have h1 : y % 2 = 0 := by
            have h2 := HF.out; rw [HBIT.out] at h2; simp at h2; omega
          rw [h1] at hand
          clear hbt
          go_wp2
          go_roundw
          case rel => exact ⟨k + 1, by omega, by go_num, Hid.mk' (by rw [hmin]; exact hown.out), Hid.mk' (fun j h1 h2 => by
            by_cases e : j = k
            · subst e; simpa using HF.out
            · exact hrel.out j h1 (by omega)), hE⟩
          case measure => simp [intOf]; omega
    · have hkk : k = 8 * b.length := by omega
      subst hkk
      have hmin : min (8 * b.length) n = n := by omega
      rw [hmin] at hown
      have HR := Hid.mk' (unmap_ok HB.out hn8 (fun j h1 h2 => hrel.out j h1 h2))
      obtain ⟨a', c', rfl⟩ := owns_shape hown.out
      go_wp2
      go_ret2
      exact UnPost.ok HR.out (unbits_len _ _).symm (Sl.of_owns (base := w.heap.size) (e := 4) (xss := (unbits (ofBytes b) n).map boolC) (by rw [List.length_map, unbits_len]; exact hown.out) boolC_len) (owns_at hown.out) hE.out

theorem ofBytes_at {b : List Int} {k : Nat} (hk : k < b.length) : ofBytes (b.drop k) = (b[k]).toNat + 256 * ofBytes (b.drop (k + 1)) := by
  rw [List.drop_eq_getElem_cons hk, ofBytes]
theorem bit_div (v k : Nat) : bitAt v k = decide (v / 2 ^ k % 2 = 1) := rfl

set_option maxRecDepth 100000 in set_option maxHeartbeats 4000000 in
theorem runpack_any (b : List Int) (n : Nat) (a : Option Addr) (cap : Nat) (w : World) (hl : Sl w (.slice a b.length cap) 1 (b.map bcell)) (hb : isB b) (h16 : n ≤ 16) (hn : b.length = mapSize n) :
    Calls Try.prog 92 #[.slice a b.length cap, .int .i64 n] w (UnPost b n w) := by
  obtain ⟨i0, hi, hz0, hz1, hz2⟩ := info_parts Try.infoBool
  have HZ := Hid.mk' (fun w => rmsize_any n w h16)
  rw [← hn] at HZ
  have hb2 : b.length ≤ 2 := by rw [hn]; unfold mapSize; omega
  have HUN : Hid (unmapL b n = if ofBytes b / 2 ^ n > 0 then ([], 3) else (unbits (ofBytes b) n, 0)) := Hid.mk' rfl
  have HL := Hid.mk' hl
  have HB := Hid.mk' hb
  clear hl hb hn
  go_enter Try.func92, Try.ntmps92
  go_wp2_with (go_at_call 91; refine (HZ.out _).mono ?_; rintro e w1 ⟨rfl, rfl⟩)
  go_loopw [6, 7] (fun v i wr => ∃ j : Nat, j ≤ b.length ∧ i = .int .i64 ((j : Int) - 1) ∧ v = .int .i64 (ofBytes (b.drop j) : Nat) ∧ Hid (Ext w wr)) (fun _ i _ => (intOf i + 1).toNat)
  case atStart => exact ⟨b.length, Nat.le_refl _, rfl, by rw [List.drop_length]; rfl, Hid.mk' (by (repeat (with_reducible (first | exact Ext.refl _ | assumption | exact held_left (by assumption) | apply Ext.drewN | apply Ext.drew | apply Ext.alloc | (refine Ext.setCell ?_ (by first | (simp; done) | (simp; omega) | omega) _) | (refine Ext.trans ?_ (by assumption)) | (refine Ext.trans ?_ (held_left (by assumption)))))))⟩
  case round =>
    obtain ⟨j, hj, rfl, rfl, hE⟩ := hrel
    have hbd := ofBytes_lt (b.drop j) (HB.out.drop j)
    rw [List.length_drop] at hbd
    have hp : 256 ^ (b.length - j) ≤ 65536 := Nat.le_trans (Nat.pow_le_pow_right (by decide) (show b.length - j ≤ 2 by omega)) (by decide)
    by_cases h0 : 0 < j
    · obtain ⟨k, rfl⟩ : ∃ k, j = k + 1 := ⟨j - 1, by omega⟩
      have hlt : k < b.length := by omega
      obtain ⟨bb, o, rfl, hbb, hx⟩ := HL.out.at_ (i := k) (by simpa using hlt)
      have hxv := HB.out _ (List.getElem_mem hlt)
      obtain ⟨x, hxn⟩ : ∃ x : Nat, b[k] = (x : Int) := ⟨b[k].toNat, by omega⟩
      have f0 : wr.cell? ⟨bb, o + k, none⟩ = some (.int .u8 (x : Int)) := by
        rw [hE.out.cells.1 _ _ hbb]
        have := hx 0 (by omega)
        rw [Nat.mul_one, Nat.add_zero, getD_map bcell b hlt, hxn] at this
        exact this
      have hbw : bb < wr.heap.size := Nat.lt_of_lt_of_le hbb hE.out.size
      have HD := Hid.mk' (ofBytes_at hlt)
      rw [hxn, Int.toNat_natCast] at HD
      have hx256 : x < 256 := by omega
      have hp2 : 256 ^ (b.length - (k + 1)) ≤ 256 := Nat.le_trans (Nat.pow_le_pow_right (by decide) (show b.length - (k + 1) ≤ 1 by omega)) (by decide)
      obtain ⟨N, hN⟩ : ∃ N, N = ofBytes (b.drop (k + 1)) := ⟨_, rfl⟩
      rw [← hN] at hbd HD ⊢
      have hN2 : N < 256 := by omega
      have hki : ((k + 1 : Nat) : Int) - 1 = (k : Int) := by omega
      rw [hki]
      have hwx : IntKind.i64.wrap (x : Int) = (x : Int) := by rw [i64_wrap]; omega
      clear hx hN hp hbd hxv hxn hp2
      go_wp2
      go_roundw
      case rel => exact ⟨k, by omega, by go_num, by rw [HD.out]; congr 1; simp; omega, hE⟩
      case measure => first | (simp [intOf]; done) | (simp [intOf]; omega)
    · obtain rfl : j = 0 := by omega
      rw [List.drop_zero] at hbd ⊢
      obtain ⟨N, hN⟩ : ∃ N, N = ofBytes b := ⟨_, rfl⟩
      rw [← hN] at hbd HUN ⊢
      have hN2 : N < 65536 := by omega
      have HEw := hE
      have e0 : ((0 : Nat) : Int) - 1 = -1 := rfl
      rw [e0]
      clear hN hp hbd HL hE e0
      go_wp2
      rename World => wq
      go_loopw [6, 8, 9] (fun v u i wr => ∃ k : Nat, k ≤ n ∧ i = .int .i64 k ∧ v = .int .i64 (N / 2 ^ k : Nat) ∧ Hid (wr.ownsRow w.heap.size 4 1 u k (((unbits N k).map boolC).flatten)) ∧ Hid (Ext w wr)) (fun _ _ i _ => n - (intOf i).toNat)
      case atStart => exact ⟨0, Nat.zero_le _, rfl, by simp, Hid.mk' (World.ownsRow_nil _ _ _ _), HEw⟩
      case round =>
        obtain ⟨k, hk, rfl, rfl, hown, hE⟩ := hrel
        have hMle : N / 2 ^ k < 65536 := Nat.lt_of_le_of_lt (Nat.div_le_self _ _) hN2
        by_cases hlt : k < n
        · have HT := Hid.mk' (unbits_flat N k)
          have HB2 := Hid.mk' (bit_div N k)
          have HS := Hid.mk' (show N / 2 ^ (k + 1) = N / 2 ^ k / 2 by rw [Nat.pow_succ, Nat.div_div_eq_div_mul])
          obtain ⟨M, hM⟩ : ∃ M, M = N / 2 ^ k := ⟨_, rfl⟩
          rw [← hM] at hMle HB2 HS ⊢
          obtain ⟨q, hq⟩ : ∃ q, q = bitAt N k := ⟨_, rfl⟩
          rw [← hq] at HT HB2
          have hdq : ((M : Int) % 2 == 1) = q := by
            rw [HB2.out, show (M : Int) % 2 = ((M % 2 : Nat) : Int) by omega]; by_cases h : M % 2 = 1 <;> simp [h] <;> omega
          have hw2 : IntKind.i64.wrap ((M : Int) / 2) = (M : Int) / 2 := by rw [i64_wrap]; omega
          clear hM hq
          go_wp2_with (at_builtin; refine wpList_append_own _ rfl _ _ 148 rfl w.heap.size 4 i0 _ 1 1 Try.underlying148 hi hz0 hz1 hz2 rfl (by decide) _ _ _ rfl (hown.out.alloc _) ⟨_, 0, none⟩ 1 1 (boolC q) rfl rfl ?c1 ?c2 ?c3 ?c4 ?c5 ?_)
          case c1 => exact cells_new' _ #[.bool q] _ (by simp)
          case c2 => intro u hu; simp [boolC] at hu; subst hu; rfl
          case c3 => unfold maxLen; omega
          case c4 => omega
          case c5 => have := hE.out.size; simp; omega
          intro v' w2 hown' hgrow _
          have HE2 := Hid.mk' (Below.grown (hE.out.alloc (.cells #[.bool q] 4)) hgrow (by have := hE.out.size; simp; omega) (fun g hg => (hown.out.lt g hg).1))
          have HO2 := Hid.mk' hown'
          clear hown' hgrow
          go_wp2
          go_roundw
          case rel => exact ⟨k + 1, by omega, by go_num, by rw [HS.out]; simp, Hid.mk' (by rw [HT.out]; exact HO2.out), HE2⟩
          case measure => simp [intOf]; omega
        · obtain rfl : k = n := by omega
          obtain ⟨a', c', rfl⟩ := owns_shape hown.out
          by_cases hpos : N / 2 ^ k > 0
          · have HR := Hid.mk' (HUN.out.trans (if_pos hpos))
            obtain ⟨M, hM⟩ : ∃ M, M = N / 2 ^ k := ⟨_, rfl⟩
            rw [← hM] at hMle hpos ⊢
            clear hM
            go_wp2
            go_ret2
            exact UnPost.bad HR.out hE.out
          · have HR := Hid.mk' (HUN.out.trans (if_neg hpos))
            have h0 : N / 2 ^ k = 0 := by generalize N / 2 ^ k = q at hpos; omega
            rw [h0]
            clear hMle hpos h0
            go_wp2
            go_ret2
            exact UnPost.ok HR.out (unbits_len _ _).symm (Sl.of_owns (base := w.heap.size) (e := 4) (xss := (unbits N k).map boolC) (by rw [List.length_map, unbits_len]; exact hown.out) boolC_len) (owns_at hown.out) hE.out

end Go.Proofs.Ytdbepkfblfhlhaa

/-
Cells, in plain words: from no other bytes; how long they are in both versions.
-/
namespace Go.Proofs.Ytdbepkfblfhlhaa
open Go.RowKit

/-- A text with so many letters a behind it. -/
def fillS (s : ByteArray) (m : Nat) : ByteArray := strOfNums (strL s ++ List.replicate m 97)
theorem fillS_zero (s : ByteArray) : fillS s 0 = s := by unfold fillS; rw [List.replicate_zero, List.append_nil, strOf_strL]
theorem fillS_size (s : ByteArray) (m : Nat) : (fillS s m).size = s.size + m := by unfold fillS; rw [strOfNums_size]; simp [strL_len]

theorem strL_empty : strL ByteArray.empty = [] := rfl
theorem fill_plain (m : Nat) : plainB (fillS ByteArray.empty m) = true := by
  refine plain_of fun k hk => ?_
  have hb : isB (List.replicate m (97 : Int)) := fun x hx => by rw [List.eq_of_mem_replicate hx]; decide
  have e : fillS ByteArray.empty m = strOfNums (List.replicate m 97) := by unfold fillS; rw [strL_empty]; rfl
  have h1 : strL (fillS ByteArray.empty m) = List.replicate m 97 := by rw [e]; exact strL_strOf hb
  have hk2 : k < (strL (fillS ByteArray.empty m)).length := by rw [strL_len]; exact hk
  have h2 : (strL (fillS ByteArray.empty m))[k]'hk2 = ((fillS ByteArray.empty m)[k].toNat : Int) := by
    simp only [strL, List.getElem_map, Array.getElem_toList]; rfl
  have h3 : (strL (fillS ByteArray.empty m))[k]'hk2 ∈ strL (fillS ByteArray.empty m) := List.getElem_mem _
  rw [h2, h1] at h3
  have h4 := List.eq_of_mem_replicate h3
  omega

theorem err_mk {k ty n x y : Int} {s : ByteArray} {kind ver : Int} (hv : ver = 1 ∨ ver = 2) (hr : rightC k ty n x y s kind = 0) (hk : k ≠ 0) : errC k ty n x y s kind ver = 0 := by
  unfold errC; rw [if_pos hv, if_neg (by simpa using hr), if_neg hk]
theorem right_same_mk {kind : Int} (h : kind = 5 ∨ kind = 6) : rightC 1 0 0 0 0 ByteArray.empty kind = 0 := by
  have : ByteArray.empty.size = 0 := rfl
  unfold rightC
  (repeat' split) <;> first | rfl | omega | (exfalso; omega) | (rename_i h0; exact absurd ⟨rfl, rfl, rfl, rfl, rfl⟩ h0)
theorem right_text_mk {kind : Int} {s : ByteArray} (hk : kind = 5 ∨ kind = 6) (h1 : s.size ≤ 2048) (h2 : kind = 5 → plainB s = true) : rightV kind 0 ((0 : Nat) : Int) ((0 : Nat) : Int) s = 0 := by
  unfold rightV
  (repeat' split) <;> first | rfl | omega | (exfalso; omega) | (exfalso; rename_i h; simp_all)

def K.fill (c : K) (m : Nat) : K := ⟨c.k, ⟨c.v.ty, c.v.n, c.v.x, c.v.y, fillS c.v.s m⟩⟩
theorem K.fill_zero (c : K) : c.fill 0 = c := by unfold K.fill; rw [fillS_zero]

theorem giveE {α : Type} {a b : α} {S : RS} {l : List Int} {x : Int} (hx : x ≠ 0) (h : (a, giveS S x) = (b, ⟨l, 0⟩)) : False :=
  giveS_e hx (congrArg (fun z => z.2.e) h)

theorem putC_large {ty n : Int} {x y : Nat} {s : ByteArray} {kind ver : Int} (h : largeB 2 ty s = true) : putC 2 ty n x y s kind ver = (3 - ver) :: sevens s.size := by
  unfold putC; rw [if_neg (by decide), if_pos h]
theorem putC_small {ty n : Int} {x y : Nat} {s : ByteArray} {kind ver : Int} (h : largeB 2 ty s = false) : putC 2 ty n x y s kind ver = if ver = 2 then (if kind = 5 ∨ kind = 6 then sevens (s.size + 2) ++ strL s else putL ty n x y s 2) else 1 :: putL ty n x y s 1 := by
  unfold putC; rw [if_neg (by decide), if_neg (by simp [h])]
theorem large_mk {kind : Int} {s : ByteArray} (hk : kind = 5 ∨ kind = 6) (h : 64 < s.size) : largeB 2 kind s = true := by unfold largeB; rw [decide_eq_true_eq]; exact ⟨rfl, hk, h⟩
theorem small_mk {k kind : Int} {s : ByteArray} (h : kind = 5 ∨ kind = 6 → s.size ≤ 64) : largeB k kind s = false := by unfold largeB; rw [decide_eq_false_iff_not]; rintro ⟨-, h1, h2⟩; have := h h1; omega

theorem wf_text (kind : Int) (s : ByteArray) : V.wf ⟨kind, 0, 0, 0, s⟩ := wf_mk (by decide) (by decide) (by decide) (by decide)
theorem k_two : (0 : Int) ≤ 2 := by decide
theorem k_one : (0 : Int) ≤ 1 := by decide
theorem ne_two : (2 : Int) ≠ 0 := by decide
theorem ne_one : (1 : Int) ≠ 0 := by decide

def TakenOk (b : List Int) (kind ver : Int) (c : K) (m : Nat) (l : List Int) : Prop :=
  0 ≤ c.k ∧ (c.fill m).err kind ver = 0 ∧ (c.fill m).v.wf ∧ b = (c.fill m).put kind ver ++ l ∧ m ≤ 2048 ∧ c.v.s.size ≤ 2048

theorem textK_inv {kind : Int} {q : List Int × RS} {c : K} {m : Nat} {l : List Int} (h : textK kind q = ((c, m), ⟨l, 0⟩)) :
    m = 0 ∧ c = ⟨2, ⟨kind, 0, 0, 0, strOfNums q.1⟩⟩ ∧ rightV kind 0 ((0 : Nat) : Int) ((0 : Nat) : Int) (strOfNums q.1) = 0 ∧ q.2 = ⟨l, 0⟩ := by
  unfold textK at h
  simp only [Prod.mk.injEq] at h
  obtain ⟨⟨h1, h2⟩, h3⟩ := h
  obtain ⟨h4, h5⟩ := failS_e (S := q.2) (by rw [h3])
  unfold failS at h3
  rw [if_neg (by simpa using h4)] at h3
  exact ⟨h2.symm, h1.symm, h4, h3⟩

theorem taken_large {b l : List Int} {kind ver : Int} {c : K} {m : Nat} {S : RS} (hv : ver = 1 ∨ ver = 2) (hk : kind = 5 ∨ kind = 6) (hS : isB S.l) (he : S.e = 0) (hb : b = (3 - ver) :: S.l)
    (h : ((fullT kind, (largeR S).1), (largeR S).2) = ((c, m), ⟨l, 0⟩)) : TakenOk b kind ver c m l := by
  obtain ⟨L, rfl⟩ : ∃ L, S = ⟨L, 0⟩ := ⟨_, RS.eta S he⟩
  obtain ⟨z, S2, hz⟩ : ∃ z S2, largeR ⟨L, 0⟩ = (z, S2) := ⟨_, _, rfl⟩
  rw [hz] at h
  simp only [Prod.mk.injEq] at h
  obtain ⟨⟨h1, h2⟩, h3⟩ := h
  subst h1 h2 h3
  obtain ⟨h4, h5, h6⟩ := largeR_inv hS hz
  have hf : (fillS ByteArray.empty z).size = z := by rw [fillS_size]; exact Nat.zero_add _
  have hr : rightC 2 kind 0 ((0 : Nat) : Int) ((0 : Nat) : Int) (fillS ByteArray.empty z) kind = 0 := right_mk (right_text_mk hk (by omega) (fun _ => fill_plain _)) rfl
  refine ⟨k_two, err_mk hv hr ne_two, wf_text _ _, ?_, h6, Nat.zero_le _⟩
  have hL : largeB 2 kind (fillS ByteArray.empty z) = true := large_mk hk (by omega)
  show b = putC 2 kind 0 0 0 (fillS ByteArray.empty z) kind ver ++ l
  rw [putC_large hL, hf, hb, List.cons_append]
  exact congrArg _ h4

theorem takeC_inv {b l : List Int} {kind ver : Int} {c : K} {m : Nat} (hb : isB b) (h : takeC kind ver ⟨b, 0⟩ = ((c, m), ⟨l, 0⟩)) : TakenOk b kind ver c m l := by
  unfold takeC finC at h
  split at h
  · rename_i he; exact absurd (congrArg (fun z => z.2.e) h) he
  rename_i he0
  clear he0
  unfold preC at h
  split at h
  · exact (giveE (by decide) h).elim
  rename_i hv
  rw [Classical.not_not] at hv
  split at h
  · exact (giveE (by decide) h).elim
  rename_i hkd
  have hkd : 1 ≤ kind ∧ kind ≤ 6 := by omega
  split at h
  · rename_i hv1
    subst hv1
    unfold firstC at h
    simp only at h
    split at h
    · rename_i he; exact absurd (congrArg (fun z => z.2.e) h) he
    rename_i he
    rw [ne_eq, Classical.not_not] at he
    have hbx := byteR_inv (b := b) (x := (byteR ⟨b, 0⟩).1) (l := (byteR ⟨b, 0⟩).2.l) (Prod.ext rfl (RS.eta _ he))
    generalize byteR ⟨b, 0⟩ = t at *
    obtain ⟨x, S⟩ := t
    simp only at *
    have hS : isB S.l := fun z hz => hb z (by rw [hbx]; simp [hz])
    split at h
    · exact (giveE (by decide) h).elim
    rename_i hx
    split at h
    · rename_i hx0
      subst hx0
      simp only [Prod.mk.injEq] at h
      obtain ⟨⟨rfl, rfl⟩, h3⟩ := h
      have hk : kind = 5 ∨ kind = 6 := by omega
      refine ⟨(by first | exact k_two | exact k_one), ?_, wf_text _ _, ?_, by omega, Nat.zero_le _⟩
      · rw [K.fill_zero]; exact err_mk (.inl rfl) (right_same_mk hk) ne_one
      · rw [K.fill_zero, hbx, h3]
        show _ = putC 1 _ _ _ _ _ _ _ ++ l
        unfold putC; rw [if_pos rfl]; rfl
    split at h
    · rename_i hx2
      subst hx2
      exact taken_large (.inl rfl) (by omega) hS he hbx h
    have hx1 : x = 1 := by
      have := hb x (by rw [hbx]; simp)
      omega
    subst hx1
    split at h
    · rename_i hk
      obtain ⟨rfl, rfl, h3, h4⟩ := textK_inv h
      rw [RS.eta S he] at h3 h4 ⊢
      obtain ⟨h5, h6⟩ := textR_inv (m := (textR 64 ⟨S.l, 0⟩).1) hS (Prod.ext rfl h4)
      have hbm : isB (textR 64 ⟨S.l, 0⟩).1 := fun z hz => hS z (by rw [h5]; simp [hz])
      have hz : (strOfNums (textR 64 ⟨S.l, 0⟩).1).size ≤ 64 := by rw [strOfNums_size]; exact h6
      refine ⟨(by first | exact k_two | exact k_one), ?_, wf_text _ _, ?_, by omega, by show (strOfNums _).size ≤ _; omega⟩
      · rw [K.fill_zero]; exact err_mk (.inl rfl) (right_mk h3 rfl) ne_two
      · rw [K.fill_zero, hbx]
        show _ = putC 2 kind 0 0 0 (strOfNums _) kind 1 ++ l
        rw [putC_small (small_mk fun _ => hz), if_neg (by decide)]
        unfold putL
        rw [if_neg (by omega), if_neg (by omega), if_neg (by omega), if_neg (by omega), strL_strOf hbm, strOfNums_size, List.cons_append, ← h5]
    · rename_i hk
      simp only [Prod.mk.injEq] at h
      obtain ⟨⟨rfl, rfl⟩, h3⟩ := h
      rw [RS.eta S he] at h3 ⊢
      obtain ⟨h4, h5, h6, h7⟩ := takeV_inv (v := (takeV kind 1 ⟨S.l, 0⟩).1) hS (.inl rfl) (Prod.ext rfl h3)
      refine ⟨k_two, ?_, ?_, ?_, by omega, (right_zero h4).2.2.1⟩
      · rw [K.fill_zero]; exact err_mk (.inl rfl) (right_mk h4 h6) ne_two
      · rw [K.fill_zero]; exact h5
      · rw [K.fill_zero, hbx]
        show _ = putC 2 _ _ _ _ _ kind 1 ++ l
        rw [putC_small (small_mk fun hh => by rw [h6] at hh; exact absurd hh (by omega)), if_neg (by decide), List.cons_append]
        congr 1
  · rename_i hv1
    obtain rfl : ver = 2 := by omega
    split at h
    · rename_i hk
      unfold secondC at h
      simp only at h
      split at h
      · rename_i he; exact absurd (congrArg (fun z => z.2.e) h) he
      rename_i he
      rw [ne_eq, Classical.not_not] at he
      obtain ⟨hbx, hx64, hx66⟩ := uintR_inv (x := (uintR 66 ⟨b, 0⟩).1) (l := (uintR 66 ⟨b, 0⟩).2.l) hb (Prod.ext rfl (RS.eta _ he))
      generalize uintR 66 ⟨b, 0⟩ = t at *
      obtain ⟨x, S⟩ := t
      simp only at *
      have hS : isB S.l := fun z hz => hb z (by rw [hbx]; simp [hz])
      rw [sevens_lt (by omega)] at hbx
      split at h
      · rename_i hx0
        subst hx0
        simp only [Prod.mk.injEq] at h
        obtain ⟨⟨rfl, rfl⟩, h3⟩ := h
        refine ⟨(by first | exact k_two | exact k_one), ?_, wf_text _ _, ?_, by omega, Nat.zero_le _⟩
        · rw [K.fill_zero]; exact err_mk (.inr rfl) (right_same_mk hk) ne_one
        · rw [K.fill_zero, hbx, h3]
          show _ = putC 1 _ _ _ _ _ _ _ ++ l
          unfold putC; rw [if_pos rfl]; rfl
      split at h
      · rename_i hx1
        subst hx1
        exact taken_large (.inr rfl) hk hS he hbx h
      obtain ⟨rfl, rfl, h3, h4⟩ := textK_inv h
      rw [RS.eta S he] at h3 h4 ⊢
      obtain ⟨h5, h6⟩ := bytesR_inv (m := (bytesR (x - 2) ⟨S.l, 0⟩).1) (Prod.ext rfl h4)
      have hbm : isB (bytesR (x - 2) ⟨S.l, 0⟩).1 := fun z hz => hS z (by rw [h5]; simp [hz])
      have hz : (strOfNums (bytesR (x - 2) ⟨S.l, 0⟩).1).size = x - 2 := by rw [strOfNums_size]; exact h6
      refine ⟨(by first | exact k_two | exact k_one), ?_, wf_text _ _, ?_, by omega, by show (strOfNums _).size ≤ _; omega⟩
      · rw [K.fill_zero]; exact err_mk (.inr rfl) (right_mk h3 rfl) ne_two
      · rw [K.fill_zero, hbx]
        show _ = putC 2 kind 0 0 0 (strOfNums _) kind 2 ++ l
        rw [putC_small (small_mk fun _ => by omega), if_pos rfl, if_pos hk, strL_strOf hbm, hz, show x - 2 + 2 = x by omega, sevens_lt (by omega), List.append_assoc, ← h5]
    · rename_i hk
      simp only [Prod.mk.injEq] at h
      obtain ⟨⟨rfl, rfl⟩, h3⟩ := h
      obtain ⟨h4, h5, h6, h7⟩ := takeV_inv (v := (takeV kind 2 ⟨b, 0⟩).1) hb (.inr rfl) (Prod.ext rfl h3)
      refine ⟨k_two, ?_, ?_, ?_, by omega, (right_zero h4).2.2.1⟩
      · rw [K.fill_zero]; exact err_mk (.inr rfl) (right_mk h4 h6) ne_two
      · rw [K.fill_zero]; exact h5
      · rw [K.fill_zero]
        show _ = putC 2 _ _ _ _ _ kind 2 ++ l
        rw [putC_small (small_mk fun hh => by rw [h6] at hh; exact absurd hh (by omega)), if_pos rfl, if_neg hk]
        exact h7

theorem complex_one (x y : Nat) : (complexL x y 1).length = 16 := by unfold complexL; rw [if_neg (by decide), List.length_append, floatL_1, floatL_1]
theorem complex_two (x y : Nat) : (complexL x y 2).length ≤ 21 := by
  have hx := floatL_len (x := x) (ver := 2)
  have hy := floatL_len (x := y) (ver := 2)
  unfold complexL
  rw [if_pos rfl]
  (repeat' split) <;> simp <;> omega
/-- Version 2 is never longer, but by some bytes. -/
theorem putC_short {k ty n : Int} {x y : Nat} {s : ByteArray} {kind : Int} (hk0 : 0 ≤ k) (h1 : errC k ty n x y s kind 1 = 0) (hn : -9223372036854775808 ≤ n ∧ n < 9223372036854775808) :
    1 ≤ (putC k ty n x y s kind 1).length ∧ (putC k ty n x y s kind 2).length ≤ (putC k ty n x y s kind 1).length + (if kind = 2 ∨ kind = 3 then 2 else if kind = 4 then 5 else 0) := by
  obtain ⟨hv, hr, hk, hkd⟩ := errC_zero hk0 h1
  rcases hk with rfl | rfl
  · unfold putC; rw [if_pos rfl, if_pos rfl]; exact ⟨Nat.le_refl _, Nat.le_add_right _ _⟩
  · obtain ⟨h3, h4⟩ := right_full hr
    have hz := right_zero h3
    cases hL : largeB 2 ty s with
    | true => rw [putC_large hL, putC_large hL]; exact ⟨by simp, by simp⟩
    | false =>
      rw [putC_small hL, putC_small hL, if_pos rfl, if_neg (by decide)]
      unfold largeB at hL
      rw [decide_eq_false_iff_not] at hL
      subst h4
      by_cases ht : ty = 5 ∨ ty = 6
      · have h64 : s.size ≤ 64 := by rcases Nat.lt_or_ge 64 s.size with h | h; exact absurd ⟨by first | rfl | trivial, ht, h⟩ hL; exact h
        rw [if_pos ht]
        have e : putL ty n x y s 1 = sevens s.size ++ strL s := by unfold putL; rw [if_neg (by omega), if_neg (by omega), if_neg (by omega), if_neg (by omega)]
        rw [e, sevens_lt (by omega), sevens_lt (by omega)]
        refine ⟨by simp, ?_⟩
        simp
        (repeat' split) <;> omega
      · rw [if_neg ht]
        have hx := sevens_len10 (x := rev x) rev_lt
        have hy := sevens_len10 (x := rev y) rev_lt
        have hzn := sevens_len10 (zig_lt n hn)
        have h5 : ty = 1 ∨ ty = 2 ∨ ty = 3 ∨ ty = 4 := by omega
        refine ⟨by simp, ?_⟩
        rcases h5 with rfl | rfl | rfl | rfl
        · simp [putL]
        · simp [putL, wordL_len]; omega
        · simp [putL, floatL, wordL_len]; omega
        · have c1 : (putL 4 n x y s 1).length = 16 := complex_one x y
          have c2 : (putL 4 n x y s 2).length ≤ 21 := complex_two x y
          simp only [List.length_cons, c1, show ¬ ((4 : Int) = 2 ∨ (4 : Int) = 3) by decide, if_false, if_true]
          omega

end Go.Proofs.Ytdbepkfblfhlhaa

/-
A reader that gave up stays as it is, in plain words.
-/
namespace Go.Proofs.Ytdbepkfblfhlhaa
open Go.RowKit

theorem gave_form {st : RS} (h : st.ok) (he : st.e ≠ 0) : st = ⟨[], st.e⟩ := by
  cases st; simp only at he; have := h.1 he; simp only at this; subst this; rfl
theorem uintR_gave {m : Nat} {e : Int} (he : e ≠ 0) : uintR m ⟨[], e⟩ = (0, ⟨[], e⟩) := by
  have h : giveS ⟨[], e⟩ 1 = ⟨[], e⟩ := giveS_gave 1 he
  unfold uintR
  have hd : digs ([] : List Int) 0 0 = (0, 0, 1) := rfl
  simp only [hd]
  exact (if_pos (by decide)).trans (congrArg (Prod.mk 0) h)
theorem bytesR_gave {n : Nat} {e : Int} (he : e ≠ 0) : bytesR n ⟨[], e⟩ = ([], ⟨[], e⟩) := by
  unfold bytesR
  split
  · rw [giveS_gave 1 he]
  · simp
theorem byteR_gave {e : Int} (he : e ≠ 0) : byteR ⟨[], e⟩ = (0, ⟨[], e⟩) := by unfold byteR; rw [bytesR_gave he]; rfl
theorem wordR_gave {e : Int} (he : e ≠ 0) : wordR ⟨[], e⟩ = (0, ⟨[], e⟩) := by unfold wordR; rw [bytesR_gave he]; rfl
theorem floatR_gave {ver : Int} {e : Int} (he : e ≠ 0) : (floatR ver ⟨[], e⟩).2 = ⟨[], e⟩ := by
  unfold floatR; split
  · rw [wordR_gave he]
  · simp only; rw [uintR_gave he]
theorem failS_gave {e x : Int} (he : e ≠ 0) : failS ⟨[], e⟩ x = ⟨[], e⟩ := by
  unfold failS; split
  · exact giveS_gave x he
  · rfl
theorem partR_gave {t : Bool} {e : Int} (he : e ≠ 0) : (partR t ⟨[], e⟩).2 = ⟨[], e⟩ := by
  unfold partR; split
  · simp only
    have h := floatR_gave (ver := 2) he
    rw [h]
    split
    · exact giveS_gave 3 he
    · rfl
  · rfl
theorem complexR_gave {ver : Int} {e : Int} (he : e ≠ 0) : (complexR ver ⟨[], e⟩).2 = ⟨[], e⟩ := by
  unfold complexR; split
  · simp only; rw [wordR_gave he]; simp only; rw [wordR_gave he]
  · simp only; rw [byteR_gave he]; simp only
    rw [if_neg (by decide), partR_gave he, partR_gave he]
theorem textR_gave {m : Nat} {e : Int} (he : e ≠ 0) : textR m ⟨[], e⟩ = ([], ⟨[], e⟩) := by
  unfold textR; simp only; rw [uintR_gave he]; simp only; rw [bytesR_gave he]
theorem bodyR_gave {kind ver : Int} {e : Int} (he : e ≠ 0) : (bodyR kind ver ⟨[], e⟩).2 = ⟨[], e⟩ := by
  unfold bodyR
  (repeat' split)
  · simp only; rw [byteR_gave he]
  · simp only; rw [wordR_gave he]
  · simp only [intR]; rw [uintR_gave he]
  · simp only; rw [floatR_gave he]
  · simp only; rw [complexR_gave he]
  · simp only; rw [textR_gave he]
  · rfl
theorem takeV_gave {kind ver : Int} {e : Int} (he : e ≠ 0) : (takeV kind ver ⟨[], e⟩).2 = ⟨[], e⟩ := by
  unfold takeV
  split
  · simp only
    rw [bodyR_gave he, failS_gave he, if_pos he]
  · exact giveS_gave 18 he

/-- What a first cell does behind its tag. -/
def tailC (kind : Int) (S : RS) : (K × Nat) × RS := if kind = 5 ∨ kind = 6 then textK kind (textR 64 S) else ((⟨2, (takeV kind 1 S).1⟩, 0), (takeV kind 1 S).2)
theorem tailC_gave {kind : Int} {e : Int} (he : e ≠ 0) : (tailC kind ⟨[], e⟩).2 = ⟨[], e⟩ := by
  unfold tailC
  split
  · rw [textR_gave he]; exact failS_gave he
  · exact takeV_gave he
theorem largeR_ok {st : RS} (h : st.ok) : (largeR st).2.ok := by
  unfold largeR; simp only; split
  · exact giveS_ok (uintR_ok h _) _
  · exact uintR_ok h _
theorem largeR_le {st : RS} : (largeR st).1 ≤ 2048 := by unfold largeR; exact uintR_le 2048
theorem textK_ok {kind : Int} {q : List Int × RS} (h : q.2.ok) : (textK kind q).2.ok := failS_ok h _
theorem firstC_ok {kind : Int} {st : RS} (h : st.ok) : (firstC kind st).2.ok := by
  have h1 := byteR_ok h
  unfold firstC
  simp only
  (repeat' split)
  · exact h1
  · exact giveS_ok h1 _
  · exact h1
  · exact largeR_ok h1
  · exact textK_ok (textR_ok h1 _)
  · exact takeV_ok h1 _ _
theorem secondC_ok {kind : Int} {st : RS} (h : st.ok) : (secondC kind st).2.ok := by
  have h1 := uintR_ok h 66
  unfold secondC
  simp only
  (repeat' split)
  · exact h1
  · exact h1
  · exact largeR_ok h1
  · exact textK_ok (bytesR_ok h1 _)
theorem preC_ok {kind ver : Int} {st : RS} (h : st.ok) : (preC kind ver st).2.ok := by
  unfold preC
  (repeat' split)
  · exact giveS_ok h _
  · exact giveS_ok h _
  · exact firstC_ok h
  · exact secondC_ok h
  · exact takeV_ok h _ _
theorem takeC_ok {kind ver : Int} {st : RS} (h : st.ok) : (takeC kind ver st).2.ok := by
  unfold takeC finC
  split
  · exact preC_ok h
  · exact preC_ok h
theorem giveS_nil {st : RS} {x : Int} (hx : x ≠ 0) (h : st.ok) : ∃ e, e ≠ 0 ∧ giveS st x = ⟨[], e⟩ := by
  unfold giveS
  split
  · exact ⟨x, hx, rfl⟩
  · rename_i he; exact ⟨st.e, he, gave_form h he⟩

end Go.Proofs.Ytdbepkfblfhlhaa

/-
Appending a text, and appending bytes, at a step of a region that draws its order.
-/
namespace Go.Proofs.Ytdbepkfblfhlhaa
open Go.RowKit

set_option maxRecDepth 20000 in
/-- Appending a text to what a call owns, at a step of a region that draws its order. -/
theorem step_app_str {w : World} {ops : Array Oper} {o : Oper} {a : Act} {K : Act → World → Prop} {Q : Exit → Act → World → Prop} {E : Prop} (hgd : o.guard = none) (s x : Operand)
    (ho : o.op = .call { callee := .builtin .append, args := #[s, x], argTypes := #[80, 9] })
    (base : Nat) (v : Value) (l : List Int) (hs : a.eval s = v) (hown : OB w base v l) (u : ByteArray) (hx : a.eval x = .string u)
    (h63 : l.length + u.size ≤ 1000000000) (hbase : base ≤ w.heap.size)
    (h : ∀ v' w', OB w' base v' (l ++ strL u) → w.grownBy w' v.ownBlock → K (a.put o.dst v') w') :
    if Region.wanted o (yielded ops a.tmps) = true then Oper.wp Try.prog o a w K Q else E := by
  have hw : Region.wanted o (yielded ops a.tmps) = true := by simp [Region.wanted, hgd]
  rw [if_pos hw]
  obtain ⟨i0, hi, hz0, hz1, hz2⟩ := info_parts Try.infoU8
  obtain ⟨v', w', hr, h2, h3, h4⟩ := Go.Lib.run_append_own_string (P := Try.prog) w base 80 9 o.type 5 i0 Try.underlying80 Try.underlying9 hi hz0 hz1 hz2 v _ _ hown u (by unfold maxLen; omega) (by omega) hbase
  unfold Oper.wp execOp
  simp only [ho, resolve, invoke, builtin, Sem.run_bind, Sem.run_pure, Result.andThen_ok, List.map_toArray, List.map_cons, List.map_nil, hs, hx, hr]
  refine h v' w' ?_ h3
  rw [bs_str] at h2
  exact OB.push h2 (by rw [strL_len])

set_option maxRecDepth 20000 in
/-- Appending bytes to what a call owns, at a step of a region that draws its order. -/
theorem step_app_nb {w : World} {ops : Array Oper} {o : Oper} {a : Act} {K : Act → World → Prop} {Q : Exit → Act → World → Prop} {E : Prop} (hgd : o.guard = none) (s x : Operand)
    (ho : o.op = .call { callee := .builtin .append, args := #[s, x], argTypes := #[80, 80] })
    (base : Nat) (v : Value) (l : List Int) (hs : a.eval s = v) (hown : OB w base v l) (u : Value) (m : List Int) (hx : a.eval x = u) (hu : NB w u m)
    (h63 : l.length + m.length ≤ 1000000000) (hbase : base ≤ w.heap.size)
    (h : ∀ v' w', OB w' base v' (l ++ m) → w.grownBy w' v.ownBlock → K (a.put o.dst v') w') :
    if Region.wanted o (yielded ops a.tmps) = true then Oper.wp Try.prog o a w K Q else E := by
  have hw : Region.wanted o (yielded ops a.tmps) = true := by simp [Region.wanted, hgd]
  rw [if_pos hw]
  obtain ⟨i0, hi, hz0, hz1, hz2⟩ := info_parts Try.infoU8
  have key : ∃ v' w', (Builtin.append_ #[80, 80] o.type #[v, u]).run Try.prog w = .ok v' w' ∧ OB w' base v' (l ++ m) ∧ w.grownBy w' v.ownBlock := by
    rcases hu with ⟨rfl, rfl⟩ | ⟨ad, cap, rfl, hn⟩
    · exact ⟨v, w, run_append_owned_none (P := Try.prog) (w := w) base 80 o.type 5 i0 1 Try.underlying80 hi v _ _ hown, by rw [List.append_nil]; exact hown, ⟨rfl, rfl, rfl, Nat.le_refl _, fun _ _ _ => rfl⟩⟩
    · obtain ⟨v', w', hr, h2, h3, _⟩ := run_append_own (P := Try.prog) w base 80 o.type 5 i0 _ 1 1 Try.underlying80 hi hz0 hz1 hz2 rfl (by decide) v _ _ hown ad m.length cap (bs m) (by rw [bs_len, Nat.mul_one]) hn (bs_one m) (by unfold maxLen; omega) (by omega) hbase
      exact ⟨v', w', hr, OB.push h2 rfl, h3⟩
  obtain ⟨v', w', hr, h2, h3⟩ := key
  unfold Oper.wp execOp
  simp only [ho, resolve, invoke, builtin, Sem.run_bind, Sem.run_pure, Result.andThen_ok, List.map_toArray, List.map_cons, List.map_nil, hs, hx, hr]
  exact h v' w' h2 h3

set_option maxRecDepth 20000 in
/-- A text as bytes, at a step of a region that draws its order. -/
theorem step_conv_str {w : World} {ops : Array Oper} {o : Oper} {a : Act} {K : Act → World → Prop} {Q : Exit → Act → World → Prop} {E : Prop} (hgd : o.guard = none) (x : Operand)
    (ho : o.op = .convert 9 80 x) (u : ByteArray) (hx : a.eval x = .string u)
    (h : ∀ v' w', Ext w w' → (∀ w2, Ext w' w2 → NB w2 v' (strL u)) → K (a.put o.dst v') w') :
    if Region.wanted o (yielded ops a.tmps) = true then Oper.wp Try.prog o a w K Q else E := by
  have hw : Region.wanted o (yielded ops a.tmps) = true := by simp [Region.wanted, hgd]
  rw [if_pos hw]
  have hr := conv_str w u
  have hN : ∀ w2, Ext (Go.Lib.bytesWorld w 5 u) w2 → NB w2 (.slice (some ⟨w.heap.size, 0, none⟩) u.size (grownCap w u.size 0 5)) (strL u) := by
    intro w2 h2
    have h0 : NB (Go.Lib.bytesWorld w 5 u) (.slice (some ⟨w.heap.size, 0, none⟩) u.size (grownCap w u.size 0 5)) (strL u) := .inr ⟨_, _, by rw [strL_len], news_bytesWorld w 5 u⟩
    refine h0.ext ?_ h2
    intro ad len cap e hl
    simp only [Value.slice.injEq, Option.some.injEq] at e
    obtain ⟨rfl, rfl, rfl⟩ := e
    rw [Go.Lib.bytesWorld_size]; exact Nat.lt_succ_self _
  unfold Oper.wp execOp
  simp only [ho, Sem.run_bind, Sem.run_pure, Result.andThen_ok, hx, hr]
  exact h _ _ (ext_bytesWorld w _ u) hN

theorem nb_conv {w w2 : World} {u : ByteArray} (h : Ext (Go.Lib.bytesWorld w 5 u) w2) : NB w2 (.slice (some ⟨w.heap.size, 0, none⟩) u.size (grownCap w u.size 0 5)) (strL u) := by
  have h0 : NB (Go.Lib.bytesWorld w 5 u) (.slice (some ⟨w.heap.size, 0, none⟩) u.size (grownCap w u.size 0 5)) (strL u) := .inr ⟨_, _, by rw [strL_len], news_bytesWorld w 5 u⟩
  refine h0.ext ?_ h
  intro ad len cap e hl
  simp only [Value.slice.injEq, Option.some.injEq] at e
  obtain ⟨rfl, rfl, rfl⟩ := e
  rw [Go.Lib.bytesWorld_size]; exact Nat.lt_succ_self _
theorem Ext.conv {w w1 : World} (h : Ext w w1) (e : TypeId) (u : ByteArray) : Ext w (Go.Lib.bytesWorld w1 e u) := h.trans (ext_bytesWorld _ _ _)

end Go.Proofs.Ytdbepkfblfhlhaa
