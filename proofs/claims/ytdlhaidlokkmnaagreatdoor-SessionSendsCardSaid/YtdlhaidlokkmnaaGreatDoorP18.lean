/-
The reference's KeyOf, keyed, IsKey, IsFull, Merge.
-/
import Derived.Test.YtdlhaidlokkmnaaGreatDoorP17
import Derived.Test.YtdlhaidlokkmnaaGreatDoorP6
set_option maxRecDepth 100000
set_option maxHeartbeats 16000000
namespace Go.Proofs.YtdlhaidlokkmnaaGreatDoor
open Go.RowKit
theorem keyOf_len {cols : List Col} {l : List K} : (keyOf cols l).length = l.length := by simp [keyOf]
theorem keyOf_get {cols : List Col} {l : List K} {i : Nat} (h : i < (keyOf cols l).length) : (keyOf cols l)[i] = if isKeyAt cols i = true then l[i]'(by rw [keyOf_len] at h; exact h) else K.zero := by simp [keyOf]
theorem isKeyAt_lt {cols : List Col} {i : Nat} (h : i < cols.length) : isKeyAt cols i = cols[i].key := by unfold isKeyAt; rw [List.getElem?_eq_getElem h]; rfl
theorem isKeyAt_ge {cols : List Col} {i : Nat} (h : cols.length ≤ i) : isKeyAt cols i = false := by unfold isKeyAt; rw [List.getElem?_eq_none h]; rfl
def nonE (cols : List Col) (l : List K) (i : Nat) : Int := if isKeyAt cols i = false ∧ kindAt l i ≠ 0 then 14 else 0
def isKeyE (l : List K) (r : Rl) : Int := if keyedE l r ≠ 0 then keyedE l r else firstE (nonE r.cols l) l.length
def sameE (l : List K) (i : Nat) : Int := if kindAt l i = 1 then 14 else 0
def isFullE (l : List K) (r : Rl) : Int := if keyedE l r ≠ 0 then keyedE l r else firstE (sameE l) l.length
theorem keyed_fits {l : List K} {r : Rl} (h : keyedE l r = 0) : fitsE l r = 0 := by
  unfold keyedE at h
  split at h
  · rename_i h1; exact absurd h h1
  · rename_i h1; simpa using h1
theorem rkeyOf_any (l : List K) (a : Option Addr) (cap : Nat) (oid ver : Int) (nm : ByteArray) (id : Int) (cols : List Col) (a2 : Option Addr) (cap2 : Nat) (w : World) (hl : Sl w (.slice a l.length cap) 6 (l.map K.rc)) (hl2 : Sl w (.slice a2 cols.length cap2) 3 (cols.map Col.cells)) (hlen : l.length ≤ 1000) (_hlen2 : cols.length ≤ 1000) :
    Calls Tryz.prog 135 #[.agg #[.int .u32 oid, .int .u32 ver, .string nm, .int .u8 id, .slice a2 cols.length cap2], .slice a l.length cap] w fun e w' => ∃ a' cap', e = .returned (.slice a' l.length cap') ∧ Sl w' (.slice a' l.length cap') 6 ((keyOf cols l).map K.rc) ∧ Ext w w' := by
  have HL := Hm hl
  have HL2 := Hm hl2
  clear hl hl2
  obtain ⟨i0, hi, hz0, hz1, hz2⟩ := info_parts Tryz.infoCellR
  go_enter Tryz.func135, Tryz.ntmps135
  go_wp2
  go_loopw [5, 6] (fun v i wr => ∃ k : Nat, k ≤ l.length ∧ i = .int .i64 k ∧ Hid (wr.ownsRow (w.heap.size + 1) 97 6 v k (((keyOf cols l).map K.rc).take k).flatten) ∧ Hid (Ext (w.alloc (.cells #[.int .u32 oid, .int .u32 ver, .string nm, .int .u8 id, .slice a2 cols.length cap2] 55)) wr)) (fun _ i _ => l.length - (intOf i).toNat)
  case atStart => exact ⟨0, Nat.zero_le _, rfl, World.ownsRow_nil _ _ _ _, Ext.refl _⟩
  case round =>
    obtain ⟨k, hk, rfl, hown, hE⟩ := hrel
    have hEw : Hid (Ext w wr) := Hm (((Ext.refl w).alloc _).trans hE.out)
    by_cases hlt : k < l.length
    · have hBx := (Blk.new w #[.int .u32 oid, .int .u32 ver, .string nm, .int .u8 id, .slice a2 cols.length cap2] 55).ext hE.out
      have g0 := hBx.cell
      have z0 := hBx.lt
      obtain ⟨b, o, rfl, hb, hx⟩ := HL.out.at_ (i := k) (by simpa using hlt)
      obtain ⟨f0, f1, f2, f3, f4, f5⟩ := K.rcAt hlt hx hb hEw.out
      have hbw : b < wr.heap.size := Nat.lt_of_lt_of_le hb hEw.out.size
      have hkl : k < (keyOf cols l).length := by rw [keyOf_len]; exact hlt
      have HT := Hm (flat_snoc (f := K.rc) hkl)
      rw [keyOf_get] at HT
      clear hx hBx
      cases hq : isKeyAt cols k with
      | true =>
        have hkc : k < cols.length := by
          rcases Nat.lt_or_ge k cols.length with h | h
          · exact h
          · rw [isKeyAt_ge h] at hq; cases hq
        obtain ⟨b2, o2, rfl, hb2, hx2⟩ := HL2.out.at_ (i := k) (by simpa using hkc)
        obtain ⟨p0, p1, p2⟩ := Col.at_ hkc hx2 hb2 hEw.out
        have hbw2 : b2 < wr.heap.size := Nat.lt_of_lt_of_le hb2 hEw.out.size
        rw [isKeyAt_lt hkc] at hq
        rw [hq] at p2
        rw [if_pos (by rw [isKeyAt_lt hkc]; exact hq)] at HT
        obtain ⟨c, hc⟩ : ∃ c, c = l[k] := ⟨_, rfl⟩
        rw [← hc] at f0 f1 f2 f3 f4 f5 HT
        clear hx2 hq hc
        go_wp2_with (at_builtin; refine wpList_append_own _ rfl _ _ 48 rfl (w.heap.size + 1) 97 i0 _ 6 56 Tryz.underlying48 hi hz0 hz1 hz2 rfl (by decide) _ _ _ rfl (hown.out.alloc _) ⟨_, 0, none⟩ 1 1 c.rc rfl rfl ?c1 ?c2 ?c3 ?c4 ?c5 ?_)
        case c1 => exact cells_new _ #[.int .u8 c.k, .int .u8 c.v.ty, .int .i64 c.v.n, .int .u64 c.v.x, .int .u64 c.v.y, .string c.v.s] _
        case c2 => intro u hu; simp [K.rc] at hu; rcases hu with rfl | rfl | rfl | rfl | rfl | rfl <;> rfl
        case c3 => unfold maxLen; omega
        case c4 => omega
        case c5 => simp; omega
        intro v' w2 hown' hgrow _
        have HE2 := Hm (Below.grown (hE.out.alloc _) hgrow (by have := hE.out.size; rw [World.size_alloc] at this ⊢; rw [World.size_alloc]; omega) (fun g hg => by have h9 := (hown.out.lt g hg).1; rw [World.size_alloc]; exact h9))
        have HO2 := Hm hown'
        clear hown' hgrow
        go_wp2
        go_roundw
        case rel => exact ⟨k + 1, by omega, by go_num, Hm (by rw [HT.out]; exact HO2.out), HE2⟩
        case measure => simp [intOf]; omega
      | false =>
        rw [if_neg (by rw [hq]; simp)] at HT
        by_cases hkc : k < cols.length
        · obtain ⟨b2, o2, rfl, hb2, hx2⟩ := HL2.out.at_ (i := k) (by simpa using hkc)
          obtain ⟨p0, p1, p2⟩ := Col.at_ hkc hx2 hb2 hEw.out
          have hbw2 : b2 < wr.heap.size := Nat.lt_of_lt_of_le hb2 hEw.out.size
          rw [isKeyAt_lt hkc] at hq
          rw [hq] at p2
          clear hx2 hq
          go_wp2_with (at_builtin; refine wpList_append_own _ rfl _ _ 48 rfl (w.heap.size + 1) 97 i0 _ 6 56 Tryz.underlying48 hi hz0 hz1 hz2 rfl (by decide) _ _ _ rfl (hown.out.alloc _) ⟨_, 0, none⟩ 1 1 K.zero.rc rfl rfl ?c1 ?c2 ?c3 ?c4 ?c5 ?_)
          case c1 => exact cells_new _ #[.int .u8 0, .int .u8 0, .int .i64 0, .int .u64 0, .int .u64 0, .string ByteArray.empty] _
          case c2 => intro u hu; simp [K.rc] at hu; rcases hu with rfl | rfl | rfl | rfl | rfl | rfl <;> rfl
          case c3 => unfold maxLen; omega
          case c4 => omega
          case c5 => simp; omega
          intro v' w2 hown' hgrow _
          have HE2 := Hm (Below.grown (hE.out.alloc _) hgrow (by have := hE.out.size; rw [World.size_alloc] at this ⊢; rw [World.size_alloc]; omega) (fun g hg => by have h9 := (hown.out.lt g hg).1; rw [World.size_alloc]; exact h9))
          have HO2 := Hm hown'
          clear hown' hgrow
          go_wp2
          go_roundw
          case rel => exact ⟨k + 1, by omega, by go_num, Hm (by rw [HT.out]; exact HO2.out), HE2⟩
          case measure => simp [intOf]; omega
        · have hkc' : cols.length ≤ k := by omega
          clear hq hkc
          go_wp2_with (at_builtin; refine wpList_append_own _ rfl _ _ 48 rfl (w.heap.size + 1) 97 i0 _ 6 56 Tryz.underlying48 hi hz0 hz1 hz2 rfl (by decide) _ _ _ rfl (hown.out.alloc _) ⟨_, 0, none⟩ 1 1 K.zero.rc rfl rfl ?c1 ?c2 ?c3 ?c4 ?c5 ?_)
          case c1 => exact cells_new _ #[.int .u8 0, .int .u8 0, .int .i64 0, .int .u64 0, .int .u64 0, .string ByteArray.empty] _
          case c2 => intro u hu; simp [K.rc] at hu; rcases hu with rfl | rfl | rfl | rfl | rfl | rfl <;> rfl
          case c3 => unfold maxLen; omega
          case c4 => omega
          case c5 => simp; omega
          intro v' w2 hown' hgrow _
          have HE2 := Hm (Below.grown (hE.out.alloc _) hgrow (by have := hE.out.size; rw [World.size_alloc] at this ⊢; rw [World.size_alloc]; omega) (fun g hg => by have h9 := (hown.out.lt g hg).1; rw [World.size_alloc]; exact h9))
          have HO2 := Hm hown'
          clear hown' hgrow
          go_wp2
          go_roundw
          case rel => exact ⟨k + 1, by omega, by go_num, Hm (by rw [HT.out]; exact HO2.out), HE2⟩
          case measure => simp [intOf]; omega
    · have hkk : k = l.length := by omega
      subst hkk
      rw [show l.length = ((keyOf cols l).map K.rc).length by rw [List.length_map, keyOf_len], List.take_length] at hown
      rw [List.length_map, keyOf_len] at hown
      obtain ⟨a', c', rfl⟩ := owns_shape hown.out
      go_wp2
      go_ret
      refine ⟨a', c', rfl, Sl.of_owns (base := w.heap.size + 1) (e := 97) ?_ ?_, hEw.out⟩
      · rw [List.length_map, keyOf_len]; exact hown.out
      · intro xs hxs; simp at hxs; obtain ⟨a, _, rfl⟩ := hxs; rfl
theorem rkeyed_any (l : List K) (a : Option Addr) (cap : Nat) (oid ver : Int) (nm : ByteArray) (id : Int) (cols : List Col) (a2 : Option Addr) (cap2 : Nat) (w : World) (hl : Sl w (.slice a l.length cap) 6 (l.map K.rc)) (hl2 : Sl w (.slice a2 cols.length cap2) 3 (cols.map Col.cells)) (hlen : l.length ≤ 1000) (hlen2 : cols.length ≤ 1000) (hs : ∀ c ∈ l, c.wk) (hs2 : ∀ c ∈ cols, c.nm.size ≤ 9223372036854775807) (hnm : nm.size ≤ 9223372036854775807) :
    Calls Tryz.prog 134 #[.agg #[.int .u32 oid, .int .u32 ver, .string nm, .int .u8 id, .slice a2 cols.length cap2], .slice a l.length cap] w fun e w' => e = .returned (.int .i64 (keyedE l (⟨oid, ver, nm, id, cols⟩ : Rl))) ∧ Ext w w' := by
  have HFT := Hm (fun W (h : Ext w W) => rfits_any l a cap oid ver nm id cols a2 cap2 W (hl.ext h) (hl2.ext h) hlen hlen2 hs hs2 hnm)
  have HL := Hm hl
  have HL2 := Hm hl2
  have HKE : Hid (keyedE l (⟨oid, ver, nm, id, cols⟩ : Rl) = if fitsE l (⟨oid, ver, nm, id, cols⟩ : Rl) ≠ 0 then fitsE l (⟨oid, ver, nm, id, cols⟩ : Rl) else firstE (keyE cols l) l.length) := Hm rfl
  obtain ⟨E, hE⟩ : ∃ E, E = fitsE l (⟨oid, ver, nm, id, cols⟩ : Rl) := ⟨_, rfl⟩
  rw [← hE] at HFT HKE
  have HEQ := Hm hE
  clear hl hl2 hs hs2 hE
  by_cases h0 : E = 0
  case neg =>
    have HKE2 := Hm (HKE.out.trans (if_pos h0))
    have h0' : (E != 0) = true := by simpa using h0
    clear h0 HKE HEQ
    go_enter Tryz.func134, Tryz.ntmps134
    go_wp2_with (go_at_call 157; refine (HFT.out _ (by exact eX)).mono ?_; rintro e w1 ⟨rfl, hb1⟩; have hE1 : Ext w w1 := (by exact eX))
    go_ret
    exact ⟨ret_int HKE2.out.symm, hE1⟩
  subst h0
  have HKE2 := Hm (HKE.out.trans (if_neg (by simp)))
  have hfz := fits_zero HEQ.out.symm
  have hll : l.length = cols.length := hfz.2.1
  have hle : l.length ≤ cols.length := by omega
  clear HKE HEQ hfz hll
  go_enter Tryz.func134, Tryz.ntmps134
  go_wp2_with (go_at_call 157; refine (HFT.out _ (by exact eX)).mono ?_; rintro e w1 ⟨rfl, hb1⟩; have hE1 := Hm hb1; clear hb1)
  go_loopw [6] (fun i wr => ∃ k : Nat, k ≤ l.length ∧ i = .int .i64 k ∧ Hid (∀ j, j < k → keyE cols l j = 0) ∧ Hid (Ext (w.alloc (.cells #[.int .u32 oid, .int .u32 ver, .string nm, .int .u8 id, .slice a2 cols.length cap2] 55)) wr)) (fun i _ => l.length - (intOf i).toNat)
  case atStart => exact ⟨0, Nat.zero_le _, rfl, fun j h => by omega, hE1⟩
  case round =>
    obtain ⟨k, hk, rfl, hrel, hE⟩ := hrel
    have hEw : Hid (Ext w wr) := Hm (((Ext.refl w).alloc _).trans hE.out)
    by_cases hlt : k < l.length
    · have hlt2 : k < cols.length := by omega
      have hBx := (Blk.new w #[.int .u32 oid, .int .u32 ver, .string nm, .int .u8 id, .slice a2 cols.length cap2] 55).ext hE.out
      have g0 := hBx.cell
      have z0 := hBx.lt
      obtain ⟨b, o, rfl, hb, hx⟩ := HL.out.at_ (i := k) (by simpa using hlt)
      obtain ⟨f0, f1, f2, f3, f4, f5⟩ := K.rcAt hlt hx hb hEw.out
      obtain ⟨b2, o2, rfl, hb2, hx2⟩ := HL2.out.at_ (i := k) (by simpa using hlt2)
      obtain ⟨p0, p1, p2⟩ := Col.at_ hlt2 hx2 hb2 hEw.out
      have hbw : b < wr.heap.size := Nat.lt_of_lt_of_le hb hEw.out.size
      have hbw2 : b2 < wr.heap.size := Nat.lt_of_lt_of_le hb2 hEw.out.size
      have hKX : keyE cols l k = if cols[k].key = true then kindE l[k].k else 0 := by unfold keyE; rw [isKeyAt_lt hlt2, kindAt_lt hlt]
      clear hx hx2 hBx
      cases hq : cols[k].key with
      | false =>
        have HZ := Hm (hKX.trans (if_neg (by rw [hq]; simp)))
        rw [hq] at p2
        clear hq hKX
        go_wp2
        go_roundw
        case rel => exact ⟨k + 1, by omega, by go_num, fun j hj => by
          by_cases e : j = k
          · subst e; exact HZ.out
          · exact hrel.out j (by omega), hE⟩
        case measure => simp [intOf]; omega
      | true =>
        have HZ := Hm (hKX.trans (if_pos hq))
        rw [hq] at p2
        clear hq hKX
        by_cases hk0 : l[k].k = 0
        · have HR := Hm (HKE2.out.trans (show firstE (keyE cols l) l.length = 12 by rw [firstE_at hrel.out hlt (by rw [HZ.out, hk0]; decide), HZ.out, hk0]; rfl))
          rw [hk0] at f0
          clear hk0
          go_wp2
          go_ret
          exact ⟨ret_int HR.out.symm, hEw.out⟩
        · by_cases hk1 : l[k].k = 1
          · have HR := Hm (HKE2.out.trans (show firstE (keyE cols l) l.length = 13 by rw [firstE_at hrel.out hlt (by rw [HZ.out, hk1]; decide), HZ.out, hk1]; rfl))
            rw [hk1] at f0
            clear hk0 hk1
            go_wp2
            go_ret
            exact ⟨ret_int HR.out.symm, hEw.out⟩
          · have e0 : (l[k].k == 0) = false := by simpa using hk0
            have e1 : (l[k].k == 1) = false := by simpa using hk1
            have HZ2 := Hm (HZ.out.trans (show kindE l[k].k = 0 by unfold kindE; rw [if_neg hk0, if_neg hk1]))
            clear hk0 hk1
            go_wp2
            go_roundw
            case rel => exact ⟨k + 1, by omega, by go_num, fun j hj => by
              by_cases e : j = k
              · subst e; exact HZ2.out
              · exact hrel.out j (by omega), hE⟩
            case measure => simp [intOf]; omega
    · have hkk : k = l.length := by omega
      have HR := Hm (HKE2.out.trans (firstE_zero (fun i hi => hrel.out i (by omega))))
      subst hkk
      go_wp2
      go_ret
      exact ⟨ret_int HR.out.symm, hEw.out⟩
theorem risKey_any (l : List K) (a : Option Addr) (cap : Nat) (oid ver : Int) (nm : ByteArray) (id : Int) (cols : List Col) (a2 : Option Addr) (cap2 : Nat) (w : World) (hl : Sl w (.slice a l.length cap) 6 (l.map K.rc)) (hl2 : Sl w (.slice a2 cols.length cap2) 3 (cols.map Col.cells)) (hlen : l.length ≤ 1000) (hlen2 : cols.length ≤ 1000) (hs : ∀ c ∈ l, c.wk) (hs2 : ∀ c ∈ cols, c.nm.size ≤ 9223372036854775807) (hnm : nm.size ≤ 9223372036854775807) :
    Calls Tryz.prog 132 #[.agg #[.int .u32 oid, .int .u32 ver, .string nm, .int .u8 id, .slice a2 cols.length cap2], .slice a l.length cap] w fun e w' => e = .returned (.int .i64 (isKeyE l (⟨oid, ver, nm, id, cols⟩ : Rl))) ∧ Ext w w' := by
  have HFT := Hm (fun W (h : Ext w W) => rkeyed_any l a cap oid ver nm id cols a2 cap2 W (hl.ext h) (hl2.ext h) hlen hlen2 hs hs2 hnm)
  have HL := Hm hl
  have HL2 := Hm hl2
  have HKE : Hid (isKeyE l (⟨oid, ver, nm, id, cols⟩ : Rl) = if keyedE l (⟨oid, ver, nm, id, cols⟩ : Rl) ≠ 0 then keyedE l (⟨oid, ver, nm, id, cols⟩ : Rl) else firstE (nonE cols l) l.length) := Hm rfl
  obtain ⟨E, hE⟩ : ∃ E, E = keyedE l (⟨oid, ver, nm, id, cols⟩ : Rl) := ⟨_, rfl⟩
  rw [← hE] at HFT HKE
  have HEQ := Hm hE
  clear hl hl2 hs hs2 hE
  by_cases h0 : E = 0
  case neg =>
    have HKE2 := Hm (HKE.out.trans (if_pos h0))
    have h0' : (E != 0) = true := by simpa using h0
    clear h0 HKE HEQ
    go_enter Tryz.func132, Tryz.ntmps132
    go_wp2_with (go_at_call 134; refine (HFT.out _ (by exact eX)).mono ?_; rintro e w1 ⟨rfl, hb1⟩; have hE1 : Ext w w1 := (by exact eX))
    go_ret
    exact ⟨ret_int HKE2.out.symm, hE1⟩
  subst h0
  have HKE2 := Hm (HKE.out.trans (if_neg (by simp)))
  have hfz := fits_zero (keyed_fits HEQ.out.symm)
  have hll : l.length = cols.length := hfz.2.1
  have hle : l.length ≤ cols.length := by omega
  clear HKE HEQ hfz hll
  go_enter Tryz.func132, Tryz.ntmps132
  go_wp2_with (go_at_call 134; refine (HFT.out _ (by exact eX)).mono ?_; rintro e w1 ⟨rfl, hb1⟩; have hE1 := Hm hb1; clear hb1)
  go_loopw [6] (fun i wr => ∃ k : Nat, k ≤ l.length ∧ i = .int .i64 k ∧ Hid (∀ j, j < k → nonE cols l j = 0) ∧ Hid (Ext (w.alloc (.cells #[.int .u32 oid, .int .u32 ver, .string nm, .int .u8 id, .slice a2 cols.length cap2] 55)) wr)) (fun i _ => l.length - (intOf i).toNat)
  case atStart => exact ⟨0, Nat.zero_le _, rfl, fun j h => by omega, hE1⟩
  case round =>
    obtain ⟨k, hk, rfl, hrel, hE⟩ := hrel
    have hEw : Hid (Ext w wr) := Hm (((Ext.refl w).alloc _).trans hE.out)
    by_cases hlt : k < l.length
    · have hlt2 : k < cols.length := by omega
      have hBx := (Blk.new w #[.int .u32 oid, .int .u32 ver, .string nm, .int .u8 id, .slice a2 cols.length cap2] 55).ext hE.out
      have g0 := hBx.cell
      have z0 := hBx.lt
      obtain ⟨b, o, rfl, hb, hx⟩ := HL.out.at_ (i := k) (by simpa using hlt)
      obtain ⟨f0, f1, f2, f3, f4, f5⟩ := K.rcAt hlt hx hb hEw.out
      obtain ⟨b2, o2, rfl, hb2, hx2⟩ := HL2.out.at_ (i := k) (by simpa using hlt2)
      obtain ⟨p0, p1, p2⟩ := Col.at_ hlt2 hx2 hb2 hEw.out
      have hbw : b < wr.heap.size := Nat.lt_of_lt_of_le hb hEw.out.size
      have hbw2 : b2 < wr.heap.size := Nat.lt_of_lt_of_le hb2 hEw.out.size
      have hKX : nonE cols l k = if cols[k].key = false ∧ l[k].k ≠ 0 then 14 else 0 := by unfold nonE; rw [isKeyAt_lt hlt2, kindAt_lt hlt]
      clear hx hx2 hBx
      cases hq : cols[k].key with
      | true =>
        have HZ := Hm (hKX.trans (if_neg (by rw [hq]; simp)))
        rw [hq] at p2
        clear hq hKX
        go_wp2
        go_roundw
        case rel => exact ⟨k + 1, by omega, by go_num, fun j hj => by
          by_cases e : j = k
          · subst e; exact HZ.out
          · exact hrel.out j (by omega), hE⟩
        case measure => simp [intOf]; omega
      | false =>
        by_cases hk0 : l[k].k = 0
        · have HZ := Hm (hKX.trans (if_neg (by rw [hk0]; simp)))
          rw [hq] at p2
          rw [hk0] at f0
          clear hk0 hq hKX
          go_wp2
          go_roundw
          case rel => exact ⟨k + 1, by omega, by go_num, fun j hj => by
            by_cases e : j = k
            · subst e; exact HZ.out
            · exact hrel.out j (by omega), hE⟩
          case measure => simp [intOf]; omega
        · have e0 : (l[k].k != 0) = true := by simpa using hk0
          have HZ := hKX.trans (if_pos ⟨hq, hk0⟩)
          have HR := Hm (HKE2.out.trans (show firstE (nonE cols l) l.length = 14 by rw [firstE_at hrel.out hlt (by rw [HZ]; decide), HZ]))
          rw [hq] at p2
          clear hk0 hq hKX HZ
          go_wp2
          go_ret
          exact ⟨ret_int HR.out.symm, hEw.out⟩
    · have hkk : k = l.length := by omega
      have HR := Hm (HKE2.out.trans (firstE_zero (fun i hi => hrel.out i (by omega))))
      subst hkk
      go_wp2
      go_ret
      exact ⟨ret_int HR.out.symm, hEw.out⟩
theorem risFull_any (l : List K) (a : Option Addr) (cap : Nat) (oid ver : Int) (nm : ByteArray) (id : Int) (cols : List Col) (a2 : Option Addr) (cap2 : Nat) (w : World) (hl : Sl w (.slice a l.length cap) 6 (l.map K.rc)) (hl2 : Sl w (.slice a2 cols.length cap2) 3 (cols.map Col.cells)) (hlen : l.length ≤ 1000) (hlen2 : cols.length ≤ 1000) (hs : ∀ c ∈ l, c.wk) (hs2 : ∀ c ∈ cols, c.nm.size ≤ 9223372036854775807) (hnm : nm.size ≤ 9223372036854775807) :
    Calls Tryz.prog 133 #[.agg #[.int .u32 oid, .int .u32 ver, .string nm, .int .u8 id, .slice a2 cols.length cap2], .slice a l.length cap] w fun e w' => e = .returned (.int .i64 (isFullE l (⟨oid, ver, nm, id, cols⟩ : Rl))) ∧ Ext w w' := by
  have HFT := Hm (fun W (h : Ext w W) => rkeyed_any l a cap oid ver nm id cols a2 cap2 W (hl.ext h) (hl2.ext h) hlen hlen2 hs hs2 hnm)
  have HL := Hm hl
  have HKE : Hid (isFullE l (⟨oid, ver, nm, id, cols⟩ : Rl) = if keyedE l (⟨oid, ver, nm, id, cols⟩ : Rl) ≠ 0 then keyedE l (⟨oid, ver, nm, id, cols⟩ : Rl) else firstE (sameE l) l.length) := Hm rfl
  obtain ⟨E, hE⟩ : ∃ E, E = keyedE l (⟨oid, ver, nm, id, cols⟩ : Rl) := ⟨_, rfl⟩
  rw [← hE] at HFT HKE
  clear hl hl2 hs hs2 hE
  by_cases h0 : E = 0
  case neg =>
    have HKE2 := Hm (HKE.out.trans (if_pos h0))
    have h0' : (E != 0) = true := by simpa using h0
    clear h0 HKE
    go_enter Tryz.func133, Tryz.ntmps133
    go_wp2_with (go_at_call 134; refine (HFT.out _ (by exact eX)).mono ?_; rintro e w1 ⟨rfl, hb1⟩; have hE1 : Ext w w1 := (by exact eX))
    go_ret
    exact ⟨ret_int HKE2.out.symm, hE1⟩
  subst h0
  have HKE2 := Hm (HKE.out.trans (if_neg (by simp)))
  clear HKE
  go_enter Tryz.func133, Tryz.ntmps133
  go_wp2_with (go_at_call 134; refine (HFT.out _ (by exact eX)).mono ?_; rintro e w1 ⟨rfl, hb1⟩; have hE1 := Hm hb1; clear hb1)
  go_loopw [6] (fun i wr => ∃ k : Nat, k ≤ l.length ∧ i = .int .i64 k ∧ Hid (∀ j, j < k → sameE l j = 0) ∧ Hid (Ext (w.alloc (.cells #[.int .u32 oid, .int .u32 ver, .string nm, .int .u8 id, .slice a2 cols.length cap2] 55)) wr)) (fun i _ => l.length - (intOf i).toNat)
  case atStart => exact ⟨0, Nat.zero_le _, rfl, fun j h => by omega, hE1⟩
  case round =>
    obtain ⟨k, hk, rfl, hrel, hE⟩ := hrel
    have hEw : Hid (Ext w wr) := Hm (((Ext.refl w).alloc _).trans hE.out)
    by_cases hlt : k < l.length
    · obtain ⟨b, o, rfl, hb, hx⟩ := HL.out.at_ (i := k) (by simpa using hlt)
      obtain ⟨f0, f1, f2, f3, f4, f5⟩ := K.rcAt hlt hx hb hEw.out
      have hbw : b < wr.heap.size := Nat.lt_of_lt_of_le hb hEw.out.size
      have hKX : sameE l k = if l[k].k = 1 then 14 else 0 := by unfold sameE; rw [kindAt_lt hlt]
      clear hx
      by_cases hk0 : l[k].k = 1
      · have HZ := hKX.trans (if_pos hk0)
        have HR := Hm (HKE2.out.trans (show firstE (sameE l) l.length = 14 by rw [firstE_at hrel.out hlt (by rw [HZ]; decide), HZ]))
        rw [hk0] at f0
        clear hk0 hKX HZ
        go_wp2
        go_ret
        exact ⟨ret_int HR.out.symm, hEw.out⟩
      · have e0 : (l[k].k == 1) = false := by simpa using hk0
        have HZ := Hm (hKX.trans (if_neg hk0))
        clear hk0 hKX
        go_wp2
        go_roundw
        case rel => exact ⟨k + 1, by omega, by go_num, fun j hj => by
          by_cases e : j = k
          · subst e; exact HZ.out
          · exact hrel.out j (by omega), hE⟩
        case measure => simp [intOf]; omega
    · have hkk : k = l.length := by omega
      have HR := Hm (HKE2.out.trans (firstE_zero (fun i hi => hrel.out i (by omega))))
      subst hkk
      go_wp2
      go_ret
      exact ⟨ret_int HR.out.symm, hEw.out⟩
theorem K.zero_of {c : K} (h : c.k = 0) (h1 : c.v.ty = 0) (h2 : c.v.n = 0) (h3 : (c.v.x : Int) = 0) (h4 : (c.v.y : Int) = 0) (h5 : c.v.s.size = 0) : c = K.zero := by
  obtain ⟨k, ty, n, x, y, s⟩ := c
  simp only at h h1 h2 h3 h4 h5
  subst h h1 h2
  obtain rfl : x = 0 := by omega
  obtain rfl : y = 0 := by omega
  obtain rfl : s = ByteArray.empty := (size_zero s).2 h5
  rfl
theorem isKey_row {l : List K} {r : Rl} (h : keyedE l r = 0) (_hk : ∀ c ∈ l, c.wk) : rowB l (keyOf r.cols l) = decide (firstE (nonE r.cols l) l.length = 0) := by
  obtain ⟨-, hll, hr⟩ := fits_zero (keyed_fits h)
  rw [Bool.eq_iff_iff, rowB_true, decide_eq_true_iff]
  constructor
  · intro e
    refine firstE_zero fun i hi => ?_
    unfold nonE
    rw [if_neg]
    rintro ⟨h1, h2⟩
    rw [kindAt_lt hi] at h2
    have hi2 : i < (keyOf r.cols l).length := by rw [keyOf_len]; exact hi
    have e2 : l[i] = (keyOf r.cols l)[i] := by
      have := congrArg (fun m : List K => m[i]?) e
      simp only [List.getElem?_eq_getElem hi, List.getElem?_eq_getElem hi2] at this
      exact Option.some.inj this
    rw [keyOf_get, if_neg (by rw [h1]; simp)] at e2
    exact h2 (by rw [e2]; rfl)
  · intro h0
    apply List.ext_getElem
    · rw [keyOf_len]
    · intro i h1 h2
      rw [keyOf_get]
      by_cases hq : isKeyAt r.cols i = true
      · rw [if_pos hq]
      · rw [if_neg hq]
        have := firstE_all h0 i h1
        unfold nonE at this
        have hz : l[i].k = 0 := by
          refine Classical.byContradiction fun hc => ?_
          rw [if_pos ⟨by simpa using hq, by rw [kindAt_lt h1]; exact hc⟩] at this
          cases this
        have hrt := hr i h1 (by omega)
        unfold K.right at hrt
        rw [hz] at hrt
        obtain ⟨z1, z2, z3, z4, z5, -⟩ := right_same (by decide) hrt
        exact K.zero_of hz z1 z2 z3 z4 z5
theorem samef_any (c : K) (w : World) :
    Calls Tryz.prog 147 #[.agg #[.int .u8 c.k, .int .u8 c.v.ty, .int .i64 c.v.n, .complex .f64 c.v.x c.v.y, .string c.v.s]] w fun e w' => e = .returned (.bool (c.k == 1)) ∧ Ext w w' := by
  go_enter Tryz.func147, Tryz.ntmps147
  go_wp2
  go_ret
  exact ⟨rfl, by exact eX⟩
theorem sameidx_any (l : List K) (a : Option Addr) (cap : Nat) (w : World) (hl : Sl w (.slice a l.length cap) 5 (l.map K.pc)) (hlen : l.length ≤ 1000) :
    Calls Tryz.prog 163 #[.slice a l.length cap, .func (.func 147) #[] #[]] w (IdxPost l (fun c => c.k == 1) w) := by
  have HL := Hm hl
  clear hl
  go_enter Tryz.func163, Tryz.ntmps163
  go_wp2
  go_loopw [8] (fun i wr => ∃ k : Nat, k ≤ l.length ∧ i = .int .i64 k ∧ Hid (∀ j (hj : j < l.length), j < k → (l[j].k == 1) = false) ∧ Hid (Ext w wr)) (fun i _ => l.length - (intOf i).toNat)
  case atStart => exact ⟨0, Nat.zero_le _, rfl, fun j _ h => by omega, Ext.refl _⟩
  case round =>
    obtain ⟨k, hk, rfl, hrel, hE⟩ := hrel
    by_cases hlt : k < l.length
    · obtain ⟨b, o, rfl, hb, hx⟩ := HL.out.at_ (i := k) (by simpa using hlt)
      obtain ⟨f0, f1, f2, f3, f4⟩ := K.pcAt hlt hx hb hE.out
      have hbw : b < wr.heap.size := Nat.lt_of_lt_of_le hb hE.out.size
      have HF := Hm (fun W => samef_any l[k] W)
      cases hq : (l[k].k == 1) with
      | true =>
        rw [hq] at HF
        have HQ := Hm (any_at (p := fun c : K => c.k == 1) hlt hq)
        clear hq hx
        go_wp2_with (go_at_call 147; refine (HF.out _).mono ?_; rintro e w1 ⟨rfl, hb1⟩)
        go_ret
        exact ⟨_, rfl, by rw [HQ.out]; simp, hE.out.trans (by exact eX)⟩
      | false =>
        rw [hq] at HF
        have HQ := Hm hq
        clear hq hx
        go_wp2_with (go_at_call 147; refine (HF.out _).mono ?_; rintro e w1 ⟨rfl, hb1⟩)
        go_roundw
        case rel => exact ⟨k + 1, by omega, by go_num, fun j hj hjk => by
          by_cases e : j = k
          · subst e; exact HQ.out
          · exact hrel.out j hj (by omega), Hm (hE.out.trans (by exact eX))⟩
        case measure => simp [intOf]; omega
    · have hkk : k = l.length := by omega
      have HQ := Hm (any_none (p := fun c : K => c.k == 1) fun j hj => hrel.out j hj (by omega))
      subst hkk
      go_wp2
      go_ret
      exact ⟨_, rfl, by rw [HQ.out]; simp, hE.out⟩
theorem samehas_any (l : List K) (a : Option Addr) (cap : Nat) (w : World) (hl : Sl w (.slice a l.length cap) 5 (l.map K.pc)) (hlen : l.length ≤ 1000) :
    Calls Tryz.prog 146 #[.slice a l.length cap, .func (.func 147) #[] #[]] w fun e w' => e = .returned (.bool (l.any fun c => c.k == 1)) ∧ Ext w w' := by
  have HI := Hm (sameidx_any l a cap w hl hlen)
  clear hl
  go_enter Tryz.func146, Tryz.ntmps146
  go_wp2_with (go_at_call 163; refine HI.out.mono ?_; rintro e w1 ⟨i, rfl, hi, hb1⟩; have HI2 := Hm hi; clear hi)
  go_ret
  exact ⟨ret_bool HI2.out, hb1⟩
theorem same_any {l : List K} : firstE (sameE l) l.length = if (l.any fun c => c.k == 1) = true then 14 else 0 := by
  cases h : l.any fun c => c.k == 1 with
  | false =>
    rw [List.any_eq_false] at h
    rw [if_neg (by simp)]
    refine firstE_zero fun i hi => ?_
    unfold sameE
    rw [kindAt_lt hi, if_neg]
    have := h _ (List.getElem_mem hi)
    simpa using this
  | true =>
    rw [if_pos rfl]
    by_cases h0 : firstE (sameE l) l.length = 0
    · rw [List.any_eq_true] at h
      obtain ⟨c, hc, h1⟩ := h
      obtain ⟨i, hi, rfl⟩ := List.getElem_of_mem hc
      have := firstE_all h0 i hi
      unfold sameE at this
      rw [kindAt_lt hi, if_pos (by simpa using h1)] at this
      cases this
    · obtain ⟨k, hk, _, h2⟩ := firstE_get h0
      rw [h2] at h0 ⊢
      unfold sameE at h0 ⊢
      split at h0
      · rename_i h3; rw [if_pos h3]
      · exact absurd rfl h0
theorem isKey_any' (oid ver : Int) (nm : ByteArray) (id : Int) (cols : List Col) (a2 : Option Addr) (cap2 : Nat) (l : List K) (a : Option Addr) (cap : Nat) (w : World) (hl2 : Sl w (.slice a2 cols.length cap2) 3 (cols.map Col.cells)) (hcap2 : cols.length ≤ cap2) (hlen2 : cols.length ≤ 1000) (hl : Sl w (.slice a l.length cap) 5 (l.map K.pc)) (hlen : l.length ≤ 1000) (hs : ∀ c ∈ l, c.wk) (hs2 : ∀ c ∈ cols, c.nm.size ≤ 9223372036854775807) (hnm : nm.size ≤ 9223372036854775807) :
    Calls Tryz.prog 122 #[.agg #[.int .u32 oid, .int .u32 ver, .string nm, .int .u8 id, .slice a2 cols.length cap2], .slice a l.length cap] w fun e w' => e = .returned (.int .i64 (isKeyE l (⟨oid, ver, nm, id, cols⟩ : Rl))) ∧ Ext w w' := by
  have HKD := Hm (fun W (h : Ext w W) => keyedI_any oid ver nm id cols a2 cap2 l a cap W (hl2.ext h) hcap2 hlen2 (hl.ext h) hlen hs hs2 hnm)
  have HKO := Hm (fun W (h : Ext w W) => keyOf_any oid ver nm id cols a2 cap2 l a cap W (hl2.ext h) hlen2 (hl.ext h) hlen)
  have HL := Hm hl
  have HRW := Hm (fun h => isKey_row (l := l) (r := (⟨oid, ver, nm, id, cols⟩ : Rl)) h hs)
  have HKE : Hid (isKeyE l (⟨oid, ver, nm, id, cols⟩ : Rl) = if keyedE l (⟨oid, ver, nm, id, cols⟩ : Rl) ≠ 0 then keyedE l (⟨oid, ver, nm, id, cols⟩ : Rl) else firstE (nonE cols l) l.length) := Hm rfl
  obtain ⟨E, hE⟩ : ∃ E, E = keyedE l (⟨oid, ver, nm, id, cols⟩ : Rl) := ⟨_, rfl⟩
  rw [← hE] at HKD HKE
  have HEQ := Hm hE
  clear hl hl2 hs hs2 hE
  by_cases h0 : E = 0
  case neg =>
    have HKE2 := Hm (HKE.out.trans (if_pos h0))
    have h0' : (E != 0) = true := by simpa using h0
    clear h0 HKE HEQ
    go_enter Tryz.func122, Tryz.ntmps122
    go_wp2_with (go_at_call 124; refine (HKD.out _ (by exact eX)).mono ?_; rintro e w1 ⟨rfl, hb1⟩; have hE1 : Ext w w1 := (by exact eX))
    go_ret
    exact ⟨ret_int HKE2.out.symm, hE1⟩
  subst h0
  have HKE2 := Hm (HKE.out.trans (if_neg (by simp)))
  have HRW2 := Hm (HRW.out HEQ.out.symm)
  have HAL := Hm (fun W g c (h : Ext w W) (hr : RowAt W g (keyOf cols l)) => (alike_any l (keyOf cols l) a (some ⟨g, 0, none⟩) cap c W (HL.out.ext h) (hr.sl c) hlen (by rw [keyOf_len]; exact hlen)))
  rw [HRW2.out, keyOf_len] at HAL
  clear HKE HEQ HRW
  by_cases h1 : firstE (nonE cols l) l.length = 0
  · rw [decide_eq_true h1] at HAL
    have HR := Hm (HKE2.out.trans h1)
    clear h1 HRW2
    go_enter Tryz.func122, Tryz.ntmps122
    go_wp2_with (first
      | (go_at_call 124; refine (HKD.out _ (by exact eX)).mono ?_; rintro e w1 ⟨rfl, hb1⟩; have hE1 : Ext w w1 := (by exact eX); have g0 := ((Blk.new w #[.int .u32 oid, .int .u32 ver, .string nm, .int .u8 id, .slice a2 cols.length cap2] 69).ext hb1).cell)
      | (go_at_call 126; refine (HKO.out _ hE1).mono ?_; rintro e w2 ⟨g, c, rfl, hc, hg, hr, hb2⟩; have HR2 := Hm hr; have hE2 := hE1.trans hb2; clear hr hc hg)
      | (go_at_call 125; refine (HAL.out _ _ _ hE2 HR2.out).mono ?_; rintro e w3 ⟨rfl, hb3⟩))
    go_ret
    exact ⟨ret_int HR.out.symm, hE2.trans hb3⟩
  · rw [decide_eq_false h1] at HAL
    have HR := Hm (HKE2.out.trans (show firstE (nonE cols l) l.length = 14 by
      obtain ⟨k, hk, _, h2⟩ := firstE_get h1
      rw [h2] at h1 ⊢
      unfold nonE at h1 ⊢
      split at h1
      · rename_i h3; rw [if_pos h3]
      · exact absurd rfl h1))
    clear h1 HRW2
    go_enter Tryz.func122, Tryz.ntmps122
    go_wp2_with (first
      | (go_at_call 124; refine (HKD.out _ (by exact eX)).mono ?_; rintro e w1 ⟨rfl, hb1⟩; have hE1 : Ext w w1 := (by exact eX); have g0 := ((Blk.new w #[.int .u32 oid, .int .u32 ver, .string nm, .int .u8 id, .slice a2 cols.length cap2] 69).ext hb1).cell)
      | (go_at_call 126; refine (HKO.out _ hE1).mono ?_; rintro e w2 ⟨g, c, rfl, hc, hg, hr, hb2⟩; have HR2 := Hm hr; have hE2 := hE1.trans hb2; clear hr hc hg)
      | (go_at_call 125; refine (HAL.out _ _ _ hE2 HR2.out).mono ?_; rintro e w3 ⟨rfl, hb3⟩))
    go_ret
    exact ⟨ret_int HR.out.symm, hE2.trans hb3⟩
theorem isFull_any' (oid ver : Int) (nm : ByteArray) (id : Int) (cols : List Col) (a2 : Option Addr) (cap2 : Nat) (l : List K) (a : Option Addr) (cap : Nat) (w : World) (hl2 : Sl w (.slice a2 cols.length cap2) 3 (cols.map Col.cells)) (hcap2 : cols.length ≤ cap2) (hlen2 : cols.length ≤ 1000) (hl : Sl w (.slice a l.length cap) 5 (l.map K.pc)) (hlen : l.length ≤ 1000) (hs : ∀ c ∈ l, c.wk) (hs2 : ∀ c ∈ cols, c.nm.size ≤ 9223372036854775807) (hnm : nm.size ≤ 9223372036854775807) :
    Calls Tryz.prog 123 #[.agg #[.int .u32 oid, .int .u32 ver, .string nm, .int .u8 id, .slice a2 cols.length cap2], .slice a l.length cap] w fun e w' => e = .returned (.int .i64 (isFullE l (⟨oid, ver, nm, id, cols⟩ : Rl))) ∧ Ext w w' := by
  have HKD := Hm (fun W (h : Ext w W) => keyedI_any oid ver nm id cols a2 cap2 l a cap W (hl2.ext h) hcap2 hlen2 (hl.ext h) hlen hs hs2 hnm)
  have HCF := Hm (fun W (h : Ext w W) => samehas_any l a cap W (hl.ext h) hlen)
  have HKE : Hid (isFullE l (⟨oid, ver, nm, id, cols⟩ : Rl) = if keyedE l (⟨oid, ver, nm, id, cols⟩ : Rl) ≠ 0 then keyedE l (⟨oid, ver, nm, id, cols⟩ : Rl) else firstE (sameE l) l.length) := Hm rfl
  have HSA := Hm (same_any (l := l))
  generalize keyedE l (⟨oid, ver, nm, id, cols⟩ : Rl) = E at HKD HKE
  generalize (l.any fun c => c.k == 1) = B at HCF HSA
  clear hl hl2 hs hs2
  by_cases h0 : E = 0
  case neg =>
    have HKE2 := Hm (HKE.out.trans (if_pos h0))
    have h0' : (E != 0) = true := by simpa using h0
    clear h0 HKE
    go_enter Tryz.func123, Tryz.ntmps123
    go_wp2_with (go_at_call 124; refine (HKD.out _ (by exact eX)).mono ?_; rintro e w1 ⟨rfl, hb1⟩; have hE1 : Ext w w1 := (by exact eX))
    go_ret
    exact ⟨ret_int HKE2.out.symm, hE1⟩
  subst h0
  have HKE2 := Hm ((HKE.out.trans (if_neg (by simp))).trans HSA.out)
  clear HKE HSA
  cases B
  all_goals
    go_enter Tryz.func123, Tryz.ntmps123
    go_wp2_with (first
      | (go_at_call 124; refine (HKD.out _ (by exact eX)).mono ?_; rintro e w1 ⟨rfl, hb1⟩; have hE1 : Ext w w1 := (by exact eX))
      | (go_at_call 146; refine (HCF.out _ hE1).mono ?_; rintro e w2 ⟨rfl, hb2⟩))
    go_ret
    exact ⟨ret_int (by rw [HKE2.out]; simp), hE1.trans hb2⟩
end Go.Proofs.YtdlhaidlokkmnaaGreatDoor
