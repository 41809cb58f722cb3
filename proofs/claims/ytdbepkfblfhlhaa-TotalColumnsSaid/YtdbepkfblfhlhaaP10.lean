/-
The reference's KeyOf, keyed, IsKey, IsFull, Merge.
-/
import Derived.Test.YtdbepkfblfhlhaaP9
namespace Go.Proofs.Ytdbepkfblfhlhaa
open Go.RowKit

theorem keyOf_len {cols : List Col} {l : List K} : (keyOf cols l).length = l.length := by simp [keyOf]
theorem keyOf_get {cols : List Col} {l : List K} {i : Nat} (h : i < (keyOf cols l).length) : (keyOf cols l)[i] = if isKeyAt cols i = true then l[i]'(by rw [keyOf_len] at h; exact h) else K.zero := by simp [keyOf]
theorem isKeyAt_lt {cols : List Col} {i : Nat} (h : i < cols.length) : isKeyAt cols i = cols[i].key := by unfold isKeyAt; rw [List.getElem?_eq_getElem h]; rfl
theorem isKeyAt_ge {cols : List Col} {i : Nat} (h : cols.length ≤ i) : isKeyAt cols i = false := by unfold isKeyAt; rw [List.getElem?_eq_none h]; rfl
/-- What is wrong with a key image, a full image. -/
def nonE (cols : List Col) (l : List K) (i : Nat) : Int := if isKeyAt cols i = false ∧ kindAt l i ≠ 0 then 14 else 0
def isKeyE (l : List K) (r : Rl) : Int := if keyedE l r ≠ 0 then keyedE l r else firstE (nonE r.cols l) l.length
def sameE (l : List K) (i : Nat) : Int := if kindAt l i = 1 then 14 else 0
def isFullE (l : List K) (r : Rl) : Int := if keyedE l r ≠ 0 then keyedE l r else firstE (sameE l) l.length
theorem keyed_fits {l : List K} {r : Rl} (h : keyedE l r = 0) : fitsE l r = 0 := by
  unfold keyedE at h
  split at h
  · rename_i h1; exact absurd h h1
  · rename_i h1; simpa using h1
/-- A new image with what was the same. -/
def mergeK (b l : List K) : List K := l.mapIdx fun i c => if c.k = 1 then (b[i]?).getD c else c
theorem mergeK_len {b l : List K} : (mergeK b l).length = l.length := by simp [mergeK]
theorem mergeK_get {b l : List K} {i : Nat} (h : i < (mergeK b l).length) : (mergeK b l)[i] = if (l[i]'(by rw [mergeK_len] at h; exact h)).k = 1 then (b[i]?).getD (l[i]'(by rw [mergeK_len] at h; exact h)) else l[i]'(by rw [mergeK_len] at h; exact h) := by simp [mergeK]

set_option maxRecDepth 100000 in set_option maxHeartbeats 4000000 in
theorem rkeyOf_any (l : List K) (a : Option Addr) (cap : Nat) (oid ver : Int) (nm : ByteArray) (id : Int) (cols : List Col) (a2 : Option Addr) (cap2 : Nat) (w : World) (hl : Sl w (.slice a l.length cap) 6 (l.map K.rc)) (hl2 : Sl w (.slice a2 cols.length cap2) 3 (cols.map Col.cells)) (hlen : l.length ≤ 1000) (hlen2 : cols.length ≤ 1000) :
    Calls Try.prog 26 #[.agg #[.int .u32 oid, .int .u32 ver, .string nm, .int .u8 id, .slice a2 cols.length cap2], .slice a l.length cap] w fun e w' => ∃ a' cap', e = .returned (.slice a' l.length cap') ∧ Sl w' (.slice a' l.length cap') 6 ((keyOf cols l).map K.rc) ∧ Ext w w' := by
  have HL := Hid.mk' hl
  have HL2 := Hid.mk' hl2
  clear hl hl2
  obtain ⟨i0, hi, hz0, hz1, hz2⟩ := info_parts Try.infoCellR
  go_enter Try.func26, Try.ntmps26
  go_wp2
  go_loopw [5, 6] (fun v i wr => ∃ k : Nat, k ≤ l.length ∧ i = .int .i64 k ∧ Hid (wr.ownsRow (w.heap.size + 1) 121 6 v k (((keyOf cols l).map K.rc).take k).flatten) ∧ Hid (Ext (w.alloc (.cells #[.int .u32 oid, .int .u32 ver, .string nm, .int .u8 id, .slice a2 cols.length cap2] 27)) wr)) (fun _ i _ => l.length - (intOf i).toNat)
  case atStart => exact ⟨0, Nat.zero_le _, rfl, World.ownsRow_nil _ _ _ _, Ext.refl _⟩
  case round =>
    obtain ⟨k, hk, rfl, hown, hE⟩ := hrel
    have hEw : Hid (Ext w wr) := Hid.mk' (((Ext.refl w).alloc _).trans hE.out)
    by_cases hlt : k < l.length
    · have hBx := (Blk.new w #[.int .u32 oid, .int .u32 ver, .string nm, .int .u8 id, .slice a2 cols.length cap2] 27).ext hE.out
      have g0 := hBx.cell
      have z0 := hBx.lt
      obtain ⟨b, o, rfl, hb, hx⟩ := HL.out.at_ (i := k) (by simpa using hlt)
      obtain ⟨f0, f1, f2, f3, f4, f5⟩ := K.rcAt hlt hx hb hEw.out
      have hbw : b < wr.heap.size := Nat.lt_of_lt_of_le hb hEw.out.size
      have hkl : k < (keyOf cols l).length := by rw [keyOf_len]; exact hlt
      have HT := Hid.mk' (flat_snoc (f := K.rc) hkl)
      rw [keyOf_get] at HT
      clear hx hBx
      cases hq : isKeyAt cols k with
      | true =>
        have hkc : k < cols.length := by
          rcases Nat.lt_or_ge k cols.length with h | h
          · exact h
          · rw [isKeyAt_ge h] at hq; cases hq
        obtain ⟨b2, o2, rfl, hb2, hx2⟩ := HL2.out.at_ (i := k) (by simpa using hkc)
        obtain ⟨p0, p1, p2⟩ := Col.at_ hkc hx2 hb2 hEw.out
        have hbw2 : b2 < wr.heap.size := Nat.lt_of_lt_of_le hb2 hEw.out.size
        rw [isKeyAt_lt hkc] at hq
        rw [hq] at p2
        rw [if_pos (by rw [isKeyAt_lt hkc]; exact hq)] at HT
        obtain ⟨c, hc⟩ : ∃ c, c = l[k] := ⟨_, rfl⟩
        rw [← hc] at f0 f1 f2 f3 f4 f5 HT
        clear hx2 hq hc
        go_wp2_with (at_builtin; refine wpList_append_own _ rfl _ _ 31 rfl (w.heap.size + 1) 121 i0 _ 6 56 Try.underlying31 hi hz0 hz1 hz2 rfl (by decide) _ _ _ rfl (hown.out.alloc _) ⟨_, 0, none⟩ 1 1 c.rc rfl rfl ?c1 ?c2 ?c3 ?c4 ?c5 ?_)
        case c1 => exact cells_new _ #[.int .u8 c.k, .int .u8 c.v.ty, .int .i64 c.v.n, .int .u64 c.v.x, .int .u64 c.v.y, .string c.v.s] _
        case c2 => intro u hu; simp [K.rc] at hu; rcases hu with rfl | rfl | rfl | rfl | rfl | rfl <;> rfl
        case c3 => unfold maxLen; omega
        case c4 => omega
        case c5 => simp; omega
        intro v' w2 hown' hgrow _
        have HE2 := Hid.mk' (Below.grown (hE.out.alloc _) hgrow (by have := hE.out.size; rw [World.size_alloc] at this ⊢; rw [World.size_alloc]; omega) (fun g hg => by have h9 := (hown.out.lt g hg).1; rw [World.size_alloc]; exact h9))
        have HO2 := Hid.mk' hown'
        clear hown' hgrow
        go_wp2
        go_roundw
        case rel => exact ⟨k + 1, by omega, by go_num, Hid.mk' (by rw [HT.out]; exact HO2.out), HE2⟩
        case measure => simp [intOf]; omega
      | false =>
        rw [if_neg (by rw [hq]; simp)] at HT
        by_cases hkc : k < cols.length
        · obtain ⟨b2, o2, rfl, hb2, hx2⟩ := HL2.out.at_ (i := k) (by simpa using hkc)
          obtain ⟨p0, p1, p2⟩ := Col.at_ hkc hx2 hb2 hEw.out
          have hbw2 : b2 < wr.heap.size := Nat.lt_of_lt_of_le hb2 hEw.out.size
          rw [isKeyAt_lt hkc] at hq
          rw [hq] at p2
          clear hx2 hq
          go_wp2_with (at_builtin; refine wpList_append_own _ rfl _ _ 31 rfl (w.heap.size + 1) 121 i0 _ 6 56 Try.underlying31 hi hz0 hz1 hz2 rfl (by decide) _ _ _ rfl (hown.out.alloc _) ⟨_, 0, none⟩ 1 1 K.zero.rc rfl rfl ?c1 ?c2 ?c3 ?c4 ?c5 ?_)
          case c1 => exact cells_new _ #[.int .u8 0, .int .u8 0, .int .i64 0, .int .u64 0, .int .u64 0, .string ByteArray.empty] _
          case c2 => intro u hu; simp [K.rc] at hu; rcases hu with rfl | rfl | rfl | rfl | rfl | rfl <;> rfl
          case c3 => unfold maxLen; omega
          case c4 => omega
          case c5 => simp; omega
          intro v' w2 hown' hgrow _
          have HE2 := Hid.mk' (Below.grown (hE.out.alloc _) hgrow (by have := hE.out.size; rw [World.size_alloc] at this ⊢; rw [World.size_alloc]; omega) (fun g hg => by have h9 := (hown.out.lt g hg).1; rw [World.size_alloc]; exact h9))
          have HO2 := Hid.mk' hown'
          clear hown' hgrow
          go_wp2
          go_roundw
          case rel => exact ⟨k + 1, by omega, by go_num, Hid.mk' (by rw [HT.out]; exact HO2.out), HE2⟩
          case measure => simp [intOf]; omega
        · have hkc' : cols.length ≤ k := by omega
          clear hq hkc
          go_wp2_with (at_builtin; refine wpList_append_own _ rfl _ _ 31 rfl (w.heap.size + 1) 121 i0 _ 6 56 Try.underlying31 hi hz0 hz1 hz2 rfl (by decide) _ _ _ rfl (hown.out.alloc _) ⟨_, 0, none⟩ 1 1 K.zero.rc rfl rfl ?c1 ?c2 ?c3 ?c4 ?c5 ?_)
          case c1 => exact cells_new _ #[.int .u8 0, .int .u8 0, .int .i64 0, .int .u64 0, .int .u64 0, .string ByteArray.empty] _
          case c2 => intro u hu; simp [K.rc] at hu; rcases hu with rfl | rfl | rfl | rfl | rfl | rfl <;> rfl
          case c3 => unfold maxLen; omega
          case c4 => omega
          case c5 => simp; omega
          intro v' w2 hown' hgrow _
          have HE2 := Hid.mk' (Below.grown (hE.out.alloc _) hgrow (by have := hE.out.size; rw [World.size_alloc] at this ⊢; rw [World.size_alloc]; omega) (fun g hg => by have h9 := (hown.out.lt g hg).1; rw [World.size_alloc]; exact h9))
          have HO2 := Hid.mk' hown'
          clear hown' hgrow
          go_wp2
          go_roundw
          case rel => exact ⟨k + 1, by omega, by go_num, Hid.mk' (by rw [HT.out]; exact HO2.out), HE2⟩
          case measure => simp [intOf]; omega
    · have hkk : k = l.length := by omega
      subst hkk
      rw [show l.length = ((keyOf cols l).map K.rc).length by rw [List.length_map, keyOf_len], List.take_length] at hown
      rw [List.length_map, keyOf_len] at hown
      obtain ⟨a', c', rfl⟩ := owns_shape hown.out
      go_wp2
      go_ret
      refine ⟨a', c', rfl, Sl.of_owns (base := w.heap.size + 1) (e := 121) ?_ ?_, hEw.out⟩
      · rw [List.length_map, keyOf_len]; exact hown.out
      · intro xs hxs; simp at hxs; obtain ⟨a, _, rfl⟩ := hxs; rfl

set_option maxRecDepth 100000 in set_option maxHeartbeats 1600000 in
theorem rkeyed_any (l : List K) (a : Option Addr) (cap : Nat) (oid ver : Int) (nm : ByteArray) (id : Int) (cols : List Col) (a2 : Option Addr) (cap2 : Nat) (w : World) (hl : Sl w (.slice a l.length cap) 6 (l.map K.rc)) (hl2 : Sl w (.slice a2 cols.length cap2) 3 (cols.map Col.cells)) (hlen : l.length ≤ 1000) (hlen2 : cols.length ≤ 1000) (hs : ∀ c ∈ l, c.wk) (hs2 : ∀ c ∈ cols, c.nm.size ≤ 9223372036854775807) (hnm : nm.size ≤ 9223372036854775807) :
    Calls Try.prog 69 #[.agg #[.int .u32 oid, .int .u32 ver, .string nm, .int .u8 id, .slice a2 cols.length cap2], .slice a l.length cap] w fun e w' => e = .returned (.int .i64 (keyedE l (⟨oid, ver, nm, id, cols⟩ : Rl))) ∧ Ext w w' := by
  have HFT := Hid.mk' (fun W (h : Ext w W) => rfits_any l a cap oid ver nm id cols a2 cap2 W (hl.ext h) (hl2.ext h) hlen hlen2 hs hs2 hnm)
  have HL := Hid.mk' hl
  have HL2 := Hid.mk' hl2
  have HKE : Hid (keyedE l (⟨oid, ver, nm, id, cols⟩ : Rl) = if fitsE l (⟨oid, ver, nm, id, cols⟩ : Rl) ≠ 0 then fitsE l (⟨oid, ver, nm, id, cols⟩ : Rl) else firstE (keyE cols l) l.length) := Hid.mk' rfl
  obtain ⟨E, hE⟩ : ∃ E, E = fitsE l (⟨oid, ver, nm, id, cols⟩ : Rl) := ⟨_, rfl⟩
  rw [← hE] at HFT HKE
  have HEQ := Hid.mk' hE
  clear hl hl2 hs hs2 hE
  by_cases h0 : E = 0
  case neg =>
    have HKE2 := Hid.mk' (HKE.out.trans (if_pos h0))
    have h0' : (E != 0) = true := by simpa using h0
    clear h0 HKE HEQ
    go_enter Try.func69, Try.ntmps69
    go_wp2_with (go_at_call 43; refine (HFT.out _ (by (repeat (with_reducible (first | exact Ext.refl _ | assumption | exact held_left (by assumption) | apply Ext.drewN | apply Ext.drew | apply Ext.alloc | (refine Ext.setCell ?_ (by first | (simp; done) | (simp; omega) | omega) _) | (refine Ext.trans ?_ (by assumption)) | (refine Ext.trans ?_ (held_left (by assumption)))))))).mono ?_; rintro e w1 ⟨rfl, hb1⟩; have hE1 : Ext w w1 := (by (repeat (with_reducible (first | exact Ext.refl _ | assumption | exact held_left (by assumption) | apply Ext.drewN | apply Ext.drew | apply Ext.alloc | (refine Ext.setCell ?_ (by first | (simp; done) | (simp; omega) | omega) _) | (refine Ext.trans ?_ (by assumption)) | (refine Ext.trans ?_ (held_left (by assumption))))))))
    go_ret
    exact ⟨ret_int HKE2.out.symm, hE1⟩
  subst h0
  have HKE2 := Hid.mk' (HKE.out.trans (if_neg (by simp)))
  have hfz := fits_zero HEQ.out.symm
  have hll : l.length = cols.length := hfz.2.1
  have hle : l.length ≤ cols.length := by omega
  clear HKE HEQ hfz hll
  go_enter Try.func69, Try.ntmps69
  go_wp2_with (go_at_call 43; refine (HFT.out _ (by (repeat (with_reducible (first | exact Ext.refl _ | assumption | exact held_left (by assumption) | apply Ext.drewN | apply Ext.drew | apply Ext.alloc | (refine Ext.setCell ?_ (by first | (simp; done) | (simp; omega) | omega) _) | (refine Ext.trans ?_ (by assumption)) | (refine Ext.trans ?_ (held_left (by assumption)))))))).mono ?_; rintro e w1 ⟨rfl, hb1⟩; have hE1 := Hid.mk' hb1; clear hb1)
  go_loopw [6] (fun i wr => ∃ k : Nat, k ≤ l.length ∧ i = .int .i64 k ∧ Hid (∀ j, j < k → keyE cols l j = 0) ∧ Hid (Ext (w.alloc (.cells #[.int .u32 oid, .int .u32 ver, .string nm, .int .u8 id, .slice a2 cols.length cap2] 27)) wr)) (fun i _ => l.length - (intOf i).toNat)
  case atStart => exact ⟨0, Nat.zero_le _, rfl, fun j h => by omega, hE1⟩
  case round =>
    obtain ⟨k, hk, rfl, hrel, hE⟩ := hrel
    have hEw : Hid (Ext w wr) := Hid.mk' (((Ext.refl w).alloc _).trans hE.out)
    by_cases hlt : k < l.length
    · have hlt2 : k < cols.length := by omega
      have hBx := (Blk.new w #[.int .u32 oid, .int .u32 ver, .string nm, .int .u8 id, .slice a2 cols.length cap2] 27).ext hE.out
      have g0 := hBx.cell
      have z0 := hBx.lt
      obtain ⟨b, o, rfl, hb, hx⟩ := HL.out.at_ (i := k) (by simpa using hlt)
      obtain ⟨f0, f1, f2, f3, f4, f5⟩ := K.rcAt hlt hx hb hEw.out
      obtain ⟨b2, o2, rfl, hb2, hx2⟩ := HL2.out.at_ (i := k) (by simpa using hlt2)
      obtain ⟨p0, p1, p2⟩ := Col.at_ hlt2 hx2 hb2 hEw.out
      have hbw : b < wr.heap.size := Nat.lt_of_lt_of_le hb hEw.out.size
      have hbw2 : b2 < wr.heap.size := Nat.lt_of_lt_of_le hb2 hEw.out.size
      have hKX : keyE cols l k = if cols[k].key = true then kindE l[k].k else 0 := by unfold keyE; rw [isKeyAt_lt hlt2, kindAt_lt hlt]
      clear hx hx2 hBx
      cases hq : cols[k].key with
      | false =>
        have HZ := Hid.mk' (hKX.trans (if_neg (by rw [hq]; simp)))
        rw [hq] at p2
        clear hq hKX
        go_wp2
        go_roundw
        case rel => exact ⟨k + 1, by omega, by go_num, fun j hj => by
          by_cases e : j = k
          · subst e; exact HZ.out
          · exact hrel.out j (by omega), hE⟩
        case measure => simp [intOf]; omega
      | true =>
        have HZ := Hid.mk' (hKX.trans (if_pos hq))
        rw [hq] at p2
        clear hq hKX
        by_cases hk0 : l[k].k = 0
        · have HR := Hid.mk' (HKE2.out.trans (show firstE (keyE cols l) l.length = 12 by rw [firstE_at hrel.out hlt (by rw [HZ.out, hk0]; decide), HZ.out, hk0]; rfl))
          rw [hk0] at f0
          clear hk0
          go_wp2
          go_ret
          exact ⟨ret_int HR.out.symm, hEw.out⟩
        · by_cases hk1 : l[k].k = 1
          · have HR := Hid.mk' (HKE2.out.trans (show firstE (keyE cols l) l.length = 13 by rw [firstE_at hrel.out hlt (by rw [HZ.out, hk1]; decide), HZ.out, hk1]; rfl))
            rw [hk1] at f0
            clear hk0 hk1
            go_wp2
            go_ret
            exact ⟨ret_int HR.out.symm, hEw.out⟩
          · have e0 : (l[k].k == 0) = false := by simpa using hk0
            have e1 : (l[k].k == 1) = false := by simpa using hk1
            have HZ2 := Hid.mk' (HZ.out.trans (show kindE l[k].k = 0 by unfold kindE; rw [if_neg hk0, if_neg hk1]))
            clear hk0 hk1
            go_wp2
            go_roundw
            case rel => exact ⟨k + 1, by omega, by go_num, fun j hj => by
              by_cases e : j = k
              · subst e; exact HZ2.out
              · exact hrel.out j (by omega), hE⟩
            case measure => simp [intOf]; omega
    · have hkk : k = l.length := by omega
      have HR := Hid.mk' (HKE2.out.trans (firstE_zero (fun i hi => hrel.out i (by omega))))
      subst hkk
      go_wp2
      go_ret
      exact ⟨ret_int HR.out.symm, hEw.out⟩

set_option maxRecDepth 100000 in set_option maxHeartbeats 1600000 in
theorem risKey_any (l : List K) (a : Option Addr) (cap : Nat) (oid ver : Int) (nm : ByteArray) (id : Int) (cols : List Col) (a2 : Option Addr) (cap2 : Nat) (w : World) (hl : Sl w (.slice a l.length cap) 6 (l.map K.rc)) (hl2 : Sl w (.slice a2 cols.length cap2) 3 (cols.map Col.cells)) (hlen : l.length ≤ 1000) (hlen2 : cols.length ≤ 1000) (hs : ∀ c ∈ l, c.wk) (hs2 : ∀ c ∈ cols, c.nm.size ≤ 9223372036854775807) (hnm : nm.size ≤ 9223372036854775807) :
    Calls Try.prog 28 #[.agg #[.int .u32 oid, .int .u32 ver, .string nm, .int .u8 id, .slice a2 cols.length cap2], .slice a l.length cap] w fun e w' => e = .returned (.int .i64 (isKeyE l (⟨oid, ver, nm, id, cols⟩ : Rl))) ∧ Ext w w' := by
  have HFT := Hid.mk' (fun W (h : Ext w W) => rkeyed_any l a cap oid ver nm id cols a2 cap2 W (hl.ext h) (hl2.ext h) hlen hlen2 hs hs2 hnm)
  have HL := Hid.mk' hl
  have HL2 := Hid.mk' hl2
  have HKE : Hid (isKeyE l (⟨oid, ver, nm, id, cols⟩ : Rl) = if keyedE l (⟨oid, ver, nm, id, cols⟩ : Rl) ≠ 0 then keyedE l (⟨oid, ver, nm, id, cols⟩ : Rl) else firstE (nonE cols l) l.length) := Hid.mk' rfl
  obtain ⟨E, hE⟩ : ∃ E, E = keyedE l (⟨oid, ver, nm, id, cols⟩ : Rl) := ⟨_, rfl⟩
  rw [← hE] at HFT HKE
  have HEQ := Hid.mk' hE
  clear hl hl2 hs hs2 hE
  by_cases h0 : E = 0
  case neg =>
    have HKE2 := Hid.mk' (HKE.out.trans (if_pos h0))
    have h0' : (E != 0) = true := by simpa using h0
    clear h0 HKE HEQ
    go_enter Try.func28, Try.ntmps28
    go_wp2_with (go_at_call 69; refine (HFT.out _ (by (repeat (with_reducible (first | exact Ext.refl _ | assumption | exact held_left (by assumption) | apply Ext.drewN | apply Ext.drew | apply Ext.alloc | (refine Ext.setCell ?_ (by first | (simp; done) | (simp; omega) | omega) _) | (refine Ext.trans ?_ (by assumption)) | (refine Ext.trans ?_ (held_left (by assumption)))))))).mono ?_; rintro e w1 ⟨rfl, hb1⟩; have hE1 : Ext w w1 := (by (repeat (with_reducible (first | exact Ext.refl _ | assumption | exact held_left (by assumption) | apply Ext.drewN | apply Ext.drew | apply Ext.alloc | (refine Ext.setCell ?_ (by first | (simp; done) | (simp; omega) | omega) _) | (refine Ext.trans ?_ (by assumption)) | (refine Ext.trans ?_ (held_left (by assumption))))))))
    go_ret
    exact ⟨ret_int HKE2.out.symm, hE1⟩
  subst h0
  have HKE2 := Hid.mk' (HKE.out.trans (if_neg (by simp)))
  have hfz := fits_zero (keyed_fits HEQ.out.symm)
  have hll : l.length = cols.length := hfz.2.1
  have hle : l.length ≤ cols.length := by omega
  clear HKE HEQ hfz hll
  go_enter Try.func28, Try.ntmps28
  go_wp2_with (go_at_call 69; refine (HFT.out _ (by (repeat (with_reducible (first | exact Ext.refl _ | assumption | exact held_left (by assumption) | apply Ext.drewN | apply Ext.drew | apply Ext.alloc | (refine Ext.setCell ?_ (by first | (simp; done) | (simp; omega) | omega) _) | (refine Ext.trans ?_ (by assumption)) | (refine Ext.trans ?_ (held_left (by assumption)))))))).mono ?_; rintro e w1 ⟨rfl, hb1⟩; have hE1 := Hid.mk' hb1; clear hb1)
  go_loopw [6] (fun i wr => ∃ k : Nat, k ≤ l.length ∧ i = .int .i64 k ∧ Hid (∀ j, j < k → nonE cols l j = 0) ∧ Hid (Ext (w.alloc (.cells #[.int .u32 oid, .int .u32 ver, .string nm, .int .u8 id, .slice a2 cols.length cap2] 27)) wr)) (fun i _ => l.length - (intOf i).toNat)
  case atStart => exact ⟨0, Nat.zero_le _, rfl, fun j h => by omega, hE1⟩
  case round =>
    obtain ⟨k, hk, rfl, hrel, hE⟩ := hrel
    have hEw : Hid (Ext w wr) := Hid.mk' (((Ext.refl w).alloc _).trans hE.out)
    by_cases hlt : k < l.length
    · have hlt2 : k < cols.length := by omega
      have hBx := (Blk.new w #[.int .u32 oid, .int .u32 ver, .string nm, .int .u8 id, .slice a2 cols.length cap2] 27).ext hE.out
      have g0 := hBx.cell
      have z0 := hBx.lt
      obtain ⟨b, o, rfl, hb, hx⟩ := HL.out.at_ (i := k) (by simpa using hlt)
      obtain ⟨f0, f1, f2, f3, f4, f5⟩ := K.rcAt hlt hx hb hEw.out
      obtain ⟨b2, o2, rfl, hb2, hx2⟩ := HL2.out.at_ (i := k) (by simpa using hlt2)
      obtain ⟨p0, p1, p2⟩ := Col.at_ hlt2 hx2 hb2 hEw.out
      have hbw : b < wr.heap.size := Nat.lt_of_lt_of_le hb hEw.out.size
      have hbw2 : b2 < wr.heap.size := Nat.lt_of_lt_of_le hb2 hEw.out.size
      have hKX : nonE cols l k = if cols[k].key = false ∧ l[k].k ≠ 0 then 14 else 0 := by unfold nonE; rw [isKeyAt_lt hlt2, kindAt_lt hlt]
      clear hx hx2 hBx
      cases hq : cols[k].key with
      | true =>
        have HZ := Hid.mk' (hKX.trans (if_neg (by rw [hq]; simp)))
        rw [hq] at p2
        clear hq hKX
        go_wp2
        go_roundw
        case rel => exact ⟨k + 1, by omega, by go_num, fun j hj => by
          by_cases e : j = k
          · subst e; exact HZ.out
          · exact hrel.out j (by omega), hE⟩
        case measure => simp [intOf]; omega
      | false =>
        by_cases hk0 : l[k].k = 0
        · have HZ := Hid.mk' (hKX.trans (if_neg (by rw [hk0]; simp)))
          rw [hq] at p2
          rw [hk0] at f0
          clear hk0 hq hKX
          go_wp2
          go_roundw
          case rel => exact ⟨k + 1, by omega, by go_num, fun j hj => by
            by_cases e : j = k
            · subst e; exact HZ.out
            · exact hrel.out j (by omega), hE⟩
          case measure => simp [intOf]; omega
        · have e0 : (l[k].k != 0) = true := by simpa using hk0
          have HZ := hKX.trans (if_pos ⟨hq, hk0⟩)
          have HR := Hid.mk' (HKE2.out.trans (show firstE (nonE cols l) l.length = 14 by rw [firstE_at hrel.out hlt (by rw [HZ]; decide), HZ]))
          rw [hq] at p2
          clear hk0 hq hKX HZ
          go_wp2
          go_ret
          exact ⟨ret_int HR.out.symm, hEw.out⟩
    · have hkk : k = l.length := by omega
      have HR := Hid.mk' (HKE2.out.trans (firstE_zero (fun i hi => hrel.out i (by omega))))
      subst hkk
      go_wp2
      go_ret
      exact ⟨ret_int HR.out.symm, hEw.out⟩

set_option maxRecDepth 100000 in set_option maxHeartbeats 1600000 in
theorem risFull_any (l : List K) (a : Option Addr) (cap : Nat) (oid ver : Int) (nm : ByteArray) (id : Int) (cols : List Col) (a2 : Option Addr) (cap2 : Nat) (w : World) (hl : Sl w (.slice a l.length cap) 6 (l.map K.rc)) (hl2 : Sl w (.slice a2 cols.length cap2) 3 (cols.map Col.cells)) (hlen : l.length ≤ 1000) (hlen2 : cols.length ≤ 1000) (hs : ∀ c ∈ l, c.wk) (hs2 : ∀ c ∈ cols, c.nm.size ≤ 9223372036854775807) (hnm : nm.size ≤ 9223372036854775807) :
    Calls Try.prog 30 #[.agg #[.int .u32 oid, .int .u32 ver, .string nm, .int .u8 id, .slice a2 cols.length cap2], .slice a l.length cap] w fun e w' => e = .returned (.int .i64 (isFullE l (⟨oid, ver, nm, id, cols⟩ : Rl))) ∧ Ext w w' := by
  have HFT := Hid.mk' (fun W (h : Ext w W) => rkeyed_any l a cap oid ver nm id cols a2 cap2 W (hl.ext h) (hl2.ext h) hlen hlen2 hs hs2 hnm)
  have HL := Hid.mk' hl
  have HKE : Hid (isFullE l (⟨oid, ver, nm, id, cols⟩ : Rl) = if keyedE l (⟨oid, ver, nm, id, cols⟩ : Rl) ≠ 0 then keyedE l (⟨oid, ver, nm, id, cols⟩ : Rl) else firstE (sameE l) l.length) := Hid.mk' rfl
  obtain ⟨E, hE⟩ : ∃ E, E = keyedE l (⟨oid, ver, nm, id, cols⟩ : Rl) := ⟨_, rfl⟩
  rw [← hE] at HFT HKE
  clear hl hl2 hs hs2 hE
  by_cases h0 : E = 0
  case neg =>
    have HKE2 := Hid.mk' (HKE.out.trans (if_pos h0))
    have h0' : (E != 0) = true := by simpa using h0
    clear h0 HKE
    go_enter Try.func30, Try.ntmps30
    go_wp2_with (go_at_call 69; refine (HFT.out _ (by (repeat (with_reducible (first | exact Ext.refl _ | assumption | exact held_left (by assumption) | apply Ext.drewN | apply Ext.drew | apply Ext.alloc | (refine Ext.setCell ?_ (by first | (simp; done) | (simp; omega) | omega) _) | (refine Ext.trans ?_ (by assumption)) | (refine Ext.trans ?_ (held_left (by assumption)))))))).mono ?_; rintro e w1 ⟨rfl, hb1⟩; have hE1 : Ext w w1 := (by (repeat (with_reducible (first | exact Ext.refl _ | assumption | exact held_left (by assumption) | apply Ext.drewN | apply Ext.drew | apply Ext.alloc | (refine Ext.setCell ?_ (by first | (simp; done) | (simp; omega) | omega) _) | (refine Ext.trans ?_ (by assumption)) | (refine Ext.trans ?_ (held_left (by assumption))))))))
    go_ret
    exact ⟨ret_int HKE2.out.symm, hE1⟩
  subst h0
  have HKE2 := Hid.mk' (HKE.out.trans (if_neg (by simp)))
  clear HKE
  go_enter Try.func30, Try.ntmps30
  go_wp2_with (go_at_call 69; refine (HFT.out _ (by (repeat (with_reducible (first | exact Ext.refl _ | assumption | exact held_left (by assumption) | apply Ext.drewN | apply Ext.drew | apply Ext.alloc | (refine Ext.setCell ?_ (by first | (simp; done) | (simp; omega) | omega) _) | (refine Ext.trans ?_ (by assumption)) | (refine Ext.trans ?_ (held_left (by assumption)))))))).mono ?_; rintro e w1 ⟨rfl, hb1⟩; have hE1 := Hid.mk' hb1; clear hb1)
  go_loopw [6] (fun i wr => ∃ k : Nat, k ≤ l.length ∧ i = .int .i64 k ∧ Hid (∀ j, j < k → sameE l j = 0) ∧ Hid (Ext (w.alloc (.cells #[.int .u32 oid, .int .u32 ver, .string nm, .int .u8 id, .slice a2 cols.length cap2] 27)) wr)) (fun i _ => l.length - (intOf i).toNat)
  case atStart => exact ⟨0, Nat.zero_le _, rfl, fun j h => by omega, hE1⟩
  case round =>
    obtain ⟨k, hk, rfl, hrel, hE⟩ := hrel
    have hEw : Hid (Ext w wr) := Hid.mk' (((Ext.refl w).alloc _).trans hE.out)
    by_cases hlt : k < l.length
    · obtain ⟨b, o, rfl, hb, hx⟩ := HL.out.at_ (i := k) (by simpa using hlt)
      obtain ⟨f0, f1, f2, f3, f4, f5⟩ := K.rcAt hlt hx hb hEw.out
      have hbw : b < wr.heap.size := Nat.lt_of_lt_of_le hb hEw.out.size
      have hKX : sameE l k = if l[k].k = 1 then 14 else 0 := by unfold sameE; rw [kindAt_lt hlt]
      clear hx
      by_cases hk0 : l[k].k = 1
      · have HZ := hKX.trans (if_pos hk0)
        have HR := Hid.mk' (HKE2.out.trans (show firstE (sameE l) l.length = 14 by rw [firstE_at hrel.out hlt (by rw [HZ]; decide), HZ]))
        rw [hk0] at f0
        clear hk0 hKX HZ
        go_wp2
        go_ret
        exact ⟨ret_int HR.out.symm, hEw.out⟩
      · have e0 : (l[k].k == 1) = false := by simpa using hk0
        have HZ := Hid.mk' (hKX.trans (if_neg hk0))
        clear hk0 hKX
        go_wp2
        go_roundw
        case rel => exact ⟨k + 1, by omega, by go_num, fun j hj => by
          by_cases e : j = k
          · subst e; exact HZ.out
          · exact hrel.out j (by omega), hE⟩
        case measure => simp [intOf]; omega
    · have hkk : k = l.length := by omega
      have HR := Hid.mk' (HKE2.out.trans (firstE_zero (fun i hi => hrel.out i (by omega))))
      subst hkk
      go_wp2
      go_ret
      exact ⟨ret_int HR.out.symm, hEw.out⟩

end Go.Proofs.Ytdbepkfblfhlhaa

/-
A new image with what was the same: the program's image.Merge, the reference's.
-/
namespace Go.Proofs.Ytdbepkfblfhlhaa
open Go.RowKit

/-- The first k of a row merged. -/
def mergeTo (b l : List K) (k : Nat) : List K := l.mapIdx fun i c => if i < k ∧ c.k = 1 then (b[i]?).getD c else c
theorem mergeTo_len {b l : List K} {k : Nat} : (mergeTo b l k).length = l.length := by simp [mergeTo]
theorem mergeTo_get {b l : List K} {k i : Nat} (h : i < (mergeTo b l k).length) : (mergeTo b l k)[i] = if i < k ∧ (l[i]'(by rw [mergeTo_len] at h; exact h)).k = 1 then (b[i]?).getD (l[i]'(by rw [mergeTo_len] at h; exact h)) else l[i]'(by rw [mergeTo_len] at h; exact h) := by simp [mergeTo]
theorem mergeTo_zero {b l : List K} : mergeTo b l 0 = l := by
  apply List.ext_getElem
  · rw [mergeTo_len]
  · intro i h1 h2; rw [mergeTo_get, if_neg (by omega)]
theorem mergeTo_all {b l : List K} : mergeTo b l l.length = mergeK b l := by
  apply List.ext_getElem
  · rw [mergeTo_len, mergeK_len]
  · intro i h1 h2
    have hi : i < l.length := by rwa [mergeTo_len] at h1
    rw [mergeTo_get, mergeK_get]
    by_cases h : l[i].k = 1
    · rw [if_pos ⟨hi, h⟩, if_pos h]
    · rw [if_neg (fun q => h q.2), if_neg h]
theorem mergeTo_at {b l : List K} {k : Nat} (h : k < (mergeTo b l k).length) : (mergeTo b l k)[k] = l[k]'(by rwa [mergeTo_len] at h) := by rw [mergeTo_get, if_neg (by omega)]
theorem mergeTo_skip {b l : List K} {k : Nat} (hk : k < l.length) (h : ¬ (l[k].k = 1 ∧ k < b.length)) : mergeTo b l (k + 1) = mergeTo b l k := by
  apply List.ext_getElem
  · rw [mergeTo_len, mergeTo_len]
  · intro i h1 h2
    rw [mergeTo_get, mergeTo_get]
    by_cases e : i = k
    · subst e
      rw [if_neg (fun q : i < i ∧ _ => by omega)]
      by_cases h1 : l[i].k = 1
      · rw [if_pos ⟨by omega, h1⟩, List.getElem?_eq_none (by have : ¬ i < b.length := fun q => h ⟨h1, q⟩; omega)]; rfl
      · rw [if_neg (fun q => h1 q.2)]
    · by_cases h3 : i < k ∧ (l[i]'(by rwa [mergeTo_len] at h1)).k = 1
      · rw [if_pos h3, if_pos ⟨by omega, h3.2⟩]
      · rw [if_neg h3, if_neg (fun q => h3 ⟨by omega, q.2⟩)]
theorem mergeTo_set {b l : List K} {k : Nat} (hk : k < l.length) (h : l[k].k = 1) (hb : k < b.length) : mergeTo b l (k + 1) = (mergeTo b l k).set k b[k] := by
  apply List.ext_getElem
  · rw [mergeTo_len, List.length_set, mergeTo_len]
  · intro i h1 h2
    rw [mergeTo_get]
    by_cases e : i = k
    · subst e
      rw [if_pos ⟨by omega, h⟩, List.getElem_set_self, List.getElem?_eq_getElem hb]; rfl
    · rw [List.getElem_set_ne (Ne.symm e), mergeTo_get]
      by_cases h3 : i < k ∧ (l[i]'(by rwa [mergeTo_len] at h1)).k = 1
      · rw [if_pos h3, if_pos ⟨by omega, h3.2⟩]
      · rw [if_neg h3, if_neg (fun q => h3 ⟨by omega, q.2⟩)]

theorem flatK_len (l : List K) : (l.map K.pc).flatten.length = l.length * 5 := by
  have := flat_length 5 (l.map K.pc) (fun xs hxs => by simp at hxs; obtain ⟨c, _, rfl⟩ := hxs; rfl)
  rwa [List.length_map] at this
theorem news_row {w : World} {b o : Nat} {l : List K} (h : ∀ i, i < l.length → ∀ j, j < 5 → w.cell? ⟨b, o + i * 5 + j, none⟩ = ((l.map K.pc).getD i [])[j]?) : ∀ j u, ((l.map K.pc).flatten)[j]? = some u → w.cell? ((⟨b, o, none⟩ : Addr).add j) = some u := by
  intro j u hj
  have hjl : j < l.length * 5 := by
    rcases Nat.lt_or_ge j (l.length * 5) with h | h
    · exact h
    · rw [List.getElem?_eq_none (by rw [flatK_len]; exact h)] at hj; cases hj
  have hplain : (⟨b, o, none⟩ : Addr).add j = ⟨b, o + j, none⟩ := by unfold Addr.add; split <;> simp_all
  have hi : j / 5 < l.length := by omega
  have hq := flat_get 5 (l.map K.pc) (fun xs hxs => by simp at hxs; obtain ⟨c, _, rfl⟩ := hxs; rfl) (j / 5) (by simpa using hi) (j % 5) (Nat.mod_lt _ (by decide))
  have hm : j / 5 * 5 + j % 5 = j := by omega
  rw [hm] at hq
  rw [hplain, ← hj, hq, ← h (j / 5) hi (j % 5) (Nat.mod_lt _ (by decide)), Nat.add_assoc, hm]

set_option maxRecDepth 100000 in set_option maxHeartbeats 1600000 in
theorem clonek_any (l : List K) (a : Option Addr) (cap : Nat) (w : World) (hl : Sl w (.slice a l.length cap) 5 (l.map K.pc)) (hlen : l.length ≤ 1000) :
    Calls Try.prog 75 #[.slice a l.length cap] w fun e w' => ∃ a' cap', e = .returned (.slice a' l.length cap') ∧ w'.ownsRow w.heap.size 78 5 (.slice a' l.length cap') l.length ((l.map K.pc).flatten) ∧ Ext w w' := by
  obtain ⟨i0, hi, hz0, hz1, hz2⟩ := info_parts Try.infoCellP
  have HL := Hid.mk' hl
  clear hl
  cases a with
  | none =>
    have h0 : l = [] := by
      obtain ⟨a, c, hv, h⟩ := HL.out
      simp only [Value.slice.injEq] at hv
      rcases h with h | ⟨b, o, ha, _⟩
      · simpa using h
      · rw [← hv.1] at ha; cases ha
    obtain ⟨a, c, hv, -⟩ := HL.out
    subst h0
    clear HL hv
    go_enter Try.func75, Try.ntmps75
    go_wp2
    go_ret
    exact ⟨_, _, rfl, World.ownsRow_nil _ _ _ _, by (repeat (with_reducible (first | exact Ext.refl _ | assumption | exact held_left (by assumption) | apply Ext.drewN | apply Ext.drew | apply Ext.alloc | (refine Ext.setCell ?_ (by first | (simp; done) | (simp; omega) | omega) _) | (refine Ext.trans ?_ (by assumption)) | (refine Ext.trans ?_ (held_left (by assumption))))))⟩
  | some ad =>
    have hnews : ∀ j u, ((l.map K.pc).flatten)[j]? = some u → (w.alloc (.cells #[] 78)).cell? (ad.add j) = some u := by
      obtain ⟨a, c, hv, h⟩ := HL.out
      simp only [Value.slice.injEq] at hv
      obtain ⟨rfl, -, -⟩ := hv
      rcases h with h | ⟨b, o, ha, hb, hc⟩
      · have h0 : l = [] := by simpa using h
        subst h0; intro j u hj; simp at hj
      · cases ha
        refine news_row fun i hi j hj => ?_
        have hE : Ext w (w.alloc (.cells #[] 78)) := (Ext.refl w).alloc _
        rw [hE.cells.1 b _ hb]
        exact hc i (by simpa using hi) j hj
    have HN := Hid.mk' hnews
    clear HL hnews
    go_enter Try.func75, Try.ntmps75
    go_wp2_with (at_builtin; refine wpList_append_own _ rfl _ _ 33 rfl w.heap.size 78 i0 _ 5 56 Try.underlying33 hi hz0 hz1 hz2 rfl (by decide) (.slice (some ⟨w.heap.size, 0, none⟩) 0 0) 0 [] rfl ?c0 _ l.length _ ((l.map K.pc).flatten) rfl (flatK_len l) HN.out ?c2 ?c3 ?c4 ?c5 ?_)
    case c0 => exact ⟨rfl, .inr ⟨_, 0, #[], rfl, Nat.le_refl _, Blk.new w #[] _, Nat.le_refl _, Nat.zero_le _, rfl, rfl⟩⟩
    case c2 => intro u hu; rw [List.mem_flatten] at hu; obtain ⟨xs, hxs, hu⟩ := hu; rw [List.mem_map] at hxs; obtain ⟨c, _, rfl⟩ := hxs; simp [K.pc] at hu; rcases hu with rfl | rfl | rfl | rfl | rfl <;> rfl
    case c3 => unfold maxLen; omega
    case c4 => omega
    case c5 => simp
    intro v' w2 hown hgrow _
    have hown : w2.ownsRow w.heap.size 78 5 v' l.length ((l.map K.pc).flatten) := by simpa using hown
    have hE2 : Ext w w2 := ((Ext.refl w).alloc (.cells #[] 78)).grown (v := .slice (some ⟨w.heap.size, 0, none⟩) 0 0) (e := 78) (size := 5) (n := 0) (xs := []) ⟨rfl, .inr ⟨_, 0, #[], rfl, Nat.le_refl _, Blk.new w #[] _, Nat.le_refl _, Nat.zero_le _, rfl, rfl⟩⟩ hgrow
    obtain ⟨a', c', rfl⟩ := owns_shape hown
    have HO := Hid.mk' hown
    have HE2 := Hid.mk' hE2
    clear hown hE2 hgrow
    go_wp2
    go_ret
    exact ⟨a', c', rfl, HO.out, HE2.out⟩

set_option maxRecDepth 100000 in set_option maxHeartbeats 4000000 in
theorem merge_any (lb l : List K) (ab a : Option Addr) (cb cap : Nat) (w : World) (hb : Sl w (.slice ab lb.length cb) 5 (lb.map K.pc)) (hl : Sl w (.slice a l.length cap) 5 (l.map K.pc)) (hlb : lb.length ≤ 1000) (hlen : l.length ≤ 1000) :
    Calls Try.prog 35 #[.slice ab lb.length cb, .slice a l.length cap] w fun e w' => ∃ a' cap', e = .returned (.slice a' l.length cap') ∧ l.length ≤ cap' ∧ Sl w' (.slice a' l.length cap') 5 ((mergeK lb l).map K.pc) ∧ Ext w w' := by
  have HC := Hid.mk' (fun W (h : Ext w W) => clonek_any l a cap W (hl.ext h) hlen)
  have HB := Hid.mk' hb
  clear hb hl
  by_cases h0 : l.length = 0
  · have hl0 : l = [] := List.length_eq_zero_iff.1 h0
    subst hl0
    clear h0
    go_enter Try.func35, Try.ntmps35
    go_wp2_with (go_at_call 75; refine (HC.out _ (by (repeat (with_reducible (first | exact Ext.refl _ | assumption | exact held_left (by assumption) | apply Ext.drewN | apply Ext.drew | apply Ext.alloc | (refine Ext.setCell ?_ (by first | (simp; done) | (simp; omega) | omega) _) | (refine Ext.trans ?_ (by assumption)) | (refine Ext.trans ?_ (held_left (by assumption)))))))).mono ?_; rintro e w1 ⟨a', c', rfl, ho, hb1⟩; clear ho)
    go_loopw [12] (fun i wr => i = .int .i64 0 ∧ Hid (Ext w wr)) (fun _ _ => 0)
    case atStart => exact ⟨rfl, Hid.mk' (by (repeat (with_reducible (first | exact Ext.refl _ | assumption | exact held_left (by assumption) | apply Ext.drewN | apply Ext.drew | apply Ext.alloc | (refine Ext.setCell ?_ (by first | (simp; done) | (simp; omega) | omega) _) | (refine Ext.trans ?_ (by assumption)) | (refine Ext.trans ?_ (held_left (by assumption)))))))⟩
    case round =>
      obtain ⟨rfl, hE⟩ := hrel
      go_wp2
      go_ret
      exact ⟨a', c', rfl, Nat.zero_le _, ⟨a', c', rfl, .inl rfl⟩, hE.out⟩
  go_enter Try.func35, Try.ntmps35
  go_wp2_with (go_at_call 75; refine (HC.out _ (by (repeat (with_reducible (first | exact Ext.refl _ | assumption | exact held_left (by assumption) | apply Ext.drewN | apply Ext.drew | apply Ext.alloc | (refine Ext.setCell ?_ (by first | (simp; done) | (simp; omega) | omega) _) | (refine Ext.trans ?_ (by assumption)) | (refine Ext.trans ?_ (held_left (by assumption)))))))).mono ?_; rintro e w1 ⟨a', c', rfl, ho, hb1⟩; have HO := Hid.mk' ho; clear ho)
  obtain ⟨g, rfl, hg, hcap⟩ : ∃ g, a' = some ⟨g, 0, none⟩ ∧ w.heap.size ≤ g ∧ l.length ≤ c' := by
    rcases HO.out.2 with ⟨-, h1⟩ | ⟨g, cap', cur, hv, hg, -, hn, -⟩
    · exact absurd h1 h0
    · simp only [Value.slice.injEq] at hv
      exact ⟨g, hv.1, hg, owns_cap HO.out⟩
  have HR0 := Hid.mk' (RowAt.of_owns HO.out rfl)
  clear HO
  go_loopw [12] (fun i wr => ∃ k : Nat, k ≤ l.length ∧ i = .int .i64 k ∧ Hid (RowAt wr g (mergeTo lb l k)) ∧ Hid (Ext w wr)) (fun i _ => l.length - (intOf i).toNat)
  case atStart => exact ⟨0, Nat.zero_le _, rfl, Hid.mk' (by rw [mergeTo_zero]; exact HR0.out), Hid.mk' (by (repeat (with_reducible (first | exact Ext.refl _ | assumption | exact held_left (by assumption) | apply Ext.drewN | apply Ext.drew | apply Ext.alloc | (refine Ext.setCell ?_ (by first | (simp; done) | (simp; omega) | omega) _) | (refine Ext.trans ?_ (by assumption)) | (refine Ext.trans ?_ (held_left (by assumption)))))))⟩
  case round =>
    obtain ⟨k, hk, rfl, hr, hE⟩ := hrel
    by_cases hlt : k < l.length
    · have hkm : k < (mergeTo lb l k).length := by rw [mergeTo_len]; exact hlt
      obtain ⟨f0, f1, f2, f3, f4⟩ := hr.out.cells hkm
      rw [mergeTo_at] at f0 f1 f2 f3 f4
      have hgw := hr.out.lt
      have hfz := hr.out.frozen
      have HSK := Hid.mk' (fun h => mergeTo_skip (b := lb) hlt h)
      have HST := Hid.mk' (fun h h2 => mergeTo_set (b := lb) hlt h h2)
      obtain ⟨c, hc⟩ : ∃ c, c = l[k] := ⟨_, rfl⟩
      rw [← hc] at f0 f1 f2 f3 f4 HSK HST
      clear hc
      by_cases h1 : c.k = 1
      · have h1' : (c.k == 1) = true := by simpa using h1
        by_cases h2 : k < lb.length
        · obtain ⟨b, o, rfl, hbb, hx⟩ := HB.out.at_ (i := k) (by simpa using h2)
          obtain ⟨p0, p1, p2, p3, p4⟩ := K.pcAt h2 hx hbb hE.out
          have hbw : b < wr.heap.size := Nat.lt_of_lt_of_le hbb hE.out.size
          have HS2 := Hid.mk' (HST.out h1 h2)
          obtain ⟨d, hd⟩ : ∃ d, d = lb[k] := ⟨_, rfl⟩
          rw [← hd] at p0 p1 p2 p3 p4 HS2
          clear hd hx h1 HSK HST
          go_wp2
          go_roundw
          case rel => exact ⟨k + 1, by omega, by go_num, Hid.mk' (by rw [HS2.out]; exact (hr.out.set hkm d).alloc _), Hid.mk' (by have hE := hE.out; (repeat (with_reducible (first | exact Ext.refl _ | assumption | exact held_left (by assumption) | apply Ext.drewN | apply Ext.drew | apply Ext.alloc | (refine Ext.setCell ?_ (by first | (simp; done) | (simp; omega) | omega) _) | (refine Ext.trans ?_ (by assumption)) | (refine Ext.trans ?_ (held_left (by assumption)))))))⟩
          case measure => simp [intOf]; omega
        · have HS2 := Hid.mk' (HSK.out (fun q => h2 q.2))
          have h2' : lb.length ≤ k := by omega
          clear HSK HST h1
          go_wp2
          go_roundw
          case rel => exact ⟨k + 1, by omega, by go_num, Hid.mk' (by rw [HS2.out]; exact hr.out.alloc _), Hid.mk' (by have hE := hE.out; (repeat (with_reducible (first | exact Ext.refl _ | assumption | exact held_left (by assumption) | apply Ext.drewN | apply Ext.drew | apply Ext.alloc | (refine Ext.setCell ?_ (by first | (simp; done) | (simp; omega) | omega) _) | (refine Ext.trans ?_ (by assumption)) | (refine Ext.trans ?_ (held_left (by assumption)))))))⟩
          case measure => simp [intOf]; omega
      · have h1' : (c.k == 1) = false := by simpa using h1
        have HS2 := Hid.mk' (HSK.out (fun q => h1 q.1))
        clear HSK HST h1
        go_wp2
        go_roundw
        case rel => exact ⟨k + 1, by omega, by go_num, Hid.mk' (by rw [HS2.out]; exact hr.out.alloc _), Hid.mk' (by have hE := hE.out; (repeat (with_reducible (first | exact Ext.refl _ | assumption | exact held_left (by assumption) | apply Ext.drewN | apply Ext.drew | apply Ext.alloc | (refine Ext.setCell ?_ (by first | (simp; done) | (simp; omega) | omega) _) | (refine Ext.trans ?_ (by assumption)) | (refine Ext.trans ?_ (held_left (by assumption)))))))⟩
        case measure => simp [intOf]; omega
    · have hkk : k = l.length := by omega
      subst hkk
      go_wp2
      go_ret
      have hr := hr.out
      rw [mergeTo_all] at hr
      have := hr.sl c'
      rw [mergeK_len] at this
      exact ⟨_, c', rfl, hcap, this, hE.out⟩

end Go.Proofs.Ytdbepkfblfhlhaa

/-
A row filled with the texts of its holes: the program's Fill.
-/
namespace Go.Proofs.Ytdbepkfblfhlhaa
open Go.RowKit

theorem Ho.at_ {w wr : World} {b o : Nat} {l : List Ho} {k : Nat} (hk : k < l.length) (hc : ∀ j, j < 2 → w.cell? ⟨b, o + k * 2 + j, none⟩ = ((l.map Ho.cells).getD k [])[j]?) (hb : b < w.heap.size) (hE : Ext w wr) :
    wr.cell? ⟨b, o + k * 2, none⟩ = some (.int .i64 l[k].c) ∧ wr.cell? ⟨b, o + k * 2 + 1, none⟩ = some (.int .i64 l[k].n) := by
  rw [getD_map Ho.cells l hk] at hc
  have c := hE.cells.1 b
  exact ⟨(c _ hb).trans (hc 0 (by omega)), (c _ hb).trans (hc 1 (by omega))⟩
theorem str_at {w wr : World} {b o : Nat} {l : List ByteArray} {k : Nat} (hk : k < l.length) (hc : ∀ j, j < 1 → w.cell? ⟨b, o + k * 1 + j, none⟩ = ((l.map strC).getD k [])[j]?) (hb : b < w.heap.size) (hE : Ext w wr) :
    wr.cell? ⟨b, o + k, none⟩ = some (.string l[k]) := by
  rw [getD_map strC l hk] at hc
  have := hc 0 (by omega)
  rw [Nat.mul_one, Nat.add_zero] at this
  exact (hE.cells.1 b _ hb).trans this
theorem RowAt.setText {W : World} {g : Nat} {ks : List K} (h : RowAt W g ks) {i : Nat} (hi : i < ks.length) (s : ByteArray) : RowAt (W.setCell ⟨g, i * 5 + 4, none⟩ (.string s)) g (Go.Proofs.Ytdbepkfblfhlhaa.setText ks i s) := by
  obtain ⟨cs, hb, hs, hx⟩ := h
  refine ⟨_, hb.set _ _, by rw [setText_len]; simpa using hs, fun q hq j hj => ?_⟩
  have hq2 : q < ks.length := by rwa [setText_len] at hq
  have e0 : Go.Proofs.Ytdbepkfblfhlhaa.setText ks i s = ks.set i ⟨ks[i].k, { ks[i].v with s := s }⟩ := by unfold Go.Proofs.Ytdbepkfblfhlhaa.setText; rw [dif_pos hi]
  have e1 : (Go.Proofs.Ytdbepkfblfhlhaa.setText ks i s)[q]'hq = (ks.set i ⟨ks[i].k, { ks[i].v with s := s }⟩)[q]'(by simpa using hq2) := by
    congr 1
  rw [e1, Array.getElem?_setIfInBounds]
  by_cases e : q = i
  · subst e
    rw [List.getElem_set_self]
    have hx := hx q hq2 j hj
    have : j = 0 ∨ j = 1 ∨ j = 2 ∨ j = 3 ∨ j = 4 := by omega
    rcases this with rfl | rfl | rfl | rfl | rfl
    · rw [if_neg (by omega), hx]; rfl
    · rw [if_neg (by omega), hx]; rfl
    · rw [if_neg (by omega), hx]; rfl
    · rw [if_neg (by omega), hx]; rfl
    · rw [if_pos rfl, if_pos (by omega)]; rfl
  · rw [List.getElem_set_ne (Ne.symm e), if_neg (by omega)]
    exact hx q hq2 j hj

/-- What Fill answers. -/
def FillPost (l : List K) (hs : List Ho) (ts : List ByteArray) (w : World) (e : Ending) (w' : World) : Prop :=
  ∃ a' cap', e = .returned (.tuple #[.slice a' (fillW l hs ts).length cap', .int .i64 (fillE l hs ts)]) ∧ Sl w' (.slice a' (fillW l hs ts).length cap') 5 ((fillW l hs ts).map K.pc) ∧ Ext w w'
theorem FillPost.bad {l : List K} {hs : List Ho} {ts : List ByteArray} {w w' : World} {E : Int} (h : fillE l hs ts = E) (h0 : E ≠ 0) (hE : Ext w w') : FillPost l hs ts w (.returned (.tuple #[.slice none 0 0, .int .i64 E])) w' := by
  have : fillW l hs ts = [] := by unfold fillW; rw [if_neg (by rw [h]; exact h0)]
  unfold FillPost
  rw [this, h]
  exact ⟨none, 0, rfl, ⟨none, 0, rfl, .inl rfl⟩, hE⟩
theorem FillPost.ok {l : List K} {hs : List Ho} {ts : List ByteArray} {w w' : World} {m : List K} {a : Option Addr} {n cap : Nat} (h : fillE l hs ts = 0) (hm : fillUp l hs ts hs.length = m) (hn : n = m.length) (hl : Sl w' (.slice a n cap) 5 (m.map K.pc)) (hE : Ext w w') :
    FillPost l hs ts w (.returned (.tuple #[.slice a n cap, .int .i64 0])) w' := by
  have : fillW l hs ts = m := by unfold fillW; rw [if_pos h, hm]
  unfold FillPost
  subst hn
  rw [this, h]
  exact ⟨a, cap, rfl, hl, hE⟩

theorem fillE_len {l : List K} {hs : List Ho} {ts : List ByteArray} (h : hs.length ≠ ts.length) : fillE l hs ts = 17 := by unfold fillE; rw [if_pos h]
theorem fillE_hole {l : List K} {hs : List Ho} {ts : List ByteArray} (h : hs.length = ts.length) {k : Nat} (hk : k < hs.length) (hb : hs[k].c < 0 ∨ (l.length : Int) ≤ hs[k].c) (hp : ∀ j, j < k → holeBad l.length hs j = 0) : fillE l hs ts = 4 := by
  have h4 : holeBad l.length hs k = 4 := by unfold holeBad; rw [dif_pos hk, if_pos hb]
  unfold fillE
  rw [if_neg (by simpa using h), if_pos (by rw [firstE_at hp hk (by rw [h4]; decide), h4]; decide)]
theorem fillE_size {l : List K} {hs : List Ho} {ts : List ByteArray} (h : hs.length = ts.length) (hA : ∀ j, j < hs.length → holeBad l.length hs j = 0) {k : Nat} (hk : k < hs.length) (hk2 : k < ts.length) (hb : (ts[k].size : Int) ≠ hs[k].n) (hp : ∀ j, j < k → sizeBad hs ts j = 0) : fillE l hs ts = 16 := by
  have h4 : sizeBad hs ts k = 16 := by unfold sizeBad; rw [dif_pos ⟨hk, hk2⟩, if_pos hb]
  unfold fillE
  rw [if_neg (by simpa using h), if_neg (by rw [firstE_zero hA]; decide), if_pos (by rw [firstE_at hp hk (by rw [h4]; decide), h4]; decide)]
theorem fillE_ok {l : List K} {hs : List Ho} {ts : List ByteArray} (h : hs.length = ts.length) (hA : ∀ j, j < hs.length → holeBad l.length hs j = 0) (hB : ∀ j, j < hs.length → sizeBad hs ts j = 0) : fillE l hs ts = 0 := by
  unfold fillE
  rw [if_neg (by simpa using h), if_neg (by rw [firstE_zero hA]; decide), if_neg (by rw [firstE_zero hB]; decide)]
theorem hole_ok {n : Nat} {hs : List Ho} {k : Nat} (hk : k < hs.length) (h : holeBad n hs k = 0) : 0 ≤ hs[k].c ∧ hs[k].c < n := by
  unfold holeBad at h
  rw [dif_pos hk] at h
  by_cases h1 : hs[k].c < 0 ∨ (n : Int) ≤ hs[k].c
  · rw [if_pos h1] at h; cases h
  · omega

set_option maxRecDepth 100000 in set_option maxHeartbeats 4000000 in
theorem fill_any (l : List K) (hs : List Ho) (ts : List ByteArray) (a ah at' : Option Addr) (cap ch ct : Nat) (w : World) (hl : Sl w (.slice a l.length cap) 5 (l.map K.pc)) (hh : Sl w (.slice ah hs.length ch) 2 (hs.map Ho.cells)) (ht : Sl w (.slice at' ts.length ct) 1 (ts.map strC))
    (hlen : l.length ≤ 1000) (hlen2 : hs.length ≤ 1000) (_hlen3 : ts.length ≤ 1000) (hsz : ∀ t ∈ ts, t.size ≤ 9223372036854775807) :
    Calls Try.prog 47 #[.slice a l.length cap, .slice ah hs.length ch, .slice at' ts.length ct] w (FillPost l hs ts w) := by
  have HC := Hid.mk' (fun W (h : Ext w W) => clonek_any l a cap W (hl.ext h) hlen)
  have HH := Hid.mk' hh
  have HT := Hid.mk' ht
  have HSZ := Hid.mk' hsz
  clear hl hh ht hsz
  by_cases hn : hs.length = ts.length
  case neg =>
    have hn' : (((hs.length : Nat) : Int) != ((ts.length : Nat) : Int)) = true := by simp; omega
    have HR := Hid.mk' (fillE_len (l := l) hn)
    clear hn
    go_enter Try.func47, Try.ntmps47
    go_wp2
    go_ret2
    exact FillPost.bad HR.out (by decide) (by (repeat (with_reducible (first | exact Ext.refl _ | assumption | exact held_left (by assumption) | apply Ext.drewN | apply Ext.drew | apply Ext.alloc | (refine Ext.setCell ?_ (by first | (simp; done) | (simp; omega) | omega) _) | (refine Ext.trans ?_ (by assumption)) | (refine Ext.trans ?_ (held_left (by assumption)))))))
  have hn' : (((hs.length : Nat) : Int) != ((ts.length : Nat) : Int)) = false := by simp; omega
  have HN := Hid.mk' hn
  clear hn
  go_enter Try.func47, Try.ntmps47
  go_wp2_with (go_at_call 75; refine (HC.out _ (by (repeat (with_reducible (first | exact Ext.refl _ | assumption | exact held_left (by assumption) | apply Ext.drewN | apply Ext.drew | apply Ext.alloc | (refine Ext.setCell ?_ (by first | (simp; done) | (simp; omega) | omega) _) | (refine Ext.trans ?_ (by assumption)) | (refine Ext.trans ?_ (held_left (by assumption)))))))).mono ?_; rintro e w1 ⟨a', c', rfl, ho, hb1⟩; have HO := Hid.mk' ho; have HE1 := Hid.mk' hb1; clear ho hb1)
  go_loopw [22] (fun i wr => ∃ k : Nat, k ≤ hs.length ∧ i = .int .i64 k ∧ Hid (∀ j, j < k → holeBad l.length hs j = 0) ∧ Hid (Ext w1 wr)) (fun i _ => hs.length - (intOf i).toNat)
  case atStart => exact ⟨0, Nat.zero_le _, rfl, Hid.mk' (fun j h => by omega), Hid.mk' (Ext.refl _)⟩
  case round =>
    obtain ⟨k, hk, rfl, hrel, hE⟩ := hrel
    by_cases hlt : k < hs.length
    · obtain ⟨b, o, rfl, hb, hx⟩ := HH.out.at_ (i := k) (by simpa using hlt)
      obtain ⟨f0, f1⟩ := Ho.at_ hlt hx hb (HE1.out.trans hE.out)
      have hbw : b < wr.heap.size := Nat.lt_of_lt_of_le hb (HE1.out.trans hE.out).size
      clear hx
      by_cases hbad : hs[k].c < 0 ∨ (l.length : Int) ≤ hs[k].c
      · have HR := Hid.mk' (fillE_hole HN.out hlt hbad hrel.out)
        obtain ⟨hk', hke⟩ : ∃ hk', hk' = hs[k] := ⟨_, rfl⟩
        rw [← hke] at f0 f1 hbad
        clear hke
        go_wp2
        all_goals
          go_ret2
          exact FillPost.bad HR.out (by decide) (HE1.out.trans (by have hE := hE.out; (repeat (with_reducible (first | exact Ext.refl _ | assumption | exact held_left (by assumption) | apply Ext.drewN | apply Ext.drew | apply Ext.alloc | (refine Ext.setCell ?_ (by first | (simp; done) | (simp; omega) | omega) _) | (refine Ext.trans ?_ (by assumption)) | (refine Ext.trans ?_ (held_left (by assumption))))))))
      · have HZ := Hid.mk' (show holeBad l.length hs k = 0 by unfold holeBad; rw [dif_pos hlt, if_neg hbad])
        obtain ⟨j, hj⟩ : ∃ j : Nat, hs[k].c = (j : Int) := ⟨hs[k].c.toNat, by omega⟩
        rw [hj] at f0 hbad
        have hjl : j < l.length := by omega
        clear hbad hj
        go_wp2
        go_roundw
        case rel => exact ⟨k + 1, by omega, by go_num, Hid.mk' (fun j hj => by
          by_cases e : j = k
          · subst e; exact HZ.out
          · exact hrel.out j (by omega)), Hid.mk' (by have hE := hE.out; (repeat (with_reducible (first | exact Ext.refl _ | assumption | exact held_left (by assumption) | apply Ext.drewN | apply Ext.drew | apply Ext.alloc | (refine Ext.setCell ?_ (by first | (simp; done) | (simp; omega) | omega) _) | (refine Ext.trans ?_ (by assumption)) | (refine Ext.trans ?_ (held_left (by assumption)))))))⟩
        case measure => simp [intOf]; omega
    · obtain rfl : k = hs.length := by omega
      have HA := hrel
      have HW1 := hE
      have HE2 := Hid.mk' (HE1.out.trans hE.out)
      clear hrel hE
      by_cases h0 : l.length = 0
      · have hh0 : hs.length = 0 := by
          rcases Nat.eq_zero_or_pos hs.length with h | h
          · exact h
          · have := hole_ok h (HA.out 0 h); omega
        have HF := Hid.mk' (fillE_ok HN.out HA.out (fun j hj => by omega))
        go_wp2
        rename World => wq
        go_loopw [39] (fun i w3 => i = .int .i64 0 ∧ Hid (Ext wq w3)) (fun _ _ => 0)
        case atStart => exact ⟨rfl, Hid.mk' (Ext.refl _)⟩
        case round =>
          obtain ⟨rfl, hE⟩ := hrel
          go_wp2
          go_ret2
          have hl0 : l = [] := List.length_eq_zero_iff.1 h0
          have hs0 : hs = [] := List.length_eq_zero_iff.1 hh0
          subst hl0 hs0
          exact FillPost.ok HF.out rfl rfl ⟨a', c', rfl, .inl rfl⟩ (HE2.out.trans hE.out)
      obtain ⟨g, rfl, hcap, hgw⟩ : ∃ g, a' = some ⟨g, 0, none⟩ ∧ l.length ≤ c' ∧ w.heap.size ≤ g := by
        rcases HO.out.2 with ⟨-, h1⟩ | ⟨g, cap', cur, hv, hg, -, hn, -⟩
        · exact absurd h1 h0
        · simp only [Value.slice.injEq] at hv
          exact ⟨g, hv.1, owns_cap HO.out, hg⟩
      have HR0 := Hid.mk' ((RowAt.of_owns HO.out rfl).ext HW1.out)
      clear HO HW1 HC
      go_wp2
      rename World => wq
      go_loopw [39] (fun i wr => ∃ k : Nat, k ≤ hs.length ∧ i = .int .i64 k ∧ Hid (∀ j, j < k → sizeBad hs ts j = 0) ∧ Hid (RowAt wr g (fillUp l hs ts k)) ∧ Hid (Ext w wr)) (fun i _ => hs.length - (intOf i).toNat)
      case atStart => exact ⟨0, Nat.zero_le _, rfl, Hid.mk' (fun j h => by omega), HR0, HE2⟩
      case round =>
        obtain ⟨k, hk, rfl, hrel, hr, hE⟩ := hrel
        by_cases hlt : k < hs.length
        · have hlt2 : k < ts.length := by have := HN.out; omega
          obtain ⟨b, o, rfl, hb, hx⟩ := HH.out.at_ (i := k) (by simpa using hlt)
          obtain ⟨f0, f1⟩ := Ho.at_ hlt hx hb hE.out
          obtain ⟨b2, o2, rfl, hb2, hx2⟩ := HT.out.at_ (i := k) (by simpa using hlt2)
          have p0 := str_at hlt2 hx2 hb2 hE.out
          have hbw : b < wr.heap.size := Nat.lt_of_lt_of_le hb hE.out.size
          have hbw2 : b2 < wr.heap.size := Nat.lt_of_lt_of_le hb2 hE.out.size
          have hsz := HSZ.out _ (List.getElem_mem hlt2)
          have hok := hole_ok hlt (HA.out k hlt)
          have HS := Hid.mk' (fillUp_succ (l := l) hlt hlt2)
          have HB := Hid.mk' (fun (h : (ts[k].size : Int) ≠ hs[k].n) => fillE_size (l := l) HN.out HA.out hlt hlt2 h hrel.out)
          have HZ := Hid.mk' (fun (h : ¬ (ts[k].size : Int) ≠ hs[k].n) => show sizeBad hs ts k = 0 by unfold sizeBad; rw [dif_pos ⟨hlt, hlt2⟩, if_neg h])
          obtain ⟨j, hj⟩ : ∃ j : Nat, hs[k].c = (j : Int) := ⟨hs[k].c.toNat, by omega⟩
          rw [hj] at f0 hok HS
          rw [Int.toNat_natCast] at HS
          have hjl : j < l.length := by omega
          have hgl := hr.out.lt
          have hgf := hr.out.frozen
          have HJ := Hid.mk' (show j < (fillUp l hs ts k).length by rw [fillUp_len]; exact hjl)
          obtain ⟨old, hg4⟩ : ∃ old, wr.cell? ⟨g, j * 5 + 4, none⟩ = some (.string old) := ⟨_, (hr.out.cells HJ.out).2.2.2.2⟩
          obtain ⟨t, hte⟩ : ∃ t, t = ts[k] := ⟨_, rfl⟩
          obtain ⟨q, hqe⟩ : ∃ q, q = hs[k].n := ⟨_, rfl⟩
          rw [← hte] at p0 hsz HS HB HZ
          rw [← hqe] at f1 HB HZ
          clear hx hx2 hte hqe hj hok
          by_cases hbad : (t.size : Int) ≠ q
          · have HR := Hid.mk' (HB.out hbad)
            have hb' : (((t.size : Nat) : Int) != q) = true := by simpa using hbad
            clear HB HZ hbad
            go_wp2
            go_region_held3 (fun w' => Ext (wr.alloc (.cells #[.int .i64 j, .int .i64 q] 98)) w' ∧ (∀ b o, b < (wr.alloc (.cells #[.int .i64 j, .int .i64 q] 98)).heap.size → w'.cell? ⟨b, o, none⟩ = (wr.alloc (.cells #[.int .i64 j, .int .i64 q] 98)).cell? ⟨b, o, none⟩) ∧ (∀ b o, b < (wr.alloc (.cells #[.int .i64 j, .int .i64 q] 98)).heap.size → w'.frozen? ⟨b, o, none⟩ = (wr.alloc (.cells #[.int .i64 j, .int .i64 q] 98)).frozen? ⟨b, o, none⟩)) ((exact held_of (by (repeat (with_reducible (first | exact Ext.refl _ | assumption | exact held_left (by assumption) | apply Ext.drewN | apply Ext.drew | apply Ext.alloc | (refine Ext.setCell ?_ (by first | (simp; done) | (simp; omega) | omega) _) | (refine Ext.trans ?_ (by assumption)) | (refine Ext.trans ?_ (held_left (by assumption))))))))) (fail)
            go_wp2
            go_ret2
            exact FillPost.bad HR.out (by decide) (hE.out.trans (by (repeat (with_reducible (first | exact Ext.refl _ | assumption | exact held_left (by assumption) | apply Ext.drewN | apply Ext.drew | apply Ext.alloc | (refine Ext.setCell ?_ (by first | (simp; done) | (simp; omega) | omega) _) | (refine Ext.trans ?_ (by assumption)) | (refine Ext.trans ?_ (held_left (by assumption))))))))
          · have HR := Hid.mk' (HZ.out hbad)
            have hb' : (((t.size : Nat) : Int) != q) = false := by simpa using hbad
            clear HB HZ hbad
            go_wp2
            go_region_held3 (fun w' => Ext (wr.alloc (.cells #[.int .i64 j, .int .i64 q] 98)) w' ∧ (∀ b o, b < (wr.alloc (.cells #[.int .i64 j, .int .i64 q] 98)).heap.size → w'.cell? ⟨b, o, none⟩ = (wr.alloc (.cells #[.int .i64 j, .int .i64 q] 98)).cell? ⟨b, o, none⟩) ∧ (∀ b o, b < (wr.alloc (.cells #[.int .i64 j, .int .i64 q] 98)).heap.size → w'.frozen? ⟨b, o, none⟩ = (wr.alloc (.cells #[.int .i64 j, .int .i64 q] 98)).frozen? ⟨b, o, none⟩)) ((exact held_of (by (repeat (with_reducible (first | exact Ext.refl _ | assumption | exact held_left (by assumption) | apply Ext.drewN | apply Ext.drew | apply Ext.alloc | (refine Ext.setCell ?_ (by first | (simp; done) | (simp; omega) | omega) _) | (refine Ext.trans ?_ (by assumption)) | (refine Ext.trans ?_ (held_left (by assumption))))))))) (fail)
            go_wp2
            refine wp_region_head 7 (fun w' => Ext (wr.alloc (.cells #[.int .i64 j, .int .i64 q] 98)) w' ∧ (∀ b o, b < (wr.alloc (.cells #[.int .i64 j, .int .i64 q] 98)).heap.size → w'.cell? ⟨b, o, none⟩ = (wr.alloc (.cells #[.int .i64 j, .int .i64 q] 98)).cell? ⟨b, o, none⟩) ∧ (∀ b o, b < (wr.alloc (.cells #[.int .i64 j, .int .i64 q] 98)).heap.size → w'.frozen? ⟨b, o, none⟩ = (wr.alloc (.cells #[.int .i64 j, .int .i64 q] 98)).frozen? ⟨b, o, none⟩)) (by kernel_rfl) (by decide) ?_
            have hA0 : Hid ((fun w' => Ext (wr.alloc (.cells #[.int .i64 j, .int .i64 q] 98)) w' ∧ (∀ b o, b < (wr.alloc (.cells #[.int .i64 j, .int .i64 q] 98)).heap.size → w'.cell? ⟨b, o, none⟩ = (wr.alloc (.cells #[.int .i64 j, .int .i64 q] 98)).cell? ⟨b, o, none⟩) ∧ (∀ b o, b < (wr.alloc (.cells #[.int .i64 j, .int .i64 q] 98)).heap.size → w'.frozen? ⟨b, o, none⟩ = (wr.alloc (.cells #[.int .i64 j, .int .i64 q] 98)).frozen? ⟨b, o, none⟩)) (wr.alloc (.cells #[.int .i64 j, .int .i64 q] 98)).drew.drew) := held_of (by (repeat (with_reducible (first | exact Ext.refl _ | assumption | exact held_left (by assumption) | apply Ext.drewN | apply Ext.drew | apply Ext.alloc | (refine Ext.setCell ?_ (by first | (simp; done) | (simp; omega) | omega) _) | (refine Ext.trans ?_ (by assumption)) | (refine Ext.trans ?_ (held_left (by assumption)))))))
            (refine wpHd_take (i := 0) (v := ?_) rfl (by kernel_rfl) (by kernel_rfl) (by kernel_rfl) (fun _ _ _ h => h) (Or.inl ⟨by rfl, ?_⟩) hA0.out ?_; rotate_left 1; · (intro w' hS'; (obtain ⟨hEs', hcs', hfs'⟩ := hS'); go_simp; try with_reducible rfl))
            (refine wpHd_take (i := 1) (v := ?_) rfl (by kernel_rfl) (by kernel_rfl) (by kernel_rfl) (fun _ _ _ h => h) (Or.inl ⟨by rfl, ?_⟩) hA0.out ?_; rotate_left 1; · (intro w' hS'; (obtain ⟨hEs', hcs', hfs'⟩ := hS'); go_simp; try with_reducible rfl))
            (refine wpHd_take (i := 2) (v := ?_) rfl (by kernel_rfl) (by kernel_rfl) (by kernel_rfl) (fun _ _ _ h => h) (Or.inl ⟨by rfl, ?_⟩) hA0.out ?_; rotate_left 1; · (intro w' hS'; (obtain ⟨hEs', hcs', hfs'⟩ := hS'); go_simp; try with_reducible rfl))
            (refine wpHd_take (i := 3) (v := ?_) rfl (by kernel_rfl) (by kernel_rfl) (by kernel_rfl) (fun _ _ _ h => h) (Or.inl ⟨by rfl, ?_⟩) hA0.out ?_; rotate_left 1; · (intro w' hS'; (obtain ⟨hEs', hcs', hfs'⟩ := hS'); go_simp; try with_reducible rfl))
            (refine wpHd_take (i := 4) (v := ?_) rfl (by kernel_rfl) (by kernel_rfl) (by kernel_rfl) (fun _ _ _ h => h) (Or.inl ⟨by rfl, ?_⟩) hA0.out ?_; rotate_left 1; · (intro w' hS'; (obtain ⟨hEs', hcs', hfs'⟩ := hS'); go_simp; try with_reducible rfl))
            (refine wpHd_take (i := 5) (v := ?_) rfl (by kernel_rfl) (by kernel_rfl) (by kernel_rfl) (fun _ _ _ h => h) (Or.inl ⟨by rfl, ?_⟩) hA0.out ?_; rotate_left 1; · (intro w' hS'; (obtain ⟨hEs', hcs', hfs'⟩ := hS'); go_simp; try with_reducible rfl))
            (refine wpHd_take (i := 6) (v := ?_) rfl (by kernel_rfl) (by kernel_rfl) (by kernel_rfl) (fun _ _ _ h => h) (Or.inl ⟨by rfl, ?_⟩) hA0.out ?_; rotate_left 1; · (intro w' hS'; (obtain ⟨hEs', hcs', hfs'⟩ := hS'); go_simp; try with_reducible rfl))
            refine wpHd_tail (by kernel_rfl) ?_
            simp only [List.drop_succ_cons, List.drop_zero]
            go_wp2
            go_roundw
            case rel => exact ⟨k + 1, by omega, by go_num, Hid.mk' (fun i hi => by
              by_cases e : i = k
              · subst e; exact HR.out
              · exact hrel.out i (by omega)), Hid.mk' (by rw [HS.out]; exact ((RowAt.setText hr.out HJ.out t).alloc _).drew.drew), Hid.mk' (by have hE := hE.out; (repeat (with_reducible (first | exact Ext.refl _ | assumption | exact held_left (by assumption) | apply Ext.drewN | apply Ext.drew | apply Ext.alloc | (refine Ext.setCell ?_ (by first | (simp; done) | (simp; omega) | omega) _) | (refine Ext.trans ?_ (by assumption)) | (refine Ext.trans ?_ (held_left (by assumption)))))))⟩
            case measure => simp [intOf]; omega
        · have hkk : k = hs.length := by omega
          subst hkk
          have HF := Hid.mk' (fillE_ok HN.out HA.out hrel.out)
          go_wp2
          go_ret2
          have h1 := hr.out.sl c'
          rw [fillUp_len] at h1
          exact FillPost.ok HF.out rfl (fillUp_len _ _ _ _).symm h1 hE.out

end Go.Proofs.Ytdbepkfblfhlhaa

/-
The reference's holes of a row and their texts; the laws' comparison of holes.
-/
namespace Go.Proofs.Ytdbepkfblfhlhaa
open Go.RowKit

theorem owns_grown2 {w w1 : World} {row : Option Nat} {base : Nat} {e : TypeId} {size n : Nat} {v : Value} {xs : List Value} (h : w.ownsRow base e size v n xs) (hg : w.grownBy w1 row) (hne : ∀ g, v.ownBlock = some g → row ≠ some g) : w1.ownsRow base e size v n xs := by
  obtain ⟨h1, h2⟩ := h
  refine ⟨h1, ?_⟩
  rcases h2 with h2 | ⟨g, cap, cur, hv, hb, hh, hr⟩
  · exact .inl h2
  · have hlt : g < w.heap.size := Blk.lt (b := g) hh
    exact .inr ⟨g, cap, cur, hv, hb, (hg.block g hlt (fun e => hne g (by rw [hv]; rfl) e.symm)).trans hh, hr⟩
/-- Rows of two types lie in two blocks. -/
theorem owns_apart {w : World} {b1 b2 : Nat} {e1 e2 : TypeId} {s1 s2 n1 n2 : Nat} {v1 v2 : Value} {x1 x2 : List Value} (h1 : w.ownsRow b1 e1 s1 v1 n1 x1) (h2 : w.ownsRow b2 e2 s2 v2 n2 x2) (hne : e1 ≠ e2) : ∀ g, v1.ownBlock = some g → v2.ownBlock ≠ some g := by
  intro g hg hg2
  rcases h1.2 with ⟨rfl, -⟩ | ⟨k1, c1, r1, rfl, -, q1, -⟩
  · simp [Value.ownBlock] at hg
  · rcases h2.2 with ⟨rfl, -⟩ | ⟨k2, c2, r2, rfl, -, q2, -⟩
    · simp [Value.ownBlock] at hg2
    · simp [Value.ownBlock] at hg hg2
      subst hg hg2
      rw [q1] at q2
      simp at q2
      exact hne q2.2

theorem Try.infoHoleR : (Try.prog.info? 97).map (fun i => (i.zero, i.size, i.bytes)) = some (some (.agg #[.int .i64 0, .int .i64 0]), 2, 16) := by kernel_rfl

set_option maxRecDepth 100000 in set_option maxHeartbeats 4000000 in
theorem rholes_any (l : List K) (a : Option Addr) (cap : Nat) (w : World) (hl : Sl w (.slice a l.length cap) 6 (l.map K.rc)) (hlen : l.length ≤ 1000) :
    Calls Try.prog 40 #[.slice a l.length cap] w fun e w' => ∃ a1 c1 a2 c2, e = .returned (.tuple #[.slice a1 (hoL l).length c1, .slice a2 (txL l).length c2]) ∧ Sl w' (.slice a1 (hoL l).length c1) 2 ((hoL l).map Ho.cells) ∧ Sl w' (.slice a2 (txL l).length c2) 1 ((txL l).map strC) ∧ Ext w w' := by
  have HL := Hid.mk' hl
  clear hl
  obtain ⟨i0, hi, hz0, hz1, hz2⟩ := info_parts Try.infoHoleR
  obtain ⟨j0, hj, hy0, hy1, hy2⟩ := info_parts Try.infoStr
  go_enter Try.func40, Try.ntmps40
  go_wp2
  go_loopw [4, 5, 6] (fun v u i wr => ∃ k : Nat, k ≤ l.length ∧ i = .int .i64 k ∧ Hid (wr.ownsRow w.heap.size 97 2 v (larges l k).length (((larges l k).map holeC).flatten)) ∧ Hid (wr.ownsRow w.heap.size 9 1 u (larges l k).length (((larges l k).map textC).flatten)) ∧ Hid (Ext w wr)) (fun _ _ i _ => l.length - (intOf i).toNat)
  case atStart => exact ⟨0, Nat.zero_le _, rfl, World.ownsRow_nil _ _ _ _, World.ownsRow_nil _ _ _ _, Ext.refl _⟩
  case round =>
    obtain ⟨k, hk, rfl, hown, hown2, hE⟩ := hrel
    by_cases hlt : k < l.length
    · obtain ⟨b, o, rfl, hb, hx⟩ := HL.out.at_ (i := k) (by simpa using hlt)
      obtain ⟨f0, f1, f2, f3, f4, f5⟩ := K.rcAt hlt hx hb hE.out
      have hbw : b < wr.heap.size := Nat.lt_of_lt_of_le hb hE.out.size
      have HLG := Hid.mk' (fun W => rclarge_any l[k].k l[k].v.ty l[k].v.n l[k].v.x l[k].v.y l[k].v.s W)
      have hkl := larges_len l k
      have HXX := Hid.mk' (fun W (h : Ext w W) => (K.rcAt hlt hx hb h).2.2.2.2.2)
      clear hx
      cases hq : largeB l[k].k l[k].v.ty l[k].v.s with
      | false =>
        have HU := Hid.mk' (larges_no hlt hq)
        rw [hq] at HLG
        obtain ⟨c, hc⟩ : ∃ c, c = l[k] := ⟨_, rfl⟩
        rw [← hc] at f0 f1 f2 f3 f4 f5 HLG
        clear hc hq
        go_wp2_with (go_at_call 81; refine (HLG.out _).mono ?_; rintro e w1 ⟨rfl, hb1⟩)
        go_roundw
        case rel => exact ⟨k + 1, by omega, by go_num, Hid.mk' (by rw [HU.out]; exact owns_ext hown.out (by (repeat (with_reducible (first | exact Ext.refl _ | assumption | exact held_left (by assumption) | apply Ext.drewN | apply Ext.drew | apply Ext.alloc | (refine Ext.setCell ?_ (by first | (simp; done) | (simp; omega) | omega) _) | (refine Ext.trans ?_ (by assumption)) | (refine Ext.trans ?_ (held_left (by assumption)))))))), Hid.mk' (by rw [HU.out]; exact owns_ext hown2.out (by (repeat (with_reducible (first | exact Ext.refl _ | assumption | exact held_left (by assumption) | apply Ext.drewN | apply Ext.drew | apply Ext.alloc | (refine Ext.setCell ?_ (by first | (simp; done) | (simp; omega) | omega) _) | (refine Ext.trans ?_ (by assumption)) | (refine Ext.trans ?_ (held_left (by assumption)))))))), Hid.mk' (hE.out.trans (by (repeat (with_reducible (first | exact Ext.refl _ | assumption | exact held_left (by assumption) | apply Ext.drewN | apply Ext.drew | apply Ext.alloc | (refine Ext.setCell ?_ (by first | (simp; done) | (simp; omega) | omega) _) | (refine Ext.trans ?_ (by assumption)) | (refine Ext.trans ?_ (held_left (by assumption))))))))⟩
        case measure => simp [intOf]; omega
      | true =>
        have HU := Hid.mk' (larges_yes hlt hq)
        rw [hq] at HLG
        obtain ⟨c, hc⟩ : ∃ c, c = l[k] := ⟨_, rfl⟩
        rw [← hc] at f0 f1 f2 f3 f4 f5 HLG HU HXX
        clear hc hq
        obtain ⟨x, hx⟩ : ∃ x : Nat × ByteArray, x = (k, c.v.s) := ⟨_, rfl⟩
        rw [← hx] at HU
        have HX := Hid.mk' hx
        clear hx
        go_wp2_with (first
          | (go_at_call 81; refine (HLG.out _).mono ?_; rintro e w1 ⟨rfl, hb1⟩; have hE_w1 : Ext (wr) w1 := (by (repeat (with_reducible (first | exact Ext.refl _ | assumption | exact held_left (by assumption) | apply Ext.drewN | apply Ext.drew | apply Ext.alloc | (refine Ext.setCell ?_ (by first | (simp; done) | (simp; omega) | omega) _) | (refine Ext.trans ?_ (by assumption)) | (refine Ext.trans ?_ (held_left (by assumption))))))); obtain ⟨hc_w1, hf_w1⟩ := hE_w1.cells; have hz_w1 := hE_w1.size; have HB1 := Hid.mk' hb1; clear hb1)
          | (at_builtin; refine wpList_append_own _ rfl _ _ 85 rfl w.heap.size 97 i0 _ 2 16 Try.underlying85 hi hz0 hz1 hz2 rfl (by decide) _ _ _ rfl ((owns_ext hown.out HB1.out).alloc _) ⟨_, 0, none⟩ 1 1 (holeC (k, c.v.s)) rfl rfl ?c1 ?c2 ?c3 ?c4 ?c5 ?_))
        case c1 => exact cells_new _ #[.int .i64 (k : Int), .int .i64 (c.v.s.size : Int)] _
        case c2 => intro u hu; simp [holeC] at hu; rcases hu with rfl | rfl <;> rfl
        case c3 => unfold maxLen; omega
        case c4 => omega
        case c5 => have := (hE.out.trans HB1.out).size; simp; omega
        intro v' w2 hown' hgrow _
        have hA1 := (owns_ext hown.out HB1.out).alloc (.cells #[.int .i64 (k : Int), .int .i64 (c.v.s.size : Int)] 97)
        have hA2 := (owns_ext hown2.out HB1.out).alloc (.cells #[.int .i64 (k : Int), .int .i64 (c.v.s.size : Int)] 97)
        have HO2 := Hid.mk' (owns_grown2 hA2 hgrow (fun g hg e => owns_apart hA1 hA2 (by decide) g e hg))
        have HE2 := Hid.mk' (((hE.out.trans HB1.out).alloc (.cells #[.int .i64 (k : Int), .int .i64 (c.v.s.size : Int)] 97)).grown hA1 hgrow)
        have HO1 := Hid.mk' hown'
        have q5 := HXX.out w2 HE2.out
        have hbw2 : b < w2.heap.size := Nat.lt_of_lt_of_le hb HE2.out.size
        clear hown' hgrow hA1 hA2 HB1 f0 f1 f2 f3 f4 f5 hE_w1 hc_w1 hf_w1 hz_w1
        go_wp2_with (at_builtin; refine wpList_append_own _ rfl _ _ 86 rfl w.heap.size 9 j0 _ 1 16 Try.underlying86 hj hy0 hy1 hy2 rfl (by decide) _ _ _ rfl (HO2.out.alloc _) ⟨_, 0, none⟩ 1 1 (textC (k, c.v.s)) rfl rfl ?d1 ?d2 ?d3 ?d4 ?d5 ?_)
        case d1 => exact cells_new _ #[.string c.v.s] _
        case d2 => intro u hu; simp [textC] at hu; subst hu; rfl
        case d3 => unfold maxLen; omega
        case d4 => omega
        case d5 => have := HE2.out.size; simp; omega
        intro u' w3 hown' hgrow _
        have hA1 := (HO1.out).alloc (.cells #[.string c.v.s] 9)
        have hA2 := (HO2.out).alloc (.cells #[.string c.v.s] 9)
        have HP1 := Hid.mk' (owns_grown2 hA1 hgrow (fun g hg e => owns_apart hA1 hA2 (by decide) g hg e))
        have HE3 := Hid.mk' ((HE2.out.alloc (.cells #[.string c.v.s] 9)).grown hA2 hgrow)
        have HP2 := Hid.mk' hown'
        clear hown' hgrow hA1 hA2 HO1 HO2 HE2
        go_wp2
        go_roundw
        case rel => exact ⟨k + 1, by omega, by go_num, Hid.mk' (by rw [HU.out, HX.out, holes_snoc, List.length_append]; exact HP1.out), Hid.mk' (by rw [HU.out, HX.out, texts_snoc, List.length_append]; exact HP2.out), HE3⟩
        case measure => simp [intOf]; omega
    · have hkk : k = l.length := by omega
      subst hkk
      obtain ⟨a1, c1, rfl⟩ := owns_shape hown.out
      obtain ⟨a2, c2, rfl⟩ := owns_shape hown2.out
      go_wp2
      go_ret2
      rw [hoL_len, hoL_cells, txL_len, txL_cells]
      exact ⟨a1, c1, a2, c2, rfl, Sl.of_owns (base := w.heap.size) (e := 97) (by rw [List.length_map]; exact hown.out) (by intro xs hxs; simp at hxs; obtain ⟨_, _, _, rfl⟩ := hxs; rfl), Sl.of_owns (base := w.heap.size) (e := 9) (by rw [List.length_map]; exact hown2.out) (by intro xs hxs; simp at hxs; obtain ⟨_, _, _, rfl⟩ := hxs; rfl), hE.out⟩

set_option maxRecDepth 100000 in set_option maxHeartbeats 2000000 in
theorem holesq_any (l : List Ho) (a b : Option Addr) (ca cb : Nat) (w : World) (hl : Sl w (.slice a l.length ca) 2 (l.map Ho.cells)) (hm : Sl w (.slice b l.length cb) 2 (l.map Ho.cells)) (hlen : l.length ≤ 1000) :
    Calls Try.prog 44 #[.slice a l.length ca, .slice b l.length cb] w fun e w' => e = .returned (.bool true) ∧ Ext w w' := by
  have HL := Hid.mk' hl
  have HM := Hid.mk' hm
  clear hl hm
  go_enter Try.func44, Try.ntmps44
  go_wp2
  go_loopw [5] (fun i wr => ∃ k : Nat, k ≤ l.length ∧ i = .int .i64 k ∧ Hid (Ext w wr)) (fun i _ => l.length - (intOf i).toNat)
  case atStart => exact ⟨0, Nat.zero_le _, rfl, Ext.refl _⟩
  case round =>
    obtain ⟨k, hk, rfl, hE⟩ := hrel
    by_cases hlt : k < l.length
    · obtain ⟨b1, o1, rfl, hb1, hx1⟩ := HL.out.at_ (i := k) (by simpa using hlt)
      obtain ⟨f0, f1⟩ := Ho.at_ hlt hx1 hb1 hE.out
      obtain ⟨b2, o2, rfl, hb2, hx2⟩ := HM.out.at_ (i := k) (by simpa using hlt)
      obtain ⟨p0, p1⟩ := Ho.at_ hlt hx2 hb2 hE.out
      have hbw : b1 < wr.heap.size := Nat.lt_of_lt_of_le hb1 hE.out.size
      have hbw2 : b2 < wr.heap.size := Nat.lt_of_lt_of_le hb2 hE.out.size
      obtain ⟨c, hc⟩ : ∃ c, c = l[k] := ⟨_, rfl⟩
      rw [← hc] at f0 f1 p0 p1
      clear hx1 hx2 hc
      go_wp2
      go_region_held3 (fun w' => Ext (wr) w' ∧ (∀ b o, b < (wr).heap.size → w'.cell? ⟨b, o, none⟩ = (wr).cell? ⟨b, o, none⟩) ∧ (∀ b o, b < (wr).heap.size → w'.frozen? ⟨b, o, none⟩ = (wr).frozen? ⟨b, o, none⟩)) ((exact held_of (by (repeat (with_reducible (first | exact Ext.refl _ | assumption | exact held_left (by assumption) | apply Ext.drewN | apply Ext.drew | apply Ext.alloc | (refine Ext.setCell ?_ (by first | (simp; done) | (simp; omega) | omega) _) | (refine Ext.trans ?_ (by assumption)) | (refine Ext.trans ?_ (held_left (by assumption))))))))) (fail)
      go_wp2
      go_roundw
      case rel => exact ⟨k + 1, by omega, by go_num, Hid.mk' (hE.out.trans (by (repeat (with_reducible (first | exact Ext.refl _ | assumption | exact held_left (by assumption) | apply Ext.drewN | apply Ext.drew | apply Ext.alloc | (refine Ext.setCell ?_ (by first | (simp; done) | (simp; omega) | omega) _) | (refine Ext.trans ?_ (by assumption)) | (refine Ext.trans ?_ (held_left (by assumption))))))))⟩
      case measure => simp [intOf]; omega
    · have hkk : k = l.length := by omega
      subst hkk
      go_wp2
      go_ret
      exact ⟨rfl, hE.out⟩

end Go.Proofs.Ytdbepkfblfhlhaa
