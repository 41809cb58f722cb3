/-
The reference's KeyOf, keyed, IsKey, IsFull, Merge.
-/
import Derived.Test.YtdbepkfblfhlhaaKeyedI
namespace Go.Proofs.Ytdbepkfblfhlhaa
open Go.RowKit

theorem keyOf_len {cols : List Col} {l : List K} : (keyOf cols l).length = l.length := by simp [keyOf]
theorem keyOf_get {cols : List Col} {l : List K} {i : Nat} (h : i < (keyOf cols l).length) : (keyOf cols l)[i] = if isKeyAt cols i = true then l[i]'(by rw [keyOf_len] at h; exact h) else K.zero := by simp [keyOf]
theorem isKeyAt_lt {cols : List Col} {i : Nat} (h : i < cols.length) : isKeyAt cols i = cols[i].key := by unfold isKeyAt; rw [List.getElem?_eq_getElem h]; rfl
theorem isKeyAt_ge {cols : List Col} {i : Nat} (h : cols.length ≤ i) : isKeyAt cols i = false := by unfold isKeyAt; rw [List.getElem?_eq_none h]; rfl
/-- What is wrong with a key image, a full image. -/
def nonE (cols : List Col) (l : List K) (i : Nat) : Int := if isKeyAt cols i = false ∧ kindAt l i ≠ 0 then 14 else 0
def isKeyE (l : List K) (r : Rl) : Int := if keyedE l r ≠ 0 then keyedE l r else firstE (nonE r.cols l) l.length
def sameE (l : List K) (i : Nat) : Int := if kindAt l i = 1 then 14 else 0
def isFullE (l : List K) (r : Rl) : Int := if keyedE l r ≠ 0 then keyedE l r else firstE (sameE l) l.length
theorem keyed_fits {l : List K} {r : Rl} (h : keyedE l r = 0) : fitsE l r = 0 := by
  unfold keyedE at h
  split at h
  · rename_i h1; exact absurd h h1
  · rename_i h1; simpa using h1
/-- A new image with what was the same. -/
def mergeK (b l : List K) : List K := l.mapIdx fun i c => if c.k = 1 then (b[i]?).getD c else c
theorem mergeK_len {b l : List K} : (mergeK b l).length = l.length := by simp [mergeK]
theorem mergeK_get {b l : List K} {i : Nat} (h : i < (mergeK b l).length) : (mergeK b l)[i] = if (l[i]'(by rw [mergeK_len] at h; exact h)).k = 1 then (b[i]?).getD (l[i]'(by rw [mergeK_len] at h; exact h)) else l[i]'(by rw [mergeK_len] at h; exact h) := by simp [mergeK]

set_option maxRecDepth 100000 in set_option maxHeartbeats 4000000 in
theorem rkeyOf_any (l : List K) (a : Option Addr) (cap : Nat) (oid ver : Int) (nm : ByteArray) (id : Int) (cols : List Col) (a2 : Option Addr) (cap2 : Nat) (w : World) (hl : Sl w (.slice a l.length cap) 6 (l.map K.rc)) (hl2 : Sl w (.slice a2 cols.length cap2) 3 (cols.map Col.cells)) (hlen : l.length ≤ 1000) (hlen2 : cols.length ≤ 1000) :
    Calls Try.prog 26 #[.agg #[.int .u32 oid, .int .u32 ver, .string nm, .int .u8 id, .slice a2 cols.length cap2], .slice a l.length cap] w fun e w' => ∃ a' cap', e = .returned (.slice a' l.length cap') ∧ Sl w' (.slice a' l.length cap') 6 ((keyOf cols l).map K.rc) ∧ Ext w w' := by
  have HL := Hid.mk' hl
  have HL2 := Hid.mk' hl2
  clear hl hl2
  obtain ⟨i0, hi, hz0, hz1, hz2⟩ := info_parts Try.infoCellR
  go_enter Try.func26, Try.ntmps26
  go_wp2
  go_loopw [5, 6] (fun v i wr => ∃ k : Nat, k ≤ l.length ∧ i = .int .i64 k ∧ Hid (wr.ownsRow (w.heap.size + 1) 121 6 v k (((keyOf cols l).map K.rc).take k).flatten) ∧ Hid (Ext (w.alloc (.cells #[.int .u32 oid, .int .u32 ver, .string nm, .int .u8 id, .slice a2 cols.length cap2] 27)) wr)) (fun _ i _ => l.length - (intOf i).toNat)
  case atStart => exact ⟨0, Nat.zero_le _, rfl, World.ownsRow_nil _ _ _ _, Ext.refl _⟩
  case round =>
    obtain ⟨k, hk, rfl, hown, hE⟩ := hrel
    have hEw : Hid (Ext w wr) := Hid.mk' (((Ext.refl w).alloc _).trans hE.out)
    by_cases hlt : k < l.length
    · have hBx := (Blk.new w #[.int .u32 oid, .int .u32 ver, .string nm, .int .u8 id, .slice a2 cols.length cap2] 27).ext hE.out
      have g0 := hBx.cell
      have z0 := hBx.lt
      obtain ⟨b, o, rfl, hb, hx⟩ := HL.out.at_ (i := k) (by simpa using hlt)
      obtain ⟨f0, f1, f2, f3, f4, f5⟩ := K.rcAt hlt hx hb hEw.out
      have hbw : b < wr.heap.size := Nat.lt_of_lt_of_le hb hEw.out.size
      have hkl : k < (keyOf cols l).length := by rw [keyOf_len]; exact hlt
      have HT := Hid.mk' (flat_snoc (f := K.rc) hkl)
      rw [keyOf_get] at HT
      clear hx hBx
      cases hq : isKeyAt cols k with
      | true =>
        have hkc : k < cols.length := by
          rcases Nat.lt_or_ge k cols.length with h | h
          · exact h
          · rw [isKeyAt_ge h] at hq; cases hq
        obtain ⟨b2, o2, rfl, hb2, hx2⟩ := HL2.out.at_ (i := k) (by simpa using hkc)
        obtain ⟨p0, p1, p2⟩ := Col.at_ hkc hx2 hb2 hEw.out
        have hbw2 : b2 < wr.heap.size := Nat.lt_of_lt_of_le hb2 hEw.out.size
        rw [isKeyAt_lt hkc] at hq
        rw [hq] at p2
        rw [if_pos (by rw [isKeyAt_lt hkc]; exact hq)] at HT
        obtain ⟨c, hc⟩ : ∃ c, c = l[k] := ⟨_, rfl⟩
        rw [← hc] at f0 f1 f2 f3 f4 f5 HT
        clear hx2 hq hc
        go_wp2_with (at_builtin; refine wpList_append_own _ rfl _ _ 31 rfl (w.heap.size + 1) 121 i0 _ 6 56 Try.underlying31 hi hz0 hz1 hz2 rfl (by decide) _ _ _ rfl (hown.out.alloc _) ⟨_, 0, none⟩ 1 1 c.rc rfl rfl ?c1 ?c2 ?c3 ?c4 ?c5 ?_)
        case c1 => exact cells_new _ #[.int .u8 c.k, .int .u8 c.v.ty, .int .i64 c.v.n, .int .u64 c.v.x, .int .u64 c.v.y, .string c.v.s] _
        case c2 => intro u hu; simp [K.rc] at hu; rcases hu with rfl | rfl | rfl | rfl | rfl | rfl <;> rfl
        case c3 => unfold maxLen; omega
        case c4 => omega
        case c5 => simp; omega
        intro v' w2 hown' hgrow _
        have HE2 := Hid.mk' (Below.grown (hE.out.alloc _) hgrow (by have := hE.out.size; rw [World.size_alloc] at this ⊢; rw [World.size_alloc]; omega) (fun g hg => by have h9 := (hown.out.lt g hg).1; rw [World.size_alloc]; exact h9))
        have HO2 := Hid.mk' hown'
        clear hown' hgrow
        go_wp2
        go_roundw
        case rel => exact ⟨k + 1, by omega, by go_num, Hid.mk' (by rw [HT.out]; exact HO2.out), HE2⟩
        case measure => simp [intOf]; omega
      | false =>
        rw [if_neg (by rw [hq]; simp)] at HT
        by_cases hkc : k < cols.length
        · obtain ⟨b2, o2, rfl, hb2, hx2⟩ := HL2.out.at_ (i := k) (by simpa using hkc)
          obtain ⟨p0, p1, p2⟩ := Col.at_ hkc hx2 hb2 hEw.out
          have hbw2 : b2 < wr.heap.size := Nat.lt_of_lt_of_le hb2 hEw.out.size
          rw [isKeyAt_lt hkc] at hq
          rw [hq] at p2
          clear hx2 hq
          go_wp2_with (at_builtin; refine wpList_append_own _ rfl _ _ 31 rfl (w.heap.size + 1) 121 i0 _ 6 56 Try.underlying31 hi hz0 hz1 hz2 rfl (by decide) _ _ _ rfl (hown.out.alloc _) ⟨_, 0, none⟩ 1 1 K.zero.rc rfl rfl ?c1 ?c2 ?c3 ?c4 ?c5 ?_)
          case c1 => exact cells_new _ #[.int .u8 0, .int .u8 0, .int .i64 0, .int .u64 0, .int .u64 0, .string ByteArray.empty] _
          case c2 => intro u hu; simp [K.rc] at hu; rcases hu with rfl | rfl | rfl | rfl | rfl | rfl <;> rfl
          case c3 => unfold maxLen; omega
          case c4 => omega
          case c5 => simp; omega
          intro v' w2 hown' hgrow _
          have HE2 := Hid.mk' (Below.grown (hE.out.alloc _) hgrow (by have := hE.out.size; rw [World.size_alloc] at this ⊢; rw [World.size_alloc]; omega) (fun g hg => by have h9 := (hown.out.lt g hg).1; rw [World.size_alloc]; exact h9))
          have HO2 := Hid.mk' hown'
          clear hown' hgrow
          go_wp2
          go_roundw
          case rel => exact ⟨k + 1, by omega, by go_num, Hid.mk' (by rw [HT.out]; exact HO2.out), HE2⟩
          case measure => simp [intOf]; omega
        · have hkc' : cols.length ≤ k := by omega
          clear hq hkc
          go_wp2_with (at_builtin; refine wpList_append_own _ rfl _ _ 31 rfl (w.heap.size + 1) 121 i0 _ 6 56 Try.underlying31 hi hz0 hz1 hz2 rfl (by decide) _ _ _ rfl (hown.out.alloc _) ⟨_, 0, none⟩ 1 1 K.zero.rc rfl rfl ?c1 ?c2 ?c3 ?c4 ?c5 ?_)
          case c1 => exact cells_new _ #[.int .u8 0, .int .u8 0, .int .i64 0, .int .u64 0, .int .u64 0, .string ByteArray.empty] _
          case c2 => intro u hu; simp [K.rc] at hu; rcases hu with rfl | rfl | rfl | rfl | rfl | rfl <;> rfl
          case c3 => unfold maxLen; omega
          case c4 => omega
          case c5 => simp; omega
          intro v' w2 hown' hgrow _
          have HE2 := Hid.mk' (Below.grown (hE.out.alloc _) hgrow (by have := hE.out.size; rw [World.size_alloc] at this ⊢; rw [World.size_alloc]; omega) (fun g hg => by have h9 := (hown.out.lt g hg).1; rw [World.size_alloc]; exact h9))
          have HO2 := Hid.mk' hown'
          clear hown' hgrow
          go_wp2
          go_roundw
          case rel => exact ⟨k + 1, by omega, by go_num, Hid.mk' (by rw [HT.out]; exact HO2.out), HE2⟩
          case measure => simp [intOf]; omega
    · have hkk : k = l.length := by omega
      subst hkk
      rw [show l.length = ((keyOf cols l).map K.rc).length by rw [List.length_map, keyOf_len], List.take_length] at hown
      rw [List.length_map, keyOf_len] at hown
      obtain ⟨a', c', rfl⟩ := owns_shape hown.out
      go_wp2
      go_ret
      refine ⟨a', c', rfl, Sl.of_owns (base := w.heap.size + 1) (e := 121) ?_ ?_, hEw.out⟩
      · rw [List.length_map, keyOf_len]; exact hown.out
      · intro xs hxs; simp at hxs; obtain ⟨a, _, rfl⟩ := hxs; rfl

set_option maxRecDepth 100000 in set_option maxHeartbeats 1600000 in
theorem rkeyed_any (l : List K) (a : Option Addr) (cap : Nat) (oid ver : Int) (nm : ByteArray) (id : Int) (cols : List Col) (a2 : Option Addr) (cap2 : Nat) (w : World) (hl : Sl w (.slice a l.length cap) 6 (l.map K.rc)) (hl2 : Sl w (.slice a2 cols.length cap2) 3 (cols.map Col.cells)) (hlen : l.length ≤ 1000) (hlen2 : cols.length ≤ 1000) (hs : ∀ c ∈ l, c.wk) (hs2 : ∀ c ∈ cols, c.nm.size ≤ 9223372036854775807) (hnm : nm.size ≤ 9223372036854775807) :
    Calls Try.prog 69 #[.agg #[.int .u32 oid, .int .u32 ver, .string nm, .int .u8 id, .slice a2 cols.length cap2], .slice a l.length cap] w fun e w' => e = .returned (.int .i64 (keyedE l (⟨oid, ver, nm, id, cols⟩ : Rl))) ∧ Ext w w' := by
  have HFT := Hid.mk' (fun W (h : Ext w W) => rfits_any l a cap oid ver nm id cols a2 cap2 W (hl.ext h) (hl2.ext h) hlen hlen2 hs hs2 hnm)
  have HL := Hid.mk' hl
  have HL2 := Hid.mk' hl2
  have HKE : Hid (keyedE l (⟨oid, ver, nm, id, cols⟩ : Rl) = if fitsE l (⟨oid, ver, nm, id, cols⟩ : Rl) ≠ 0 then fitsE l (⟨oid, ver, nm, id, cols⟩ : Rl) else firstE (keyE cols l) l.length) := Hid.mk' rfl
  obtain ⟨E, hE⟩ : ∃ E, E = fitsE l (⟨oid, ver, nm, id, cols⟩ : Rl) := ⟨_, rfl⟩
  rw [← hE] at HFT HKE
  have HEQ := Hid.mk' hE
  clear hl hl2 hs hs2 hE
  by_cases h0 : E = 0
  case neg =>
    have HKE2 := Hid.mk' (HKE.out.trans (if_pos h0))
    have h0' : (E != 0) = true := by simpa using h0
    clear h0 HKE HEQ
    go_enter Try.func69, Try.ntmps69
    go_wp2_with (go_at_call 43; refine (HFT.out _ (by (repeat (with_reducible (first | exact Ext.refl _ | assumption | exact held_left (by assumption) | apply Ext.drewN | apply Ext.drew | apply Ext.alloc | (refine Ext.setCell ?_ (by first | (simp; done) | (simp; omega) | omega) _) | (refine Ext.trans ?_ (by assumption)) | (refine Ext.trans ?_ (held_left (by assumption)))))))).mono ?_; rintro e w1 ⟨rfl, hb1⟩; have hE1 : Ext w w1 := (by (repeat (with_reducible (first | exact Ext.refl _ | assumption | exact held_left (by assumption) | apply Ext.drewN | apply Ext.drew | apply Ext.alloc | (refine Ext.setCell ?_ (by first | (simp; done) | (simp; omega) | omega) _) | (refine Ext.trans ?_ (by assumption)) | (refine Ext.trans ?_ (held_left (by assumption))))))))
    go_ret
    exact ⟨ret_int HKE2.out.symm, hE1⟩
  subst h0
  have HKE2 := Hid.mk' (HKE.out.trans (if_neg (by simp)))
  have hfz := fits_zero HEQ.out.symm
  have hll : l.length = cols.length := hfz.2.1
  have hle : l.length ≤ cols.length := by omega
  clear HKE HEQ hfz hll
  go_enter Try.func69, Try.ntmps69
  go_wp2_with (go_at_call 43; refine (HFT.out _ (by (repeat (with_reducible (first | exact Ext.refl _ | assumption | exact held_left (by assumption) | apply Ext.drewN | apply Ext.drew | apply Ext.alloc | (refine Ext.setCell ?_ (by first | (simp; done) | (simp; omega) | omega) _) | (refine Ext.trans ?_ (by assumption)) | (refine Ext.trans ?_ (held_left (by assumption)))))))).mono ?_; rintro e w1 ⟨rfl, hb1⟩; have hE1 := Hid.mk' hb1; clear hb1)
  go_loopw [6] (fun i wr => ∃ k : Nat, k ≤ l.length ∧ i = .int .i64 k ∧ Hid (∀ j, j < k → keyE cols l j = 0) ∧ Hid (Ext (w.alloc (.cells #[.int .u32 oid, .int .u32 ver, .string nm, .int .u8 id, .slice a2 cols.length cap2] 27)) wr)) (fun i _ => l.length - (intOf i).toNat)
  case atStart => exact ⟨0, Nat.zero_le _, rfl, fun j h => by omega, hE1⟩
  case round =>
    obtain ⟨k, hk, rfl, hrel, hE⟩ := hrel
    have hEw : Hid (Ext w wr) := Hid.mk' (((Ext.refl w).alloc _).trans hE.out)
    by_cases hlt : k < l.length
    · have hlt2 : k < cols.length := by omega
      have hBx := (Blk.new w #[.int .u32 oid, .int .u32 ver, .string nm, .int .u8 id, .slice a2 cols.length cap2] 27).ext hE.out
      have g0 := hBx.cell
      have z0 := hBx.lt
      obtain ⟨b, o, rfl, hb, hx⟩ := HL.out.at_ (i := k) (by simpa using hlt)
      obtain ⟨f0, f1, f2, f3, f4, f5⟩ := K.rcAt hlt hx hb hEw.out
      obtain ⟨b2, o2, rfl, hb2, hx2⟩ := HL2.out.at_ (i := k) (by simpa using hlt2)
      obtain ⟨p0, p1, p2⟩ := Col.at_ hlt2 hx2 hb2 hEw.out
      have hbw : b < wr.heap.size := Nat.lt_of_lt_of_le hb hEw.out.size
      have hbw2 : b2 < wr.heap.size := Nat.lt_of_lt_of_le hb2 hEw.out.size
      have hKX : keyE cols l k = if cols[k].key = true then kindE l[k].k else 0 := by unfold keyE; rw [isKeyAt_lt hlt2, kindAt_lt hlt]
      clear hx hx2 hBx
      cases hq : cols[k].key with
      | false =>
        have HZ := Hid.mk' (hKX.trans (if_neg (by rw [hq]; simp)))
        rw [hq] at p2
        clear hq hKX
        go_wp2
        go_roundw
        case rel => exact ⟨k + 1, by omega, by go_num, fun j hj => by
          by_cases e : j = k
          · subst e; exact HZ.out
          · exact hrel.out j (by omega), hE⟩
        case measure => simp [intOf]; omega
      | true =>
        have HZ := Hid.mk' (hKX.trans (if_pos hq))
        rw [hq] at p2
        clear hq hKX
        by_cases hk0 : l[k].k = 0
        · have HR := Hid.mk' (HKE2.out.trans (show firstE (keyE cols l) l.length = 12 by rw [firstE_at hrel.out hlt (by rw [HZ.out, hk0]; decide), HZ.out, hk0]; rfl))
          rw [hk0] at f0
          clear hk0
          go_wp2
          go_ret
          exact ⟨ret_int HR.out.symm, hEw.out⟩
        · by_cases hk1 : l[k].k = 1
          · have HR := Hid.mk' (HKE2.out.trans (show firstE (keyE cols l) l.length = 13 by rw [firstE_at hrel.out hlt (by rw [HZ.out, hk1]; decide), HZ.out, hk1]; rfl))
            rw [hk1] at f0
            clear hk0 hk1
            go_wp2
            go_ret
            exact ⟨ret_int HR.out.symm, hEw.out⟩
          · have e0 : (l[k].k == 0) = false := by simpa using hk0
            have e1 : (l[k].k == 1) = false := by simpa using hk1
            have HZ2 := Hid.mk' (HZ.out.trans (show kindE l[k].k = 0 by unfold kindE; rw [if_neg hk0, if_neg hk1]))
            clear hk0 hk1
            go_wp2
            go_roundw
            case rel => exact ⟨k + 1, by omega, by go_num, fun j hj => by
              by_cases e : j = k
              · subst e; exact HZ2.out
              · exact hrel.out j (by omega), hE⟩
            case measure => simp [intOf]; omega
    · have hkk : k = l.length := by omega
      have HR := Hid.mk' (HKE2.out.trans (firstE_zero (fun i hi => hrel.out i (by omega))))
      subst hkk
      go_wp2
      go_ret
      exact ⟨ret_int HR.out.symm, hEw.out⟩

set_option maxRecDepth 100000 in set_option maxHeartbeats 1600000 in
theorem risKey_any (l : List K) (a : Option Addr) (cap : Nat) (oid ver : Int) (nm : ByteArray) (id : Int) (cols : List Col) (a2 : Option Addr) (cap2 : Nat) (w : World) (hl : Sl w (.slice a l.length cap) 6 (l.map K.rc)) (hl2 : Sl w (.slice a2 cols.length cap2) 3 (cols.map Col.cells)) (hlen : l.length ≤ 1000) (hlen2 : cols.length ≤ 1000) (hs : ∀ c ∈ l, c.wk) (hs2 : ∀ c ∈ cols, c.nm.size ≤ 9223372036854775807) (hnm : nm.size ≤ 9223372036854775807) :
    Calls Try.prog 28 #[.agg #[.int .u32 oid, .int .u32 ver, .string nm, .int .u8 id, .slice a2 cols.length cap2], .slice a l.length cap] w fun e w' => e = .returned (.int .i64 (isKeyE l (⟨oid, ver, nm, id, cols⟩ : Rl))) ∧ Ext w w' := by
  have HFT := Hid.mk' (fun W (h : Ext w W) => rkeyed_any l a cap oid ver nm id cols a2 cap2 W (hl.ext h) (hl2.ext h) hlen hlen2 hs hs2 hnm)
  have HL := Hid.mk' hl
  have HL2 := Hid.mk' hl2
  have HKE : Hid (isKeyE l (⟨oid, ver, nm, id, cols⟩ : Rl) = if keyedE l (⟨oid, ver, nm, id, cols⟩ : Rl) ≠ 0 then keyedE l (⟨oid, ver, nm, id, cols⟩ : Rl) else firstE (nonE cols l) l.length) := Hid.mk' rfl
  obtain ⟨E, hE⟩ : ∃ E, E = keyedE l (⟨oid, ver, nm, id, cols⟩ : Rl) := ⟨_, rfl⟩
  rw [← hE] at HFT HKE
  have HEQ := Hid.mk' hE
  clear hl hl2 hs hs2 hE
  by_cases h0 : E = 0
  case neg =>
    have HKE2 := Hid.mk' (HKE.out.trans (if_pos h0))
    have h0' : (E != 0) = true := by simpa using h0
    clear h0 HKE HEQ
    go_enter Try.func28, Try.ntmps28
    go_wp2_with (go_at_call 69; refine (HFT.out _ (by (repeat (with_reducible (first | exact Ext.refl _ | assumption | exact held_left (by assumption) | apply Ext.drewN | apply Ext.drew | apply Ext.alloc | (refine Ext.setCell ?_ (by first | (simp; done) | (simp; omega) | omega) _) | (refine Ext.trans ?_ (by assumption)) | (refine Ext.trans ?_ (held_left (by assumption)))))))).mono ?_; rintro e w1 ⟨rfl, hb1⟩; have hE1 : Ext w w1 := (by (repeat (with_reducible (first | exact Ext.refl _ | assumption | exact held_left (by assumption) | apply Ext.drewN | apply Ext.drew | apply Ext.alloc | (refine Ext.setCell ?_ (by first | (simp; done) | (simp; omega) | omega) _) | (refine Ext.trans ?_ (by assumption)) | (refine Ext.trans ?_ (held_left (by assumption))))))))
    go_ret
    exact ⟨ret_int HKE2.out.symm, hE1⟩
  subst h0
  have HKE2 := Hid.mk' (HKE.out.trans (if_neg (by simp)))
  have hfz := fits_zero (keyed_fits HEQ.out.symm)
  have hll : l.length = cols.length := hfz.2.1
  have hle : l.length ≤ cols.length := by omega
  clear HKE HEQ hfz hll
  go_enter Try.func28, Try.ntmps28
  go_wp2_with (go_at_call 69; refine (HFT.out _ (by (repeat (with_reducible (first | exact Ext.refl _ | assumption | exact held_left (by assumption) | apply Ext.drewN | apply Ext.drew | apply Ext.alloc | (refine Ext.setCell ?_ (by first | (simp; done) | (simp; omega) | omega) _) | (refine Ext.trans ?_ (by assumption)) | (refine Ext.trans ?_ (held_left (by assumption)))))))).mono ?_; rintro e w1 ⟨rfl, hb1⟩; have hE1 := Hid.mk' hb1; clear hb1)
  go_loopw [6] (fun i wr => ∃ k : Nat, k ≤ l.length ∧ i = .int .i64 k ∧ Hid (∀ j, j < k → nonE cols l j = 0) ∧ Hid (Ext (w.alloc (.cells #[.int .u32 oid, .int .u32 ver, .string nm, .int .u8 id, .slice a2 cols.length cap2] 27)) wr)) (fun i _ => l.length - (intOf i).toNat)
  case atStart => exact ⟨0, Nat.zero_le _, rfl, fun j h => by omega, hE1⟩
  case round =>
    obtain ⟨k, hk, rfl, hrel, hE⟩ := hrel
    have hEw : Hid (Ext w wr) := Hid.mk' (((Ext.refl w).alloc _).trans hE.out)
    by_cases hlt : k < l.length
    · have hlt2 : k < cols.length := by omega
      have hBx := (Blk.new w #[.int .u32 oid, .int .u32 ver, .string nm, .int .u8 id, .slice a2 cols.length cap2] 27).ext hE.out
      have g0 := hBx.cell
      have z0 := hBx.lt
      obtain ⟨b, o, rfl, hb, hx⟩ := HL.out.at_ (i := k) (by simpa using hlt)
      obtain ⟨f0, f1, f2, f3, f4, f5⟩ := K.rcAt hlt hx hb hEw.out
      obtain ⟨b2, o2, rfl, hb2, hx2⟩ := HL2.out.at_ (i := k) (by simpa using hlt2)
      obtain ⟨p0, p1, p2⟩ := Col.at_ hlt2 hx2 hb2 hEw.out
      have hbw : b < wr.heap.size := Nat.lt_of_lt_of_le hb hEw.out.size
      have hbw2 : b2 < wr.heap.size := Nat.lt_of_lt_of_le hb2 hEw.out.size
      have hKX : nonE cols l k = if cols[k].key = false ∧ l[k].k ≠ 0 then 14 else 0 := by unfold nonE; rw [isKeyAt_lt hlt2, kindAt_lt hlt]
      clear hx hx2 hBx
      cases hq : cols[k].key with
      | true =>
        have HZ := Hid.mk' (hKX.trans (if_neg (by rw [hq]; simp)))
        rw [hq] at p2
        clear hq hKX
        go_wp2
        go_roundw
        case rel => exact ⟨k + 1, by omega, by go_num, fun j hj => by
          by_cases e : j = k
          · subst e; exact HZ.out
          · exact hrel.out j (by omega), hE⟩
        case measure => simp [intOf]; omega
      | false =>
        by_cases hk0 : l[k].k = 0
        · have HZ := Hid.mk' (hKX.trans (if_neg (by rw [hk0]; simp)))
          rw [hq] at p2
          rw [hk0] at f0
          clear hk0 hq hKX
          go_wp2
          go_roundw
          case rel => exact ⟨k + 1, by omega, by go_num, fun j hj => by
            by_cases e : j = k
            · subst e; exact HZ.out
            · exact hrel.out j (by omega), hE⟩
          case measure => simp [intOf]; omega
        · have e0 : (l[k].k != 0) = true := by simpa using hk0
          have HZ := hKX.trans (if_pos ⟨hq, hk0⟩)
          have HR := Hid.mk' (HKE2.out.trans (show firstE (nonE cols l) l.length = 14 by rw [firstE_at hrel.out hlt (by rw [HZ]; decide), HZ]))
          rw [hq] at p2
          clear hk0 hq hKX HZ
          go_wp2
          go_ret
          exact ⟨ret_int HR.out.symm, hEw.out⟩
    · have hkk : k = l.length := by omega
      have HR := Hid.mk' (HKE2.out.trans (firstE_zero (fun i hi => hrel.out i (by omega))))
      subst hkk
      go_wp2
      go_ret
      exact ⟨ret_int HR.out.symm, hEw.out⟩

set_option maxRecDepth 100000 in set_option maxHeartbeats 1600000 in
theorem risFull_any (l : List K) (a : Option Addr) (cap : Nat) (oid ver : Int) (nm : ByteArray) (id : Int) (cols : List Col) (a2 : Option Addr) (cap2 : Nat) (w : World) (hl : Sl w (.slice a l.length cap) 6 (l.map K.rc)) (hl2 : Sl w (.slice a2 cols.length cap2) 3 (cols.map Col.cells)) (hlen : l.length ≤ 1000) (hlen2 : cols.length ≤ 1000) (hs : ∀ c ∈ l, c.wk) (hs2 : ∀ c ∈ cols, c.nm.size ≤ 9223372036854775807) (hnm : nm.size ≤ 9223372036854775807) :
    Calls Try.prog 30 #[.agg #[.int .u32 oid, .int .u32 ver, .string nm, .int .u8 id, .slice a2 cols.length cap2], .slice a l.length cap] w fun e w' => e = .returned (.int .i64 (isFullE l (⟨oid, ver, nm, id, cols⟩ : Rl))) ∧ Ext w w' := by
  have HFT := Hid.mk' (fun W (h : Ext w W) => rkeyed_any l a cap oid ver nm id cols a2 cap2 W (hl.ext h) (hl2.ext h) hlen hlen2 hs hs2 hnm)
  have HL := Hid.mk' hl
  have HKE : Hid (isFullE l (⟨oid, ver, nm, id, cols⟩ : Rl) = if keyedE l (⟨oid, ver, nm, id, cols⟩ : Rl) ≠ 0 then keyedE l (⟨oid, ver, nm, id, cols⟩ : Rl) else firstE (sameE l) l.length) := Hid.mk' rfl
  obtain ⟨E, hE⟩ : ∃ E, E = keyedE l (⟨oid, ver, nm, id, cols⟩ : Rl) := ⟨_, rfl⟩
  rw [← hE] at HFT HKE
  clear hl hl2 hs hs2 hE
  by_cases h0 : E = 0
  case neg =>
    have HKE2 := Hid.mk' (HKE.out.trans (if_pos h0))
    have h0' : (E != 0) = true := by simpa using h0
    clear h0 HKE
    go_enter Try.func30, Try.ntmps30
    go_wp2_with (go_at_call 69; refine (HFT.out _ (by (repeat (with_reducible (first | exact Ext.refl _ | assumption | exact held_left (by assumption) | apply Ext.drewN | apply Ext.drew | apply Ext.alloc | (refine Ext.setCell ?_ (by first | (simp; done) | (simp; omega) | omega) _) | (refine Ext.trans ?_ (by assumption)) | (refine Ext.trans ?_ (held_left (by assumption)))))))).mono ?_; rintro e w1 ⟨rfl, hb1⟩; have hE1 : Ext w w1 := (by (repeat (with_reducible (first | exact Ext.refl _ | assumption | exact held_left (by assumption) | apply Ext.drewN | apply Ext.drew | apply Ext.alloc | (refine Ext.setCell ?_ (by first | (simp; done) | (simp; omega) | omega) _) | (refine Ext.trans ?_ (by assumption)) | (refine Ext.trans ?_ (held_left (by assumption))))))))
    go_ret
    exact ⟨ret_int HKE2.out.symm, hE1⟩
  subst h0
  have HKE2 := Hid.mk' (HKE.out.trans (if_neg (by simp)))
  clear HKE
  go_enter Try.func30, Try.ntmps30
  go_wp2_with (go_at_call 69; refine (HFT.out _ (by (repeat (with_reducible (first | exact Ext.refl _ | assumption | exact held_left (by assumption) | apply Ext.drewN | apply Ext.drew | apply Ext.alloc | (refine Ext.setCell ?_ (by first | (simp; done) | (simp; omega) | omega) _) | (refine Ext.trans ?_ (by assumption)) | (refine Ext.trans ?_ (held_left (by assumption)))))))).mono ?_; rintro e w1 ⟨rfl, hb1⟩; have hE1 := Hid.mk' hb1; clear hb1)
  go_loopw [6] (fun i wr => ∃ k : Nat, k ≤ l.length ∧ i = .int .i64 k ∧ Hid (∀ j, j < k → sameE l j = 0) ∧ Hid (Ext (w.alloc (.cells #[.int .u32 oid, .int .u32 ver, .string nm, .int .u8 id, .slice a2 cols.length cap2] 27)) wr)) (fun i _ => l.length - (intOf i).toNat)
  case atStart => exact ⟨0, Nat.zero_le _, rfl, fun j h => by omega, hE1⟩
  case round =>
    obtain ⟨k, hk, rfl, hrel, hE⟩ := hrel
    have hEw : Hid (Ext w wr) := Hid.mk' (((Ext.refl w).alloc _).trans hE.out)
    by_cases hlt : k < l.length
    · obtain ⟨b, o, rfl, hb, hx⟩ := HL.out.at_ (i := k) (by simpa using hlt)
      obtain ⟨f0, f1, f2, f3, f4, f5⟩ := K.rcAt hlt hx hb hEw.out
      have hbw : b < wr.heap.size := Nat.lt_of_lt_of_le hb hEw.out.size
      have hKX : sameE l k = if l[k].k = 1 then 14 else 0 := by unfold sameE; rw [kindAt_lt hlt]
      clear hx
      by_cases hk0 : l[k].k = 1
      · have HZ := hKX.trans (if_pos hk0)
        have HR := Hid.mk' (HKE2.out.trans (show firstE (sameE l) l.length = 14 by rw [firstE_at hrel.out hlt (by rw [HZ]; decide), HZ]))
        rw [hk0] at f0
        clear hk0 hKX HZ
        go_wp2
        go_ret
        exact ⟨ret_int HR.out.symm, hEw.out⟩
      · have e0 : (l[k].k == 1) = false := by simpa using hk0
        have HZ := Hid.mk' (hKX.trans (if_neg hk0))
        clear hk0 hKX
        go_wp2
        go_roundw
        case rel => exact ⟨k + 1, by omega, by go_num, fun j hj => by
          by_cases e : j = k
          · subst e; exact HZ.out
          · exact hrel.out j (by omega), hE⟩
        case measure => simp [intOf]; omega
    · have hkk : k = l.length := by omega
      have HR := Hid.mk' (HKE2.out.trans (firstE_zero (fun i hi => hrel.out i (by omega))))
      subst hkk
      go_wp2
      go_ret
      exact ⟨ret_int HR.out.symm, hEw.out⟩

end Go.Proofs.Ytdbepkfblfhlhaa
