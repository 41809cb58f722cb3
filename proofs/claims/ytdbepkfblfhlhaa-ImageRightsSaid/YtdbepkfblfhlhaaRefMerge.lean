/-
The reference's Merge.
-/
import Derived.Test.YtdbepkfblfhlhaaRefImg
namespace Go.Proofs.Ytdbepkfblfhlhaa
open Go.RowKit

set_option maxRecDepth 100000 in set_option maxHeartbeats 4000000 in
theorem rmerge_any (lb l : List K) (ab a : Option Addr) (cb cap : Nat) (w : World) (hb : Sl w (.slice ab lb.length cb) 6 (lb.map K.rc)) (hl : Sl w (.slice a l.length cap) 6 (l.map K.rc)) (hlb : lb.length ≤ 1000) (hlen : l.length ≤ 1000) :
    Calls Try.prog 36 #[.slice ab lb.length cb, .slice a l.length cap] w fun e w' => ∃ a' cap', e = .returned (.slice a' l.length cap') ∧ Sl w' (.slice a' l.length cap') 6 ((mergeK lb l).map K.rc) ∧ Ext w w' := by
  have HL := Hid.mk' hl
  have HB := Hid.mk' hb
  clear hl hb
  obtain ⟨i0, hi, hz0, hz1, hz2⟩ := info_parts Try.infoCellR
  go_enter Try.func36, Try.ntmps36
  go_wp2
  go_loopw [5, 6] (fun v i wr => ∃ k : Nat, k ≤ l.length ∧ i = .int .i64 k ∧ Hid (wr.ownsRow w.heap.size 121 6 v k (((mergeK lb l).map K.rc).take k).flatten) ∧ Hid (Ext w wr)) (fun _ i _ => l.length - (intOf i).toNat)
  case atStart => exact ⟨0, Nat.zero_le _, rfl, World.ownsRow_nil _ _ _ _, Ext.refl _⟩
  case round =>
    obtain ⟨k, hk, rfl, hown, hE⟩ := hrel
    by_cases hlt : k < l.length
    · obtain ⟨b, o, rfl, hbb, hx⟩ := HL.out.at_ (i := k) (by simpa using hlt)
      obtain ⟨f0, f1, f2, f3, f4, f5⟩ := K.rcAt hlt hx hbb hE.out
      have hbw : b < wr.heap.size := Nat.lt_of_lt_of_le hbb hE.out.size
      have hkl : k < (mergeK lb l).length := by rw [mergeK_len]; exact hlt
      have HT := Hid.mk' (flat_snoc (f := K.rc) hkl)
      rw [mergeK_get] at HT
      clear hx
      obtain ⟨c, hc⟩ : ∃ c, c = l[k] := ⟨_, rfl⟩
      rw [← hc] at f0 f1 f2 f3 f4 f5 HT
      clear hc
      by_cases h1 : c.k = 1
      · have h1' : (c.k == 1) = true := by simpa using h1
        rw [if_pos h1] at HT
        clear h1
        by_cases h2 : k < lb.length
        · obtain ⟨b2, o2, rfl, hbb2, hx2⟩ := HB.out.at_ (i := k) (by simpa using h2)
          obtain ⟨p0, p1, p2, p3, p4, p5⟩ := K.rcAt h2 hx2 hbb2 hE.out
          have hbw2 : b2 < wr.heap.size := Nat.lt_of_lt_of_le hbb2 hE.out.size
          rw [List.getElem?_eq_getElem h2, Option.getD_some] at HT
          obtain ⟨d, hd⟩ : ∃ d, d = lb[k] := ⟨_, rfl⟩
          rw [← hd] at p0 p1 p2 p3 p4 p5 HT
          clear hd hx2
          go_wp2_with (at_builtin; refine wpList_append_own _ rfl _ _ 31 rfl w.heap.size 121 i0 _ 6 56 Try.underlying31 hi hz0 hz1 hz2 rfl (by decide) _ _ _ rfl (hown.out.alloc _) ⟨_, 0, none⟩ 1 1 d.rc rfl rfl ?c1 ?c2 ?c3 ?c4 ?c5 ?_)
          case c1 => exact cells_new _ #[.int .u8 d.k, .int .u8 d.v.ty, .int .i64 d.v.n, .int .u64 d.v.x, .int .u64 d.v.y, .string d.v.s] _
          case c2 => intro u hu; simp [K.rc] at hu; rcases hu with rfl | rfl | rfl | rfl | rfl | rfl <;> rfl
          case c3 => unfold maxLen; omega
          case c4 => omega
          case c5 => have := hE.out.size; simp; omega
          intro v' w2 hown' hgrow _
          have HE2 := Hid.mk' (Below.grown (hE.out.alloc _) hgrow (by have := hE.out.size; rw [World.size_alloc]; omega) (fun g hg => (hown.out.lt g hg).1))
          have HO2 := Hid.mk' hown'
          clear hown' hgrow
          go_wp2
          go_roundw
          case rel => exact ⟨k + 1, by omega, by go_num, Hid.mk' (by rw [HT.out]; exact HO2.out), HE2⟩
          case measure => simp [intOf]; omega
        · have h2' : lb.length ≤ k := by omega
          rw [List.getElem?_eq_none h2', Option.getD_none] at HT
          go_wp2_with (at_builtin; refine wpList_append_own _ rfl _ _ 31 rfl w.heap.size 121 i0 _ 6 56 Try.underlying31 hi hz0 hz1 hz2 rfl (by decide) _ _ _ rfl (hown.out.alloc _) ⟨_, 0, none⟩ 1 1 c.rc rfl rfl ?c1 ?c2 ?c3 ?c4 ?c5 ?_)
          case c1 => exact cells_new _ #[.int .u8 c.k, .int .u8 c.v.ty, .int .i64 c.v.n, .int .u64 c.v.x, .int .u64 c.v.y, .string c.v.s] _
          case c2 => intro u hu; simp [K.rc] at hu; rcases hu with rfl | rfl | rfl | rfl | rfl | rfl <;> rfl
          case c3 => unfold maxLen; omega
          case c4 => omega
          case c5 => have := hE.out.size; simp; omega
          intro v' w2 hown' hgrow _
          have HE2 := Hid.mk' (Below.grown (hE.out.alloc _) hgrow (by have := hE.out.size; rw [World.size_alloc]; omega) (fun g hg => (hown.out.lt g hg).1))
          have HO2 := Hid.mk' hown'
          clear hown' hgrow
          go_wp2
          go_roundw
          case rel => exact ⟨k + 1, by omega, by go_num, Hid.mk' (by rw [HT.out]; exact HO2.out), HE2⟩
          case measure => simp [intOf]; omega
      · have h1' : (c.k == 1) = false := by simpa using h1
        rw [if_neg h1] at HT
        clear h1
        go_wp2_with (at_builtin; refine wpList_append_own _ rfl _ _ 31 rfl w.heap.size 121 i0 _ 6 56 Try.underlying31 hi hz0 hz1 hz2 rfl (by decide) _ _ _ rfl (hown.out.alloc _) ⟨_, 0, none⟩ 1 1 c.rc rfl rfl ?c1 ?c2 ?c3 ?c4 ?c5 ?_)
        case c1 => exact cells_new _ #[.int .u8 c.k, .int .u8 c.v.ty, .int .i64 c.v.n, .int .u64 c.v.x, .int .u64 c.v.y, .string c.v.s] _
        case c2 => intro u hu; simp [K.rc] at hu; rcases hu with rfl | rfl | rfl | rfl | rfl | rfl <;> rfl
        case c3 => unfold maxLen; omega
        case c4 => omega
        case c5 => have := hE.out.size; simp; omega
        intro v' w2 hown' hgrow _
        have HE2 := Hid.mk' (Below.grown (hE.out.alloc _) hgrow (by have := hE.out.size; rw [World.size_alloc]; omega) (fun g hg => (hown.out.lt g hg).1))
        have HO2 := Hid.mk' hown'
        clear hown' hgrow
        go_wp2
        go_roundw
        case rel => exact ⟨k + 1, by omega, by go_num, Hid.mk' (by rw [HT.out]; exact HO2.out), HE2⟩
        case measure => simp [intOf]; omega
    · have hkk : k = l.length := by omega
      subst hkk
      rw [show l.length = ((mergeK lb l).map K.rc).length by rw [List.length_map, mergeK_len], List.take_length] at hown
      rw [List.length_map, mergeK_len] at hown
      obtain ⟨a', c', rfl⟩ := owns_shape hown.out
      go_wp2
      go_ret
      refine ⟨a', c', rfl, Sl.of_owns (base := w.heap.size) (e := 121) ?_ ?_, hE.out⟩
      · rw [List.length_map, mergeK_len]; exact hown.out
      · intro xs hxs; simp at hxs; obtain ⟨a, _, rfl⟩ := hxs; rfl

end Go.Proofs.Ytdbepkfblfhlhaa
