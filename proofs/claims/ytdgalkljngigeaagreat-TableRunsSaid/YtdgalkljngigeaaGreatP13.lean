/-
What is wrong with an event's images: the reference's answer.
-/
import Derived.Test.YtdgalkljngigeaaGreatP12
namespace Go.Proofs.YtdgalkljngigeaaGreat
open Go.RowKit

set_option maxRecDepth 100000 in set_option maxHeartbeats 8000000 in
theorem rimage_any (kind old : Int) (lb la : List K) (ba aa : Option Addr) (bc ac : Nat) (oid ver : Int) (nm : ByteArray) (id : Int) (cols : List Col) (a2 : Option Addr) (cap2 : Nat) (w : World) (hl2 : Sl w (.slice a2 cols.length cap2) 3 (cols.map Col.cells)) (hlen2 : cols.length ≤ 1000) (hb : Sl w (.slice ba lb.length bc) 6 (lb.map K.rc)) (ha : Sl w (.slice aa la.length ac) 6 (la.map K.rc)) (hlb : lb.length ≤ 1000) (hla : la.length ≤ 1000) (hsb : ∀ c ∈ lb, c.wk) (hsa : ∀ c ∈ la, c.wk) (hs2 : ∀ c ∈ cols, c.nm.size ≤ 9223372036854775807) (hnm : nm.size ≤ 9223372036854775807) (hid : 0 ≤ id) (hold : 0 ≤ old) :
    Calls Tryz.prog 97 #[.agg #[.int .u32 oid, .int .u32 ver, .string nm, .int .u8 id, .slice a2 cols.length cap2], .int .u8 kind, .int .u8 old, .slice ba lb.length bc, .slice aa la.length ac] w fun e w' => e = .returned (.int .i64 (imgE (⟨oid, ver, nm, id, cols⟩ : Rl) kind old lb la)) ∧ Ext w w' := by
  have HKB := Hid.mk' (fun W (h : Ext w W) => risKey_any lb ba bc oid ver nm id cols a2 cap2 W (hb.ext h) (hl2.ext h) hlb hlen2 hsb hs2 hnm)
  have HFB := Hid.mk' (fun W (h : Ext w W) => risFull_any lb ba bc oid ver nm id cols a2 cap2 W (hb.ext h) (hl2.ext h) hlb hlen2 hsb hs2 hnm)
  have HFA := Hid.mk' (fun W (h : Ext w W) => risFull_any la aa ac oid ver nm id cols a2 cap2 W (ha.ext h) (hl2.ext h) hla hlen2 hsa hs2 hnm)
  have HDA := Hid.mk' (fun W (h : Ext w W) => rkeyed_any la aa ac oid ver nm id cols a2 cap2 W (ha.ext h) (hl2.ext h) hla hlen2 hsa hs2 hnm)
  have HKO := Hid.mk' (fun W (h : Ext w W) => rkeyOf_any la aa ac oid ver nm id cols a2 cap2 W (ha.ext h) (hl2.ext h) hla hlen2)
  have HAK := Hid.mk' (fun W g c (h : Ext w W) (hr : Sl W (.slice g la.length c) 6 ((keyOf cols la).map K.rc)) => (show Calls Tryz.prog 26 #[.slice ba lb.length bc, .slice g la.length c] W _ from by have := rsame_any lb (keyOf cols la) ba g bc c W (hb.ext h) (by rw [keyOf_len]; exact hr) hlb (by rw [keyOf_len]; exact hla); rwa [keyOf_len] at this))
  have HR : Hid (imgE (⟨oid, ver, nm, id, cols⟩ : Rl) kind old lb la = if kind < 4 ∨ 6 < kind then 7 else if 2 < old then 14 else if old = 0 ∧ 0 < lb.length then 14 else if kind = 6 ∧ 0 < la.length then 14 else if allowB id kind old = false then 14
    else if old = 1 ∧ isKeyE lb (⟨oid, ver, nm, id, cols⟩ : Rl) ≠ 0 then isKeyE lb (⟨oid, ver, nm, id, cols⟩ : Rl) else if old = 2 ∧ isFullE lb (⟨oid, ver, nm, id, cols⟩ : Rl) ≠ 0 then isFullE lb (⟨oid, ver, nm, id, cols⟩ : Rl) else if kind = 6 then 0 else if kind = 4 ∧ isFullE la (⟨oid, ver, nm, id, cols⟩ : Rl) ≠ 0 then isFullE la (⟨oid, ver, nm, id, cols⟩ : Rl) else if kind ≠ 4 ∧ keyedE la (⟨oid, ver, nm, id, cols⟩ : Rl) ≠ 0 then keyedE la (⟨oid, ver, nm, id, cols⟩ : Rl) else if old = 1 ∧ rowB lb (keyOf cols la) = true then 13 else 0) := Hid.mk' rfl
  generalize imgE (⟨oid, ver, nm, id, cols⟩ : Rl) kind old lb la = RES at HR ⊢
  generalize isKeyE lb (⟨oid, ver, nm, id, cols⟩ : Rl) = EKB at HKB HR
  generalize isFullE lb (⟨oid, ver, nm, id, cols⟩ : Rl) = EFB at HFB HR
  generalize isFullE la (⟨oid, ver, nm, id, cols⟩ : Rl) = EFA at HFA HR
  generalize keyedE la (⟨oid, ver, nm, id, cols⟩ : Rl) = EDA at HDA HR
  generalize rowB lb (keyOf cols la) = BAK at HAK HR
  clear hl2 hb ha hsb hsa hs2 hnm
  by_cases hk : kind < 4 ∨ 6 < kind
  · have HR2 := Hid.mk' (HR.out.trans (if_pos hk))
    clear HR
    rcases hk with hk | hk
    all_goals
      (try have hk4 : 4 ≤ kind := by omega)
      go_enter Tryz.func97, Tryz.ntmps97
      go_wp2
      go_ret
      exact ⟨ret_int HR2.out.symm, by exact eX⟩
  have hk3 : kind = 4 ∨ kind = 5 ∨ kind = 6 := by omega
  have HRk := Hid.mk' (HR.out.trans (if_neg hk))
  clear HR hk
  by_cases ho : 2 < old
  · have HR2 := Hid.mk' (HRk.out.trans (if_pos ho))
    clear HRk
    rcases hk3 with rfl | rfl | rfl
    all_goals
      go_enter Tryz.func97, Tryz.ntmps97
      go_wp2
      go_ret
      exact ⟨ret_int HR2.out.symm, by exact eX⟩
  have ho3 : old = 0 ∨ old = 1 ∨ old = 2 := by omega
  have HRo := Hid.mk' (HRk.out.trans (if_neg ho))
  clear HRk ho hold
  have hi4 : id = 0 ∨ id = 1 ∨ id = 2 ∨ 2 < id := by omega

  rcases hk3 with rfl | rfl | rfl <;> rcases ho3 with rfl | rfl | rfl <;> rcases hi4 with hi | hi | hi | hi
  · have e0 : (id == 0) = true := by simp; omega
    have n0 : (id != 0) = false := by simp; omega
    have f0 : ((0 : Int) == id) = true := by simp; omega
    have m0 : ((0 : Int) != id) = false := by simp; omega
    have e1 : (id == 1) = false := by simp; omega
    have n1 : (id != 1) = true := by simp; omega
    have f1 : ((1 : Int) == id) = false := by simp; omega
    have m1 : ((1 : Int) != id) = true := by simp; omega
    have e2 : (id == 2) = false := by simp; omega
    have n2 : (id != 2) = true := by simp; omega
    have f2 : ((2 : Int) == id) = false := by simp; omega
    have m2 : ((2 : Int) != id) = true := by simp; omega
    have hA : allowB id 4 0 = true := by rw [hi]; decide
    clear hi
    by_cases hlb0 : 0 < lb.length
    · have HR2 := Hid.mk' (HRo.out.trans (if_pos ⟨rfl, hlb0⟩))
      clear HRo hA
      go_enter Tryz.func97, Tryz.ntmps97
      go_wp2
      go_ret
      exact ⟨ret_int HR2.out.symm, by exact eX⟩
    have hlb1 : lb.length = 0 := by omega
    have hlb2 : ¬ ((0 : Nat) < lb.length) := by omega
    have HR1 := Hid.mk' (HRo.out.trans (if_neg (fun h => hlb2 h.2)))
    clear HRo hlb0 hlb1
    have HR1b := Hid.mk' (HR1.out.trans ((if_neg (by rintro ⟨h, _⟩; revert h; decide)).trans (if_neg (by rw [hA]; simp))))
    clear HR1 hA
    have HR3 := Hid.mk' (HR1b.out.trans ((if_neg (by simp)).trans (if_neg (by simp))))
    clear HR1b
    by_cases h1 : EFA = 0
    case neg =>
      have h1' : (EFA != 0) = true := by simpa using h1
      have HR2 := Hid.mk' (HR3.out.trans ((if_neg (by decide)).trans (if_pos ⟨rfl, h1⟩)))
      clear h1
      go_enter Tryz.func97, Tryz.ntmps97
      go_wp2_with (first
        | (go_at_call 114; refine (HDA.out _ (by exact eX)).mono ?_; rintro e w6 ⟨rfl, hb6⟩; have hE6 : Ext (w.alloc (.cells #[.int .u32 oid, .int .u32 ver, .string nm, .int .u8 id, .slice a2 cols.length cap2] 51)) w6 := (by exact eX); have g6 := ((Blk.new w #[.int .u32 oid, .int .u32 ver, .string nm, .int .u8 id, .slice a2 cols.length cap2] 51).ext hE6).cell; clear hb6)
        | (go_at_call 113; refine (HFA.out _ (by exact eX)).mono ?_; rintro e w5 ⟨rfl, hb5⟩; have hE5 : Ext (w.alloc (.cells #[.int .u32 oid, .int .u32 ver, .string nm, .int .u8 id, .slice a2 cols.length cap2] 51)) w5 := (by exact eX); have g5 := ((Blk.new w #[.int .u32 oid, .int .u32 ver, .string nm, .int .u8 id, .slice a2 cols.length cap2] 51).ext hE5).cell; clear hb5))
      go_ret
      exact ⟨ret_int HR2.out.symm, by exact eX⟩
    subst h1
    have HR4 := Hid.mk' (HR3.out.trans ((if_neg (by decide)).trans ((if_neg (by simp)).trans (if_neg (by simp)))))
    clear HR3
    have HR2 := Hid.mk' (HR4.out.trans (if_neg (by simp)))
    clear HR4
    go_enter Tryz.func97, Tryz.ntmps97
    go_wp2_with (first
      | (go_at_call 114; refine (HDA.out _ (by exact eX)).mono ?_; rintro e w6 ⟨rfl, hb6⟩; have hE6 : Ext (w.alloc (.cells #[.int .u32 oid, .int .u32 ver, .string nm, .int .u8 id, .slice a2 cols.length cap2] 51)) w6 := (by exact eX); have g6 := ((Blk.new w #[.int .u32 oid, .int .u32 ver, .string nm, .int .u8 id, .slice a2 cols.length cap2] 51).ext hE6).cell; clear hb6)
      | (go_at_call 113; refine (HFA.out _ (by exact eX)).mono ?_; rintro e w5 ⟨rfl, hb5⟩; have hE5 : Ext (w.alloc (.cells #[.int .u32 oid, .int .u32 ver, .string nm, .int .u8 id, .slice a2 cols.length cap2] 51)) w5 := (by exact eX); have g5 := ((Blk.new w #[.int .u32 oid, .int .u32 ver, .string nm, .int .u8 id, .slice a2 cols.length cap2] 51).ext hE5).cell; clear hb5))
    go_ret
    exact ⟨ret_int HR2.out.symm, by exact eX⟩
  · have e0 : (id == 0) = false := by simp; omega
    have n0 : (id != 0) = true := by simp; omega
    have f0 : ((0 : Int) == id) = false := by simp; omega
    have m0 : ((0 : Int) != id) = true := by simp; omega
    have e1 : (id == 1) = true := by simp; omega
    have n1 : (id != 1) = false := by simp; omega
    have f1 : ((1 : Int) == id) = true := by simp; omega
    have m1 : ((1 : Int) != id) = false := by simp; omega
    have e2 : (id == 2) = false := by simp; omega
    have n2 : (id != 2) = true := by simp; omega
    have f2 : ((2 : Int) == id) = false := by simp; omega
    have m2 : ((2 : Int) != id) = true := by simp; omega
    have hA : allowB id 4 0 = true := by rw [hi]; decide
    clear hi
    by_cases hlb0 : 0 < lb.length
    · have HR2 := Hid.mk' (HRo.out.trans (if_pos ⟨rfl, hlb0⟩))
      clear HRo hA
      go_enter Tryz.func97, Tryz.ntmps97
      go_wp2
      go_ret
      exact ⟨ret_int HR2.out.symm, by exact eX⟩
    have hlb1 : lb.length = 0 := by omega
    have hlb2 : ¬ ((0 : Nat) < lb.length) := by omega
    have HR1 := Hid.mk' (HRo.out.trans (if_neg (fun h => hlb2 h.2)))
    clear HRo hlb0 hlb1
    have HR1b := Hid.mk' (HR1.out.trans ((if_neg (by rintro ⟨h, _⟩; revert h; decide)).trans (if_neg (by rw [hA]; simp))))
    clear HR1 hA
    have HR3 := Hid.mk' (HR1b.out.trans ((if_neg (by simp)).trans (if_neg (by simp))))
    clear HR1b
    by_cases h1 : EFA = 0
    case neg =>
      have h1' : (EFA != 0) = true := by simpa using h1
      have HR2 := Hid.mk' (HR3.out.trans ((if_neg (by decide)).trans (if_pos ⟨rfl, h1⟩)))
      clear h1
      go_enter Tryz.func97, Tryz.ntmps97
      go_wp2_with (first
        | (go_at_call 114; refine (HDA.out _ (by exact eX)).mono ?_; rintro e w6 ⟨rfl, hb6⟩; have hE6 : Ext (w.alloc (.cells #[.int .u32 oid, .int .u32 ver, .string nm, .int .u8 id, .slice a2 cols.length cap2] 51)) w6 := (by exact eX); have g6 := ((Blk.new w #[.int .u32 oid, .int .u32 ver, .string nm, .int .u8 id, .slice a2 cols.length cap2] 51).ext hE6).cell; clear hb6)
        | (go_at_call 113; refine (HFA.out _ (by exact eX)).mono ?_; rintro e w5 ⟨rfl, hb5⟩; have hE5 : Ext (w.alloc (.cells #[.int .u32 oid, .int .u32 ver, .string nm, .int .u8 id, .slice a2 cols.length cap2] 51)) w5 := (by exact eX); have g5 := ((Blk.new w #[.int .u32 oid, .int .u32 ver, .string nm, .int .u8 id, .slice a2 cols.length cap2] 51).ext hE5).cell; clear hb5))
      go_ret
      exact ⟨ret_int HR2.out.symm, by exact eX⟩
    subst h1
    have HR4 := Hid.mk' (HR3.out.trans ((if_neg (by decide)).trans ((if_neg (by simp)).trans (if_neg (by simp)))))
    clear HR3
    have HR2 := Hid.mk' (HR4.out.trans (if_neg (by simp)))
    clear HR4
    go_enter Tryz.func97, Tryz.ntmps97
    go_wp2_with (first
      | (go_at_call 114; refine (HDA.out _ (by exact eX)).mono ?_; rintro e w6 ⟨rfl, hb6⟩; have hE6 : Ext (w.alloc (.cells #[.int .u32 oid, .int .u32 ver, .string nm, .int .u8 id, .slice a2 cols.length cap2] 51)) w6 := (by exact eX); have g6 := ((Blk.new w #[.int .u32 oid, .int .u32 ver, .string nm, .int .u8 id, .slice a2 cols.length cap2] 51).ext hE6).cell; clear hb6)
      | (go_at_call 113; refine (HFA.out _ (by exact eX)).mono ?_; rintro e w5 ⟨rfl, hb5⟩; have hE5 : Ext (w.alloc (.cells #[.int .u32 oid, .int .u32 ver, .string nm, .int .u8 id, .slice a2 cols.length cap2] 51)) w5 := (by exact eX); have g5 := ((Blk.new w #[.int .u32 oid, .int .u32 ver, .string nm, .int .u8 id, .slice a2 cols.length cap2] 51).ext hE5).cell; clear hb5))
    go_ret
    exact ⟨ret_int HR2.out.symm, by exact eX⟩
  · have e0 : (id == 0) = false := by simp; omega
    have n0 : (id != 0) = true := by simp; omega
    have f0 : ((0 : Int) == id) = false := by simp; omega
    have m0 : ((0 : Int) != id) = true := by simp; omega
    have e1 : (id == 1) = false := by simp; omega
    have n1 : (id != 1) = true := by simp; omega
    have f1 : ((1 : Int) == id) = false := by simp; omega
    have m1 : ((1 : Int) != id) = true := by simp; omega
    have e2 : (id == 2) = true := by simp; omega
    have n2 : (id != 2) = false := by simp; omega
    have f2 : ((2 : Int) == id) = true := by simp; omega
    have m2 : ((2 : Int) != id) = false := by simp; omega
    have hA : allowB id 4 0 = true := by rw [hi]; decide
    clear hi
    by_cases hlb0 : 0 < lb.length
    · have HR2 := Hid.mk' (HRo.out.trans (if_pos ⟨rfl, hlb0⟩))
      clear HRo hA
      go_enter Tryz.func97, Tryz.ntmps97
      go_wp2
      go_ret
      exact ⟨ret_int HR2.out.symm, by exact eX⟩
    have hlb1 : lb.length = 0 := by omega
    have hlb2 : ¬ ((0 : Nat) < lb.length) := by omega
    have HR1 := Hid.mk' (HRo.out.trans (if_neg (fun h => hlb2 h.2)))
    clear HRo hlb0 hlb1
    have HR1b := Hid.mk' (HR1.out.trans ((if_neg (by rintro ⟨h, _⟩; revert h; decide)).trans (if_neg (by rw [hA]; simp))))
    clear HR1 hA
    have HR3 := Hid.mk' (HR1b.out.trans ((if_neg (by simp)).trans (if_neg (by simp))))
    clear HR1b
    by_cases h1 : EFA = 0
    case neg =>
      have h1' : (EFA != 0) = true := by simpa using h1
      have HR2 := Hid.mk' (HR3.out.trans ((if_neg (by decide)).trans (if_pos ⟨rfl, h1⟩)))
      clear h1
      go_enter Tryz.func97, Tryz.ntmps97
      go_wp2_with (first
        | (go_at_call 114; refine (HDA.out _ (by exact eX)).mono ?_; rintro e w6 ⟨rfl, hb6⟩; have hE6 : Ext (w.alloc (.cells #[.int .u32 oid, .int .u32 ver, .string nm, .int .u8 id, .slice a2 cols.length cap2] 51)) w6 := (by exact eX); have g6 := ((Blk.new w #[.int .u32 oid, .int .u32 ver, .string nm, .int .u8 id, .slice a2 cols.length cap2] 51).ext hE6).cell; clear hb6)
        | (go_at_call 113; refine (HFA.out _ (by exact eX)).mono ?_; rintro e w5 ⟨rfl, hb5⟩; have hE5 : Ext (w.alloc (.cells #[.int .u32 oid, .int .u32 ver, .string nm, .int .u8 id, .slice a2 cols.length cap2] 51)) w5 := (by exact eX); have g5 := ((Blk.new w #[.int .u32 oid, .int .u32 ver, .string nm, .int .u8 id, .slice a2 cols.length cap2] 51).ext hE5).cell; clear hb5))
      go_ret
      exact ⟨ret_int HR2.out.symm, by exact eX⟩
    subst h1
    have HR4 := Hid.mk' (HR3.out.trans ((if_neg (by decide)).trans ((if_neg (by simp)).trans (if_neg (by simp)))))
    clear HR3
    have HR2 := Hid.mk' (HR4.out.trans (if_neg (by simp)))
    clear HR4
    go_enter Tryz.func97, Tryz.ntmps97
    go_wp2_with (first
      | (go_at_call 114; refine (HDA.out _ (by exact eX)).mono ?_; rintro e w6 ⟨rfl, hb6⟩; have hE6 : Ext (w.alloc (.cells #[.int .u32 oid, .int .u32 ver, .string nm, .int .u8 id, .slice a2 cols.length cap2] 51)) w6 := (by exact eX); have g6 := ((Blk.new w #[.int .u32 oid, .int .u32 ver, .string nm, .int .u8 id, .slice a2 cols.length cap2] 51).ext hE6).cell; clear hb6)
      | (go_at_call 113; refine (HFA.out _ (by exact eX)).mono ?_; rintro e w5 ⟨rfl, hb5⟩; have hE5 : Ext (w.alloc (.cells #[.int .u32 oid, .int .u32 ver, .string nm, .int .u8 id, .slice a2 cols.length cap2] 51)) w5 := (by exact eX); have g5 := ((Blk.new w #[.int .u32 oid, .int .u32 ver, .string nm, .int .u8 id, .slice a2 cols.length cap2] 51).ext hE5).cell; clear hb5))
    go_ret
    exact ⟨ret_int HR2.out.symm, by exact eX⟩
  · have e0 : (id == 0) = false := by simp; omega
    have n0 : (id != 0) = true := by simp; omega
    have f0 : ((0 : Int) == id) = false := by simp; omega
    have m0 : ((0 : Int) != id) = true := by simp; omega
    have e1 : (id == 1) = false := by simp; omega
    have n1 : (id != 1) = true := by simp; omega
    have f1 : ((1 : Int) == id) = false := by simp; omega
    have m1 : ((1 : Int) != id) = true := by simp; omega
    have e2 : (id == 2) = false := by simp; omega
    have n2 : (id != 2) = true := by simp; omega
    have f2 : ((2 : Int) == id) = false := by simp; omega
    have m2 : ((2 : Int) != id) = true := by simp; omega
    have hA : allowB id 4 0 = true := by unfold allowB; simp <;> omega
    clear hi
    by_cases hlb0 : 0 < lb.length
    · have HR2 := Hid.mk' (HRo.out.trans (if_pos ⟨rfl, hlb0⟩))
      clear HRo hA
      go_enter Tryz.func97, Tryz.ntmps97
      go_wp2
      go_ret
      exact ⟨ret_int HR2.out.symm, by exact eX⟩
    have hlb1 : lb.length = 0 := by omega
    have hlb2 : ¬ ((0 : Nat) < lb.length) := by omega
    have HR1 := Hid.mk' (HRo.out.trans (if_neg (fun h => hlb2 h.2)))
    clear HRo hlb0 hlb1
    have HR1b := Hid.mk' (HR1.out.trans ((if_neg (by rintro ⟨h, _⟩; revert h; decide)).trans (if_neg (by rw [hA]; simp))))
    clear HR1 hA
    have HR3 := Hid.mk' (HR1b.out.trans ((if_neg (by simp)).trans (if_neg (by simp))))
    clear HR1b
    by_cases h1 : EFA = 0
    case neg =>
      have h1' : (EFA != 0) = true := by simpa using h1
      have HR2 := Hid.mk' (HR3.out.trans ((if_neg (by decide)).trans (if_pos ⟨rfl, h1⟩)))
      clear h1
      go_enter Tryz.func97, Tryz.ntmps97
      go_wp2_with (first
        | (go_at_call 114; refine (HDA.out _ (by exact eX)).mono ?_; rintro e w6 ⟨rfl, hb6⟩; have hE6 : Ext (w.alloc (.cells #[.int .u32 oid, .int .u32 ver, .string nm, .int .u8 id, .slice a2 cols.length cap2] 51)) w6 := (by exact eX); have g6 := ((Blk.new w #[.int .u32 oid, .int .u32 ver, .string nm, .int .u8 id, .slice a2 cols.length cap2] 51).ext hE6).cell; clear hb6)
        | (go_at_call 113; refine (HFA.out _ (by exact eX)).mono ?_; rintro e w5 ⟨rfl, hb5⟩; have hE5 : Ext (w.alloc (.cells #[.int .u32 oid, .int .u32 ver, .string nm, .int .u8 id, .slice a2 cols.length cap2] 51)) w5 := (by exact eX); have g5 := ((Blk.new w #[.int .u32 oid, .int .u32 ver, .string nm, .int .u8 id, .slice a2 cols.length cap2] 51).ext hE5).cell; clear hb5))
      go_ret
      exact ⟨ret_int HR2.out.symm, by exact eX⟩
    subst h1
    have HR4 := Hid.mk' (HR3.out.trans ((if_neg (by decide)).trans ((if_neg (by simp)).trans (if_neg (by simp)))))
    clear HR3
    have HR2 := Hid.mk' (HR4.out.trans (if_neg (by simp)))
    clear HR4
    go_enter Tryz.func97, Tryz.ntmps97
    go_wp2_with (first
      | (go_at_call 114; refine (HDA.out _ (by exact eX)).mono ?_; rintro e w6 ⟨rfl, hb6⟩; have hE6 : Ext (w.alloc (.cells #[.int .u32 oid, .int .u32 ver, .string nm, .int .u8 id, .slice a2 cols.length cap2] 51)) w6 := (by exact eX); have g6 := ((Blk.new w #[.int .u32 oid, .int .u32 ver, .string nm, .int .u8 id, .slice a2 cols.length cap2] 51).ext hE6).cell; clear hb6)
      | (go_at_call 113; refine (HFA.out _ (by exact eX)).mono ?_; rintro e w5 ⟨rfl, hb5⟩; have hE5 : Ext (w.alloc (.cells #[.int .u32 oid, .int .u32 ver, .string nm, .int .u8 id, .slice a2 cols.length cap2] 51)) w5 := (by exact eX); have g5 := ((Blk.new w #[.int .u32 oid, .int .u32 ver, .string nm, .int .u8 id, .slice a2 cols.length cap2] 51).ext hE5).cell; clear hb5))
    go_ret
    exact ⟨ret_int HR2.out.symm, by exact eX⟩
  · have e0 : (id == 0) = true := by simp; omega
    have n0 : (id != 0) = false := by simp; omega
    have f0 : ((0 : Int) == id) = true := by simp; omega
    have m0 : ((0 : Int) != id) = false := by simp; omega
    have e1 : (id == 1) = false := by simp; omega
    have n1 : (id != 1) = true := by simp; omega
    have f1 : ((1 : Int) == id) = false := by simp; omega
    have m1 : ((1 : Int) != id) = true := by simp; omega
    have e2 : (id == 2) = false := by simp; omega
    have n2 : (id != 2) = true := by simp; omega
    have f2 : ((2 : Int) == id) = false := by simp; omega
    have m2 : ((2 : Int) != id) = true := by simp; omega
    have hA : allowB id 4 1 = false := by rw [hi]; decide
    clear hi
    have HR2 := Hid.mk' (HRo.out.trans (three14 hA))
    clear HRo hA
    go_enter Tryz.func97, Tryz.ntmps97
    go_wp2
    all_goals
      go_ret
      exact ⟨ret_int HR2.out.symm, by exact eX⟩
  · have e0 : (id == 0) = false := by simp; omega
    have n0 : (id != 0) = true := by simp; omega
    have f0 : ((0 : Int) == id) = false := by simp; omega
    have m0 : ((0 : Int) != id) = true := by simp; omega
    have e1 : (id == 1) = true := by simp; omega
    have n1 : (id != 1) = false := by simp; omega
    have f1 : ((1 : Int) == id) = true := by simp; omega
    have m1 : ((1 : Int) != id) = false := by simp; omega
    have e2 : (id == 2) = false := by simp; omega
    have n2 : (id != 2) = true := by simp; omega
    have f2 : ((2 : Int) == id) = false := by simp; omega
    have m2 : ((2 : Int) != id) = true := by simp; omega
    have hA : allowB id 4 1 = false := by rw [hi]; decide
    clear hi
    have HR2 := Hid.mk' (HRo.out.trans (three14 hA))
    clear HRo hA
    go_enter Tryz.func97, Tryz.ntmps97
    go_wp2
    all_goals
      go_ret
      exact ⟨ret_int HR2.out.symm, by exact eX⟩
  · have e0 : (id == 0) = false := by simp; omega
    have n0 : (id != 0) = true := by simp; omega
    have f0 : ((0 : Int) == id) = false := by simp; omega
    have m0 : ((0 : Int) != id) = true := by simp; omega
    have e1 : (id == 1) = false := by simp; omega
    have n1 : (id != 1) = true := by simp; omega
    have f1 : ((1 : Int) == id) = false := by simp; omega
    have m1 : ((1 : Int) != id) = true := by simp; omega
    have e2 : (id == 2) = true := by simp; omega
    have n2 : (id != 2) = false := by simp; omega
    have f2 : ((2 : Int) == id) = true := by simp; omega
    have m2 : ((2 : Int) != id) = false := by simp; omega
    have hA : allowB id 4 1 = false := by rw [hi]; decide
    clear hi
    have HR2 := Hid.mk' (HRo.out.trans (three14 hA))
    clear HRo hA
    go_enter Tryz.func97, Tryz.ntmps97
    go_wp2
    all_goals
      go_ret
      exact ⟨ret_int HR2.out.symm, by exact eX⟩
  · have e0 : (id == 0) = false := by simp; omega
    have n0 : (id != 0) = true := by simp; omega
    have f0 : ((0 : Int) == id) = false := by simp; omega
    have m0 : ((0 : Int) != id) = true := by simp; omega
    have e1 : (id == 1) = false := by simp; omega
    have n1 : (id != 1) = true := by simp; omega
    have f1 : ((1 : Int) == id) = false := by simp; omega
    have m1 : ((1 : Int) != id) = true := by simp; omega
    have e2 : (id == 2) = false := by simp; omega
    have n2 : (id != 2) = true := by simp; omega
    have f2 : ((2 : Int) == id) = false := by simp; omega
    have m2 : ((2 : Int) != id) = true := by simp; omega
    have hA : allowB id 4 1 = false := by unfold allowB; simp <;> omega
    clear hi
    have HR2 := Hid.mk' (HRo.out.trans (three14 hA))
    clear HRo hA
    go_enter Tryz.func97, Tryz.ntmps97
    go_wp2
    all_goals
      go_ret
      exact ⟨ret_int HR2.out.symm, by exact eX⟩
  · have e0 : (id == 0) = true := by simp; omega
    have n0 : (id != 0) = false := by simp; omega
    have f0 : ((0 : Int) == id) = true := by simp; omega
    have m0 : ((0 : Int) != id) = false := by simp; omega
    have e1 : (id == 1) = false := by simp; omega
    have n1 : (id != 1) = true := by simp; omega
    have f1 : ((1 : Int) == id) = false := by simp; omega
    have m1 : ((1 : Int) != id) = true := by simp; omega
    have e2 : (id == 2) = false := by simp; omega
    have n2 : (id != 2) = true := by simp; omega
    have f2 : ((2 : Int) == id) = false := by simp; omega
    have m2 : ((2 : Int) != id) = true := by simp; omega
    have hA : allowB id 4 2 = false := by rw [hi]; decide
    clear hi
    have HR2 := Hid.mk' (HRo.out.trans (three14 hA))
    clear HRo hA
    go_enter Tryz.func97, Tryz.ntmps97
    go_wp2
    all_goals
      go_ret
      exact ⟨ret_int HR2.out.symm, by exact eX⟩
  · have e0 : (id == 0) = false := by simp; omega
    have n0 : (id != 0) = true := by simp; omega
    have f0 : ((0 : Int) == id) = false := by simp; omega
    have m0 : ((0 : Int) != id) = true := by simp; omega
    have e1 : (id == 1) = true := by simp; omega
    have n1 : (id != 1) = false := by simp; omega
    have f1 : ((1 : Int) == id) = true := by simp; omega
    have m1 : ((1 : Int) != id) = false := by simp; omega
    have e2 : (id == 2) = false := by simp; omega
    have n2 : (id != 2) = true := by simp; omega
    have f2 : ((2 : Int) == id) = false := by simp; omega
    have m2 : ((2 : Int) != id) = true := by simp; omega
    have hA : allowB id 4 2 = false := by rw [hi]; decide
    clear hi
    have HR2 := Hid.mk' (HRo.out.trans (three14 hA))
    clear HRo hA
    go_enter Tryz.func97, Tryz.ntmps97
    go_wp2
    all_goals
      go_ret
      exact ⟨ret_int HR2.out.symm, by exact eX⟩
  · have e0 : (id == 0) = false := by simp; omega
    have n0 : (id != 0) = true := by simp; omega
    have f0 : ((0 : Int) == id) = false := by simp; omega
    have m0 : ((0 : Int) != id) = true := by simp; omega
    have e1 : (id == 1) = false := by simp; omega
    have n1 : (id != 1) = true := by simp; omega
    have f1 : ((1 : Int) == id) = false := by simp; omega
    have m1 : ((1 : Int) != id) = true := by simp; omega
    have e2 : (id == 2) = true := by simp; omega
    have n2 : (id != 2) = false := by simp; omega
    have f2 : ((2 : Int) == id) = true := by simp; omega
    have m2 : ((2 : Int) != id) = false := by simp; omega
    have hA : allowB id 4 2 = false := by rw [hi]; decide
    clear hi
    have HR2 := Hid.mk' (HRo.out.trans (three14 hA))
    clear HRo hA
    go_enter Tryz.func97, Tryz.ntmps97
    go_wp2
    all_goals
      go_ret
      exact ⟨ret_int HR2.out.symm, by exact eX⟩
  · have e0 : (id == 0) = false := by simp; omega
    have n0 : (id != 0) = true := by simp; omega
    have f0 : ((0 : Int) == id) = false := by simp; omega
    have m0 : ((0 : Int) != id) = true := by simp; omega
    have e1 : (id == 1) = false := by simp; omega
    have n1 : (id != 1) = true := by simp; omega
    have f1 : ((1 : Int) == id) = false := by simp; omega
    have m1 : ((1 : Int) != id) = true := by simp; omega
    have e2 : (id == 2) = false := by simp; omega
    have n2 : (id != 2) = true := by simp; omega
    have f2 : ((2 : Int) == id) = false := by simp; omega
    have m2 : ((2 : Int) != id) = true := by simp; omega
    have hA : allowB id 4 2 = false := by unfold allowB; simp <;> omega
    clear hi
    have HR2 := Hid.mk' (HRo.out.trans (three14 hA))
    clear HRo hA
    go_enter Tryz.func97, Tryz.ntmps97
    go_wp2
    all_goals
      go_ret
      exact ⟨ret_int HR2.out.symm, by exact eX⟩
  · have e0 : (id == 0) = true := by simp; omega
    have n0 : (id != 0) = false := by simp; omega
    have f0 : ((0 : Int) == id) = true := by simp; omega
    have m0 : ((0 : Int) != id) = false := by simp; omega
    have e1 : (id == 1) = false := by simp; omega
    have n1 : (id != 1) = true := by simp; omega
    have f1 : ((1 : Int) == id) = false := by simp; omega
    have m1 : ((1 : Int) != id) = true := by simp; omega
    have e2 : (id == 2) = false := by simp; omega
    have n2 : (id != 2) = true := by simp; omega
    have f2 : ((2 : Int) == id) = false := by simp; omega
    have m2 : ((2 : Int) != id) = true := by simp; omega
    have hA : allowB id 5 0 = true := by rw [hi]; decide
    clear hi
    by_cases hlb0 : 0 < lb.length
    · have HR2 := Hid.mk' (HRo.out.trans (if_pos ⟨rfl, hlb0⟩))
      clear HRo hA
      go_enter Tryz.func97, Tryz.ntmps97
      go_wp2
      go_ret
      exact ⟨ret_int HR2.out.symm, by exact eX⟩
    have hlb1 : lb.length = 0 := by omega
    have hlb2 : ¬ ((0 : Nat) < lb.length) := by omega
    have HR1 := Hid.mk' (HRo.out.trans (if_neg (fun h => hlb2 h.2)))
    clear HRo hlb0 hlb1
    have HR1b := Hid.mk' (HR1.out.trans ((if_neg (by rintro ⟨h, _⟩; revert h; decide)).trans (if_neg (by rw [hA]; simp))))
    clear HR1 hA
    have HR3 := Hid.mk' (HR1b.out.trans ((if_neg (by simp)).trans (if_neg (by simp))))
    clear HR1b
    by_cases h1 : EDA = 0
    case neg =>
      have h1' : (EDA != 0) = true := by simpa using h1
      have HR2 := Hid.mk' (HR3.out.trans ((if_neg (by decide)).trans ((if_neg (by rintro ⟨h, _⟩; revert h; decide)).trans (if_pos ⟨by decide, h1⟩))))
      clear h1
      go_enter Tryz.func97, Tryz.ntmps97
      go_wp2_with (first
        | (go_at_call 114; refine (HDA.out _ (by exact eX)).mono ?_; rintro e w6 ⟨rfl, hb6⟩; have hE6 : Ext (w.alloc (.cells #[.int .u32 oid, .int .u32 ver, .string nm, .int .u8 id, .slice a2 cols.length cap2] 51)) w6 := (by exact eX); have g6 := ((Blk.new w #[.int .u32 oid, .int .u32 ver, .string nm, .int .u8 id, .slice a2 cols.length cap2] 51).ext hE6).cell; clear hb6))
      go_ret
      exact ⟨ret_int HR2.out.symm, by exact eX⟩
    subst h1
    have HR4 := Hid.mk' (HR3.out.trans ((if_neg (by decide)).trans ((if_neg (by simp)).trans (if_neg (by simp)))))
    clear HR3
    have HR2 := Hid.mk' (HR4.out.trans (if_neg (by simp)))
    clear HR4
    go_enter Tryz.func97, Tryz.ntmps97
    go_wp2_with (first
      | (go_at_call 114; refine (HDA.out _ (by exact eX)).mono ?_; rintro e w6 ⟨rfl, hb6⟩; have hE6 : Ext (w.alloc (.cells #[.int .u32 oid, .int .u32 ver, .string nm, .int .u8 id, .slice a2 cols.length cap2] 51)) w6 := (by exact eX); have g6 := ((Blk.new w #[.int .u32 oid, .int .u32 ver, .string nm, .int .u8 id, .slice a2 cols.length cap2] 51).ext hE6).cell; clear hb6))
    go_ret
    exact ⟨ret_int HR2.out.symm, by exact eX⟩
  · have e0 : (id == 0) = false := by simp; omega
    have n0 : (id != 0) = true := by simp; omega
    have f0 : ((0 : Int) == id) = false := by simp; omega
    have m0 : ((0 : Int) != id) = true := by simp; omega
    have e1 : (id == 1) = true := by simp; omega
    have n1 : (id != 1) = false := by simp; omega
    have f1 : ((1 : Int) == id) = true := by simp; omega
    have m1 : ((1 : Int) != id) = false := by simp; omega
    have e2 : (id == 2) = false := by simp; omega
    have n2 : (id != 2) = true := by simp; omega
    have f2 : ((2 : Int) == id) = false := by simp; omega
    have m2 : ((2 : Int) != id) = true := by simp; omega
    have hA : allowB id 5 0 = true := by rw [hi]; decide
    clear hi
    by_cases hlb0 : 0 < lb.length
    · have HR2 := Hid.mk' (HRo.out.trans (if_pos ⟨rfl, hlb0⟩))
      clear HRo hA
      go_enter Tryz.func97, Tryz.ntmps97
      go_wp2
      go_ret
      exact ⟨ret_int HR2.out.symm, by exact eX⟩
    have hlb1 : lb.length = 0 := by omega
    have hlb2 : ¬ ((0 : Nat) < lb.length) := by omega
    have HR1 := Hid.mk' (HRo.out.trans (if_neg (fun h => hlb2 h.2)))
    clear HRo hlb0 hlb1
    have HR1b := Hid.mk' (HR1.out.trans ((if_neg (by rintro ⟨h, _⟩; revert h; decide)).trans (if_neg (by rw [hA]; simp))))
    clear HR1 hA
    have HR3 := Hid.mk' (HR1b.out.trans ((if_neg (by simp)).trans (if_neg (by simp))))
    clear HR1b
    by_cases h1 : EDA = 0
    case neg =>
      have h1' : (EDA != 0) = true := by simpa using h1
      have HR2 := Hid.mk' (HR3.out.trans ((if_neg (by decide)).trans ((if_neg (by rintro ⟨h, _⟩; revert h; decide)).trans (if_pos ⟨by decide, h1⟩))))
      clear h1
      go_enter Tryz.func97, Tryz.ntmps97
      go_wp2_with (first
        | (go_at_call 114; refine (HDA.out _ (by exact eX)).mono ?_; rintro e w6 ⟨rfl, hb6⟩; have hE6 : Ext (w.alloc (.cells #[.int .u32 oid, .int .u32 ver, .string nm, .int .u8 id, .slice a2 cols.length cap2] 51)) w6 := (by exact eX); have g6 := ((Blk.new w #[.int .u32 oid, .int .u32 ver, .string nm, .int .u8 id, .slice a2 cols.length cap2] 51).ext hE6).cell; clear hb6))
      go_ret
      exact ⟨ret_int HR2.out.symm, by exact eX⟩
    subst h1
    have HR4 := Hid.mk' (HR3.out.trans ((if_neg (by decide)).trans ((if_neg (by simp)).trans (if_neg (by simp)))))
    clear HR3
    have HR2 := Hid.mk' (HR4.out.trans (if_neg (by simp)))
    clear HR4
    go_enter Tryz.func97, Tryz.ntmps97
    go_wp2_with (first
      | (go_at_call 114; refine (HDA.out _ (by exact eX)).mono ?_; rintro e w6 ⟨rfl, hb6⟩; have hE6 : Ext (w.alloc (.cells #[.int .u32 oid, .int .u32 ver, .string nm, .int .u8 id, .slice a2 cols.length cap2] 51)) w6 := (by exact eX); have g6 := ((Blk.new w #[.int .u32 oid, .int .u32 ver, .string nm, .int .u8 id, .slice a2 cols.length cap2] 51).ext hE6).cell; clear hb6))
    go_ret
    exact ⟨ret_int HR2.out.symm, by exact eX⟩
  · have e0 : (id == 0) = false := by simp; omega
    have n0 : (id != 0) = true := by simp; omega
    have f0 : ((0 : Int) == id) = false := by simp; omega
    have m0 : ((0 : Int) != id) = true := by simp; omega
    have e1 : (id == 1) = false := by simp; omega
    have n1 : (id != 1) = true := by simp; omega
    have f1 : ((1 : Int) == id) = false := by simp; omega
    have m1 : ((1 : Int) != id) = true := by simp; omega
    have e2 : (id == 2) = true := by simp; omega
    have n2 : (id != 2) = false := by simp; omega
    have f2 : ((2 : Int) == id) = true := by simp; omega
    have m2 : ((2 : Int) != id) = false := by simp; omega
    have hA : allowB id 5 0 = false := by rw [hi]; decide
    clear hi
    have HR2 := Hid.mk' (HRo.out.trans (three14 hA))
    clear HRo hA
    by_cases hlb0 : 0 < lb.length
    · go_enter Tryz.func97, Tryz.ntmps97
      go_wp2
      go_ret
      exact ⟨ret_int HR2.out.symm, by exact eX⟩
    go_enter Tryz.func97, Tryz.ntmps97
    go_wp2
    all_goals
      go_ret
      exact ⟨ret_int HR2.out.symm, by exact eX⟩
  · have e0 : (id == 0) = false := by simp; omega
    have n0 : (id != 0) = true := by simp; omega
    have f0 : ((0 : Int) == id) = false := by simp; omega
    have m0 : ((0 : Int) != id) = true := by simp; omega
    have e1 : (id == 1) = false := by simp; omega
    have n1 : (id != 1) = true := by simp; omega
    have f1 : ((1 : Int) == id) = false := by simp; omega
    have m1 : ((1 : Int) != id) = true := by simp; omega
    have e2 : (id == 2) = false := by simp; omega
    have n2 : (id != 2) = true := by simp; omega
    have f2 : ((2 : Int) == id) = false := by simp; omega
    have m2 : ((2 : Int) != id) = true := by simp; omega
    have hA : allowB id 5 0 = false := by unfold allowB; simp <;> omega
    clear hi
    have HR2 := Hid.mk' (HRo.out.trans (three14 hA))
    clear HRo hA
    by_cases hlb0 : 0 < lb.length
    · go_enter Tryz.func97, Tryz.ntmps97
      go_wp2
      go_ret
      exact ⟨ret_int HR2.out.symm, by exact eX⟩
    go_enter Tryz.func97, Tryz.ntmps97
    go_wp2
    all_goals
      go_ret
      exact ⟨ret_int HR2.out.symm, by exact eX⟩
  · have e0 : (id == 0) = true := by simp; omega
    have n0 : (id != 0) = false := by simp; omega
    have f0 : ((0 : Int) == id) = true := by simp; omega
    have m0 : ((0 : Int) != id) = false := by simp; omega
    have e1 : (id == 1) = false := by simp; omega
    have n1 : (id != 1) = true := by simp; omega
    have f1 : ((1 : Int) == id) = false := by simp; omega
    have m1 : ((1 : Int) != id) = true := by simp; omega
    have e2 : (id == 2) = false := by simp; omega
    have n2 : (id != 2) = true := by simp; omega
    have f2 : ((2 : Int) == id) = false := by simp; omega
    have m2 : ((2 : Int) != id) = true := by simp; omega
    have hA : allowB id 5 1 = false := by rw [hi]; decide
    clear hi
    have HR2 := Hid.mk' (HRo.out.trans (three14 hA))
    clear HRo hA
    go_enter Tryz.func97, Tryz.ntmps97
    go_wp2
    all_goals
      go_ret
      exact ⟨ret_int HR2.out.symm, by exact eX⟩
  · have e0 : (id == 0) = false := by simp; omega
    have n0 : (id != 0) = true := by simp; omega
    have f0 : ((0 : Int) == id) = false := by simp; omega
    have m0 : ((0 : Int) != id) = true := by simp; omega
    have e1 : (id == 1) = true := by simp; omega
    have n1 : (id != 1) = false := by simp; omega
    have f1 : ((1 : Int) == id) = true := by simp; omega
    have m1 : ((1 : Int) != id) = false := by simp; omega
    have e2 : (id == 2) = false := by simp; omega
    have n2 : (id != 2) = true := by simp; omega
    have f2 : ((2 : Int) == id) = false := by simp; omega
    have m2 : ((2 : Int) != id) = true := by simp; omega
    have hA : allowB id 5 1 = true := by rw [hi]; decide
    clear hi
    have HR1 := Hid.mk' (HRo.out.trans (if_neg (by rintro ⟨h, _⟩; revert h; decide)))
    clear HRo
    have HR1b := Hid.mk' (HR1.out.trans ((if_neg (by rintro ⟨h, _⟩; revert h; decide)).trans (if_neg (by rw [hA]; simp))))
    clear HR1 hA
    by_cases h0 : EKB = 0
    case neg =>
      have h0' : (EKB != 0) = true := by simpa using h0
      have HR2 := Hid.mk' (HR1b.out.trans (if_pos ⟨rfl, h0⟩))
      clear h0
      go_enter Tryz.func97, Tryz.ntmps97
      go_wp2_with (first
        | (go_at_call 112; refine (HKB.out _ (by exact eX)).mono ?_; rintro e w3 ⟨rfl, hb3⟩; have hE3 : Ext (w.alloc (.cells #[.int .u32 oid, .int .u32 ver, .string nm, .int .u8 id, .slice a2 cols.length cap2] 51)) w3 := (by exact eX); have g3 := ((Blk.new w #[.int .u32 oid, .int .u32 ver, .string nm, .int .u8 id, .slice a2 cols.length cap2] 51).ext hE3).cell; clear hb3))
      go_ret
      exact ⟨ret_int HR2.out.symm, by exact eX⟩
    subst h0
    have HR3 := Hid.mk' (HR1b.out.trans ((if_neg (by simp)).trans (if_neg (by simp))))
    clear HR1b
    by_cases h1 : EDA = 0
    case neg =>
      have h1' : (EDA != 0) = true := by simpa using h1
      have HR2 := Hid.mk' (HR3.out.trans ((if_neg (by decide)).trans ((if_neg (by rintro ⟨h, _⟩; revert h; decide)).trans (if_pos ⟨by decide, h1⟩))))
      clear h1
      go_enter Tryz.func97, Tryz.ntmps97
      go_wp2_with (first
        | (go_at_call 112; refine (HKB.out _ (by exact eX)).mono ?_; rintro e w3 ⟨rfl, hb3⟩; have hE3 : Ext (w.alloc (.cells #[.int .u32 oid, .int .u32 ver, .string nm, .int .u8 id, .slice a2 cols.length cap2] 51)) w3 := (by exact eX); have g3 := ((Blk.new w #[.int .u32 oid, .int .u32 ver, .string nm, .int .u8 id, .slice a2 cols.length cap2] 51).ext hE3).cell; clear hb3)
        | (go_at_call 114; refine (HDA.out _ (by exact eX)).mono ?_; rintro e w6 ⟨rfl, hb6⟩; have hE6 : Ext (w.alloc (.cells #[.int .u32 oid, .int .u32 ver, .string nm, .int .u8 id, .slice a2 cols.length cap2] 51)) w6 := (by exact eX); have g6 := ((Blk.new w #[.int .u32 oid, .int .u32 ver, .string nm, .int .u8 id, .slice a2 cols.length cap2] 51).ext hE6).cell; clear hb6))
      go_ret
      exact ⟨ret_int HR2.out.symm, by exact eX⟩
    subst h1
    have HR4 := Hid.mk' (HR3.out.trans ((if_neg (by decide)).trans ((if_neg (by simp)).trans (if_neg (by simp)))))
    clear HR3
    cases BAK
    all_goals
      have HR2 := Hid.mk' HR4.out
      go_enter Tryz.func97, Tryz.ntmps97
      go_wp2_with (first
        | (go_at_call 112; refine (HKB.out _ (by exact eX)).mono ?_; rintro e w3 ⟨rfl, hb3⟩; have hE3 : Ext (w.alloc (.cells #[.int .u32 oid, .int .u32 ver, .string nm, .int .u8 id, .slice a2 cols.length cap2] 51)) w3 := (by exact eX); have g3 := ((Blk.new w #[.int .u32 oid, .int .u32 ver, .string nm, .int .u8 id, .slice a2 cols.length cap2] 51).ext hE3).cell; clear hb3)
        | (go_at_call 114; refine (HDA.out _ (by exact eX)).mono ?_; rintro e w6 ⟨rfl, hb6⟩; have hE6 : Ext (w.alloc (.cells #[.int .u32 oid, .int .u32 ver, .string nm, .int .u8 id, .slice a2 cols.length cap2] 51)) w6 := (by exact eX); have g6 := ((Blk.new w #[.int .u32 oid, .int .u32 ver, .string nm, .int .u8 id, .slice a2 cols.length cap2] 51).ext hE6).cell; clear hb6)
        | (go_at_call 29; refine (HKO.out _ (by exact eX)).mono ?_; rintro e w7 ⟨g, c, rfl, hr7, hb7⟩; have HR7 := Hid.mk' hr7; have hE7 : Ext (w.alloc (.cells #[.int .u32 oid, .int .u32 ver, .string nm, .int .u8 id, .slice a2 cols.length cap2] 51)) w7 := (by exact eX); clear hr7 hb7)
        | (go_at_call 26; refine (HAK.out _ _ _ (by exact eX) HR7.out).mono ?_; rintro e w8 ⟨rfl, hb8⟩))
      go_ret
      exact ⟨ret_int (by rw [HR2.out]; simp), by exact eX⟩
  · have e0 : (id == 0) = false := by simp; omega
    have n0 : (id != 0) = true := by simp; omega
    have f0 : ((0 : Int) == id) = false := by simp; omega
    have m0 : ((0 : Int) != id) = true := by simp; omega
    have e1 : (id == 1) = false := by simp; omega
    have n1 : (id != 1) = true := by simp; omega
    have f1 : ((1 : Int) == id) = false := by simp; omega
    have m1 : ((1 : Int) != id) = true := by simp; omega
    have e2 : (id == 2) = true := by simp; omega
    have n2 : (id != 2) = false := by simp; omega
    have f2 : ((2 : Int) == id) = true := by simp; omega
    have m2 : ((2 : Int) != id) = false := by simp; omega
    have hA : allowB id 5 1 = false := by rw [hi]; decide
    clear hi
    have HR2 := Hid.mk' (HRo.out.trans (three14 hA))
    clear HRo hA
    go_enter Tryz.func97, Tryz.ntmps97
    go_wp2
    all_goals
      go_ret
      exact ⟨ret_int HR2.out.symm, by exact eX⟩
  · have e0 : (id == 0) = false := by simp; omega
    have n0 : (id != 0) = true := by simp; omega
    have f0 : ((0 : Int) == id) = false := by simp; omega
    have m0 : ((0 : Int) != id) = true := by simp; omega
    have e1 : (id == 1) = false := by simp; omega
    have n1 : (id != 1) = true := by simp; omega
    have f1 : ((1 : Int) == id) = false := by simp; omega
    have m1 : ((1 : Int) != id) = true := by simp; omega
    have e2 : (id == 2) = false := by simp; omega
    have n2 : (id != 2) = true := by simp; omega
    have f2 : ((2 : Int) == id) = false := by simp; omega
    have m2 : ((2 : Int) != id) = true := by simp; omega
    have hA : allowB id 5 1 = false := by unfold allowB; simp <;> omega
    clear hi
    have HR2 := Hid.mk' (HRo.out.trans (three14 hA))
    clear HRo hA
    go_enter Tryz.func97, Tryz.ntmps97
    go_wp2
    all_goals
      go_ret
      exact ⟨ret_int HR2.out.symm, by exact eX⟩
  · have e0 : (id == 0) = true := by simp; omega
    have n0 : (id != 0) = false := by simp; omega
    have f0 : ((0 : Int) == id) = true := by simp; omega
    have m0 : ((0 : Int) != id) = false := by simp; omega
    have e1 : (id == 1) = false := by simp; omega
    have n1 : (id != 1) = true := by simp; omega
    have f1 : ((1 : Int) == id) = false := by simp; omega
    have m1 : ((1 : Int) != id) = true := by simp; omega
    have e2 : (id == 2) = false := by simp; omega
    have n2 : (id != 2) = true := by simp; omega
    have f2 : ((2 : Int) == id) = false := by simp; omega
    have m2 : ((2 : Int) != id) = true := by simp; omega
    have hA : allowB id 5 2 = false := by rw [hi]; decide
    clear hi
    have HR2 := Hid.mk' (HRo.out.trans (three14 hA))
    clear HRo hA
    go_enter Tryz.func97, Tryz.ntmps97
    go_wp2
    all_goals
      go_ret
      exact ⟨ret_int HR2.out.symm, by exact eX⟩
  · have e0 : (id == 0) = false := by simp; omega
    have n0 : (id != 0) = true := by simp; omega
    have f0 : ((0 : Int) == id) = false := by simp; omega
    have m0 : ((0 : Int) != id) = true := by simp; omega
    have e1 : (id == 1) = true := by simp; omega
    have n1 : (id != 1) = false := by simp; omega
    have f1 : ((1 : Int) == id) = true := by simp; omega
    have m1 : ((1 : Int) != id) = false := by simp; omega
    have e2 : (id == 2) = false := by simp; omega
    have n2 : (id != 2) = true := by simp; omega
    have f2 : ((2 : Int) == id) = false := by simp; omega
    have m2 : ((2 : Int) != id) = true := by simp; omega
    have hA : allowB id 5 2 = false := by rw [hi]; decide
    clear hi
    have HR2 := Hid.mk' (HRo.out.trans (three14 hA))
    clear HRo hA
    go_enter Tryz.func97, Tryz.ntmps97
    go_wp2
    all_goals
      go_ret
      exact ⟨ret_int HR2.out.symm, by exact eX⟩
  · have e0 : (id == 0) = false := by simp; omega
    have n0 : (id != 0) = true := by simp; omega
    have f0 : ((0 : Int) == id) = false := by simp; omega
    have m0 : ((0 : Int) != id) = true := by simp; omega
    have e1 : (id == 1) = false := by simp; omega
    have n1 : (id != 1) = true := by simp; omega
    have f1 : ((1 : Int) == id) = false := by simp; omega
    have m1 : ((1 : Int) != id) = true := by simp; omega
    have e2 : (id == 2) = true := by simp; omega
    have n2 : (id != 2) = false := by simp; omega
    have f2 : ((2 : Int) == id) = true := by simp; omega
    have m2 : ((2 : Int) != id) = false := by simp; omega
    have hA : allowB id 5 2 = true := by rw [hi]; decide
    clear hi
    have HR1 := Hid.mk' (HRo.out.trans (if_neg (by rintro ⟨h, _⟩; revert h; decide)))
    clear HRo
    have HR1b := Hid.mk' (HR1.out.trans ((if_neg (by rintro ⟨h, _⟩; revert h; decide)).trans (if_neg (by rw [hA]; simp))))
    clear HR1 hA
    by_cases h0 : EFB = 0
    case neg =>
      have h0' : (EFB != 0) = true := by simpa using h0
      have HR2 := Hid.mk' (HR1b.out.trans ((if_neg (by simp)).trans (if_pos ⟨rfl, h0⟩)))
      clear h0
      go_enter Tryz.func97, Tryz.ntmps97
      go_wp2_with (first
        | (go_at_call 113; refine (HFB.out _ (by exact eX)).mono ?_; rintro e w4 ⟨rfl, hb4⟩; have hE4 : Ext (w.alloc (.cells #[.int .u32 oid, .int .u32 ver, .string nm, .int .u8 id, .slice a2 cols.length cap2] 51)) w4 := (by exact eX); have g4 := ((Blk.new w #[.int .u32 oid, .int .u32 ver, .string nm, .int .u8 id, .slice a2 cols.length cap2] 51).ext hE4).cell; clear hb4))
      go_ret
      exact ⟨ret_int HR2.out.symm, by exact eX⟩
    subst h0
    have HR3 := Hid.mk' (HR1b.out.trans ((if_neg (by simp)).trans (if_neg (by simp))))
    clear HR1b
    by_cases h1 : EDA = 0
    case neg =>
      have h1' : (EDA != 0) = true := by simpa using h1
      have HR2 := Hid.mk' (HR3.out.trans ((if_neg (by decide)).trans ((if_neg (by rintro ⟨h, _⟩; revert h; decide)).trans (if_pos ⟨by decide, h1⟩))))
      clear h1
      go_enter Tryz.func97, Tryz.ntmps97
      go_wp2_with (first
        | (go_at_call 113; refine (HFB.out _ (by exact eX)).mono ?_; rintro e w4 ⟨rfl, hb4⟩; have hE4 : Ext (w.alloc (.cells #[.int .u32 oid, .int .u32 ver, .string nm, .int .u8 id, .slice a2 cols.length cap2] 51)) w4 := (by exact eX); have g4 := ((Blk.new w #[.int .u32 oid, .int .u32 ver, .string nm, .int .u8 id, .slice a2 cols.length cap2] 51).ext hE4).cell; clear hb4)
        | (go_at_call 114; refine (HDA.out _ (by exact eX)).mono ?_; rintro e w6 ⟨rfl, hb6⟩; have hE6 : Ext (w.alloc (.cells #[.int .u32 oid, .int .u32 ver, .string nm, .int .u8 id, .slice a2 cols.length cap2] 51)) w6 := (by exact eX); have g6 := ((Blk.new w #[.int .u32 oid, .int .u32 ver, .string nm, .int .u8 id, .slice a2 cols.length cap2] 51).ext hE6).cell; clear hb6))
      go_ret
      exact ⟨ret_int HR2.out.symm, by exact eX⟩
    subst h1
    have HR4 := Hid.mk' (HR3.out.trans ((if_neg (by decide)).trans ((if_neg (by simp)).trans (if_neg (by simp)))))
    clear HR3
    have HR2 := Hid.mk' (HR4.out.trans (if_neg (by simp)))
    clear HR4
    go_enter Tryz.func97, Tryz.ntmps97
    go_wp2_with (first
      | (go_at_call 113; refine (HFB.out _ (by exact eX)).mono ?_; rintro e w4 ⟨rfl, hb4⟩; have hE4 : Ext (w.alloc (.cells #[.int .u32 oid, .int .u32 ver, .string nm, .int .u8 id, .slice a2 cols.length cap2] 51)) w4 := (by exact eX); have g4 := ((Blk.new w #[.int .u32 oid, .int .u32 ver, .string nm, .int .u8 id, .slice a2 cols.length cap2] 51).ext hE4).cell; clear hb4)
      | (go_at_call 114; refine (HDA.out _ (by exact eX)).mono ?_; rintro e w6 ⟨rfl, hb6⟩; have hE6 : Ext (w.alloc (.cells #[.int .u32 oid, .int .u32 ver, .string nm, .int .u8 id, .slice a2 cols.length cap2] 51)) w6 := (by exact eX); have g6 := ((Blk.new w #[.int .u32 oid, .int .u32 ver, .string nm, .int .u8 id, .slice a2 cols.length cap2] 51).ext hE6).cell; clear hb6))
    go_ret
    exact ⟨ret_int HR2.out.symm, by exact eX⟩
  · have e0 : (id == 0) = false := by simp; omega
    have n0 : (id != 0) = true := by simp; omega
    have f0 : ((0 : Int) == id) = false := by simp; omega
    have m0 : ((0 : Int) != id) = true := by simp; omega
    have e1 : (id == 1) = false := by simp; omega
    have n1 : (id != 1) = true := by simp; omega
    have f1 : ((1 : Int) == id) = false := by simp; omega
    have m1 : ((1 : Int) != id) = true := by simp; omega
    have e2 : (id == 2) = false := by simp; omega
    have n2 : (id != 2) = true := by simp; omega
    have f2 : ((2 : Int) == id) = false := by simp; omega
    have m2 : ((2 : Int) != id) = true := by simp; omega
    have hA : allowB id 5 2 = false := by unfold allowB; simp <;> omega
    clear hi
    have HR2 := Hid.mk' (HRo.out.trans (three14 hA))
    clear HRo hA
    go_enter Tryz.func97, Tryz.ntmps97
    go_wp2
    all_goals
      go_ret
      exact ⟨ret_int HR2.out.symm, by exact eX⟩
  · have e0 : (id == 0) = true := by simp; omega
    have n0 : (id != 0) = false := by simp; omega
    have f0 : ((0 : Int) == id) = true := by simp; omega
    have m0 : ((0 : Int) != id) = false := by simp; omega
    have e1 : (id == 1) = false := by simp; omega
    have n1 : (id != 1) = true := by simp; omega
    have f1 : ((1 : Int) == id) = false := by simp; omega
    have m1 : ((1 : Int) != id) = true := by simp; omega
    have e2 : (id == 2) = false := by simp; omega
    have n2 : (id != 2) = true := by simp; omega
    have f2 : ((2 : Int) == id) = false := by simp; omega
    have m2 : ((2 : Int) != id) = true := by simp; omega
    have hA : allowB id 6 0 = false := by rw [hi]; decide
    clear hi
    have HR2 := Hid.mk' (HRo.out.trans (three14 hA))
    clear HRo hA
    by_cases hlb0 : 0 < lb.length
    · go_enter Tryz.func97, Tryz.ntmps97
      go_wp2
      go_ret
      exact ⟨ret_int HR2.out.symm, by exact eX⟩
    by_cases hla0 : 0 < la.length
    · go_enter Tryz.func97, Tryz.ntmps97
      go_wp2
      go_ret
      exact ⟨ret_int HR2.out.symm, by exact eX⟩
    go_enter Tryz.func97, Tryz.ntmps97
    go_wp2
    all_goals
      go_ret
      exact ⟨ret_int HR2.out.symm, by exact eX⟩
  · have e0 : (id == 0) = false := by simp; omega
    have n0 : (id != 0) = true := by simp; omega
    have f0 : ((0 : Int) == id) = false := by simp; omega
    have m0 : ((0 : Int) != id) = true := by simp; omega
    have e1 : (id == 1) = true := by simp; omega
    have n1 : (id != 1) = false := by simp; omega
    have f1 : ((1 : Int) == id) = true := by simp; omega
    have m1 : ((1 : Int) != id) = false := by simp; omega
    have e2 : (id == 2) = false := by simp; omega
    have n2 : (id != 2) = true := by simp; omega
    have f2 : ((2 : Int) == id) = false := by simp; omega
    have m2 : ((2 : Int) != id) = true := by simp; omega
    have hA : allowB id 6 0 = false := by rw [hi]; decide
    clear hi
    have HR2 := Hid.mk' (HRo.out.trans (three14 hA))
    clear HRo hA
    by_cases hlb0 : 0 < lb.length
    · go_enter Tryz.func97, Tryz.ntmps97
      go_wp2
      go_ret
      exact ⟨ret_int HR2.out.symm, by exact eX⟩
    by_cases hla0 : 0 < la.length
    · go_enter Tryz.func97, Tryz.ntmps97
      go_wp2
      go_ret
      exact ⟨ret_int HR2.out.symm, by exact eX⟩
    go_enter Tryz.func97, Tryz.ntmps97
    go_wp2
    all_goals
      go_ret
      exact ⟨ret_int HR2.out.symm, by exact eX⟩
  · have e0 : (id == 0) = false := by simp; omega
    have n0 : (id != 0) = true := by simp; omega
    have f0 : ((0 : Int) == id) = false := by simp; omega
    have m0 : ((0 : Int) != id) = true := by simp; omega
    have e1 : (id == 1) = false := by simp; omega
    have n1 : (id != 1) = true := by simp; omega
    have f1 : ((1 : Int) == id) = false := by simp; omega
    have m1 : ((1 : Int) != id) = true := by simp; omega
    have e2 : (id == 2) = true := by simp; omega
    have n2 : (id != 2) = false := by simp; omega
    have f2 : ((2 : Int) == id) = true := by simp; omega
    have m2 : ((2 : Int) != id) = false := by simp; omega
    have hA : allowB id 6 0 = false := by rw [hi]; decide
    clear hi
    have HR2 := Hid.mk' (HRo.out.trans (three14 hA))
    clear HRo hA
    by_cases hlb0 : 0 < lb.length
    · go_enter Tryz.func97, Tryz.ntmps97
      go_wp2
      go_ret
      exact ⟨ret_int HR2.out.symm, by exact eX⟩
    by_cases hla0 : 0 < la.length
    · go_enter Tryz.func97, Tryz.ntmps97
      go_wp2
      go_ret
      exact ⟨ret_int HR2.out.symm, by exact eX⟩
    go_enter Tryz.func97, Tryz.ntmps97
    go_wp2
    all_goals
      go_ret
      exact ⟨ret_int HR2.out.symm, by exact eX⟩
  · have e0 : (id == 0) = false := by simp; omega
    have n0 : (id != 0) = true := by simp; omega
    have f0 : ((0 : Int) == id) = false := by simp; omega
    have m0 : ((0 : Int) != id) = true := by simp; omega
    have e1 : (id == 1) = false := by simp; omega
    have n1 : (id != 1) = true := by simp; omega
    have f1 : ((1 : Int) == id) = false := by simp; omega
    have m1 : ((1 : Int) != id) = true := by simp; omega
    have e2 : (id == 2) = false := by simp; omega
    have n2 : (id != 2) = true := by simp; omega
    have f2 : ((2 : Int) == id) = false := by simp; omega
    have m2 : ((2 : Int) != id) = true := by simp; omega
    have hA : allowB id 6 0 = false := by unfold allowB; simp <;> omega
    clear hi
    have HR2 := Hid.mk' (HRo.out.trans (three14 hA))
    clear HRo hA
    by_cases hlb0 : 0 < lb.length
    · go_enter Tryz.func97, Tryz.ntmps97
      go_wp2
      go_ret
      exact ⟨ret_int HR2.out.symm, by exact eX⟩
    by_cases hla0 : 0 < la.length
    · go_enter Tryz.func97, Tryz.ntmps97
      go_wp2
      go_ret
      exact ⟨ret_int HR2.out.symm, by exact eX⟩
    go_enter Tryz.func97, Tryz.ntmps97
    go_wp2
    all_goals
      go_ret
      exact ⟨ret_int HR2.out.symm, by exact eX⟩
  · have e0 : (id == 0) = true := by simp; omega
    have n0 : (id != 0) = false := by simp; omega
    have f0 : ((0 : Int) == id) = true := by simp; omega
    have m0 : ((0 : Int) != id) = false := by simp; omega
    have e1 : (id == 1) = false := by simp; omega
    have n1 : (id != 1) = true := by simp; omega
    have f1 : ((1 : Int) == id) = false := by simp; omega
    have m1 : ((1 : Int) != id) = true := by simp; omega
    have e2 : (id == 2) = false := by simp; omega
    have n2 : (id != 2) = true := by simp; omega
    have f2 : ((2 : Int) == id) = false := by simp; omega
    have m2 : ((2 : Int) != id) = true := by simp; omega
    have hA : allowB id 6 1 = false := by rw [hi]; decide
    clear hi
    have HR2 := Hid.mk' (HRo.out.trans (three14 hA))
    clear HRo hA
    by_cases hla0 : 0 < la.length
    · go_enter Tryz.func97, Tryz.ntmps97
      go_wp2
      go_ret
      exact ⟨ret_int HR2.out.symm, by exact eX⟩
    go_enter Tryz.func97, Tryz.ntmps97
    go_wp2
    all_goals
      go_ret
      exact ⟨ret_int HR2.out.symm, by exact eX⟩
  · have e0 : (id == 0) = false := by simp; omega
    have n0 : (id != 0) = true := by simp; omega
    have f0 : ((0 : Int) == id) = false := by simp; omega
    have m0 : ((0 : Int) != id) = true := by simp; omega
    have e1 : (id == 1) = true := by simp; omega
    have n1 : (id != 1) = false := by simp; omega
    have f1 : ((1 : Int) == id) = true := by simp; omega
    have m1 : ((1 : Int) != id) = false := by simp; omega
    have e2 : (id == 2) = false := by simp; omega
    have n2 : (id != 2) = true := by simp; omega
    have f2 : ((2 : Int) == id) = false := by simp; omega
    have m2 : ((2 : Int) != id) = true := by simp; omega
    have hA : allowB id 6 1 = true := by rw [hi]; decide
    clear hi
    have HR1 := Hid.mk' (HRo.out.trans (if_neg (by rintro ⟨h, _⟩; revert h; decide)))
    clear HRo
    by_cases hla0 : 0 < la.length
    · have HR2 := Hid.mk' (HR1.out.trans (if_pos ⟨rfl, hla0⟩))
      clear HR1 hA
      go_enter Tryz.func97, Tryz.ntmps97
      go_wp2
      go_ret
      exact ⟨ret_int HR2.out.symm, by exact eX⟩
    have HR1b := Hid.mk' (HR1.out.trans ((if_neg (fun h => hla0 h.2)).trans (if_neg (by rw [hA]; simp))))
    clear HR1 hA
    by_cases h0 : EKB = 0
    case neg =>
      have h0' : (EKB != 0) = true := by simpa using h0
      have HR2 := Hid.mk' (HR1b.out.trans (if_pos ⟨rfl, h0⟩))
      clear h0
      go_enter Tryz.func97, Tryz.ntmps97
      go_wp2_with (first
        | (go_at_call 112; refine (HKB.out _ (by exact eX)).mono ?_; rintro e w3 ⟨rfl, hb3⟩; have hE3 : Ext (w.alloc (.cells #[.int .u32 oid, .int .u32 ver, .string nm, .int .u8 id, .slice a2 cols.length cap2] 51)) w3 := (by exact eX); have g3 := ((Blk.new w #[.int .u32 oid, .int .u32 ver, .string nm, .int .u8 id, .slice a2 cols.length cap2] 51).ext hE3).cell; clear hb3))
      go_ret
      exact ⟨ret_int HR2.out.symm, by exact eX⟩
    subst h0
    have HR3 := Hid.mk' (HR1b.out.trans ((if_neg (by simp)).trans (if_neg (by simp))))
    clear HR1b
    have HR2 := Hid.mk' (HR3.out.trans (if_pos rfl))
    clear HR3
    go_enter Tryz.func97, Tryz.ntmps97
    go_wp2_with (first
      | (go_at_call 112; refine (HKB.out _ (by exact eX)).mono ?_; rintro e w3 ⟨rfl, hb3⟩; have hE3 : Ext (w.alloc (.cells #[.int .u32 oid, .int .u32 ver, .string nm, .int .u8 id, .slice a2 cols.length cap2] 51)) w3 := (by exact eX); have g3 := ((Blk.new w #[.int .u32 oid, .int .u32 ver, .string nm, .int .u8 id, .slice a2 cols.length cap2] 51).ext hE3).cell; clear hb3))
    go_ret
    exact ⟨ret_int HR2.out.symm, by exact eX⟩
  · have e0 : (id == 0) = false := by simp; omega
    have n0 : (id != 0) = true := by simp; omega
    have f0 : ((0 : Int) == id) = false := by simp; omega
    have m0 : ((0 : Int) != id) = true := by simp; omega
    have e1 : (id == 1) = false := by simp; omega
    have n1 : (id != 1) = true := by simp; omega
    have f1 : ((1 : Int) == id) = false := by simp; omega
    have m1 : ((1 : Int) != id) = true := by simp; omega
    have e2 : (id == 2) = true := by simp; omega
    have n2 : (id != 2) = false := by simp; omega
    have f2 : ((2 : Int) == id) = true := by simp; omega
    have m2 : ((2 : Int) != id) = false := by simp; omega
    have hA : allowB id 6 1 = false := by rw [hi]; decide
    clear hi
    have HR2 := Hid.mk' (HRo.out.trans (three14 hA))
    clear HRo hA
    by_cases hla0 : 0 < la.length
    · go_enter Tryz.func97, Tryz.ntmps97
      go_wp2
      go_ret
      exact ⟨ret_int HR2.out.symm, by exact eX⟩
    go_enter Tryz.func97, Tryz.ntmps97
    go_wp2
    all_goals
      go_ret
      exact ⟨ret_int HR2.out.symm, by exact eX⟩
  · have e0 : (id == 0) = false := by simp; omega
    have n0 : (id != 0) = true := by simp; omega
    have f0 : ((0 : Int) == id) = false := by simp; omega
    have m0 : ((0 : Int) != id) = true := by simp; omega
    have e1 : (id == 1) = false := by simp; omega
    have n1 : (id != 1) = true := by simp; omega
    have f1 : ((1 : Int) == id) = false := by simp; omega
    have m1 : ((1 : Int) != id) = true := by simp; omega
    have e2 : (id == 2) = false := by simp; omega
    have n2 : (id != 2) = true := by simp; omega
    have f2 : ((2 : Int) == id) = false := by simp; omega
    have m2 : ((2 : Int) != id) = true := by simp; omega
    have hA : allowB id 6 1 = false := by unfold allowB; simp <;> omega
    clear hi
    have HR2 := Hid.mk' (HRo.out.trans (three14 hA))
    clear HRo hA
    by_cases hla0 : 0 < la.length
    · go_enter Tryz.func97, Tryz.ntmps97
      go_wp2
      go_ret
      exact ⟨ret_int HR2.out.symm, by exact eX⟩
    go_enter Tryz.func97, Tryz.ntmps97
    go_wp2
    all_goals
      go_ret
      exact ⟨ret_int HR2.out.symm, by exact eX⟩
  · have e0 : (id == 0) = true := by simp; omega
    have n0 : (id != 0) = false := by simp; omega
    have f0 : ((0 : Int) == id) = true := by simp; omega
    have m0 : ((0 : Int) != id) = false := by simp; omega
    have e1 : (id == 1) = false := by simp; omega
    have n1 : (id != 1) = true := by simp; omega
    have f1 : ((1 : Int) == id) = false := by simp; omega
    have m1 : ((1 : Int) != id) = true := by simp; omega
    have e2 : (id == 2) = false := by simp; omega
    have n2 : (id != 2) = true := by simp; omega
    have f2 : ((2 : Int) == id) = false := by simp; omega
    have m2 : ((2 : Int) != id) = true := by simp; omega
    have hA : allowB id 6 2 = false := by rw [hi]; decide
    clear hi
    have HR2 := Hid.mk' (HRo.out.trans (three14 hA))
    clear HRo hA
    by_cases hla0 : 0 < la.length
    · go_enter Tryz.func97, Tryz.ntmps97
      go_wp2
      go_ret
      exact ⟨ret_int HR2.out.symm, by exact eX⟩
    go_enter Tryz.func97, Tryz.ntmps97
    go_wp2
    all_goals
      go_ret
      exact ⟨ret_int HR2.out.symm, by exact eX⟩
  · have e0 : (id == 0) = false := by simp; omega
    have n0 : (id != 0) = true := by simp; omega
    have f0 : ((0 : Int) == id) = false := by simp; omega
    have m0 : ((0 : Int) != id) = true := by simp; omega
    have e1 : (id == 1) = true := by simp; omega
    have n1 : (id != 1) = false := by simp; omega
    have f1 : ((1 : Int) == id) = true := by simp; omega
    have m1 : ((1 : Int) != id) = false := by simp; omega
    have e2 : (id == 2) = false := by simp; omega
    have n2 : (id != 2) = true := by simp; omega
    have f2 : ((2 : Int) == id) = false := by simp; omega
    have m2 : ((2 : Int) != id) = true := by simp; omega
    have hA : allowB id 6 2 = false := by rw [hi]; decide
    clear hi
    have HR2 := Hid.mk' (HRo.out.trans (three14 hA))
    clear HRo hA
    by_cases hla0 : 0 < la.length
    · go_enter Tryz.func97, Tryz.ntmps97
      go_wp2
      go_ret
      exact ⟨ret_int HR2.out.symm, by exact eX⟩
    go_enter Tryz.func97, Tryz.ntmps97
    go_wp2
    all_goals
      go_ret
      exact ⟨ret_int HR2.out.symm, by exact eX⟩
  · have e0 : (id == 0) = false := by simp; omega
    have n0 : (id != 0) = true := by simp; omega
    have f0 : ((0 : Int) == id) = false := by simp; omega
    have m0 : ((0 : Int) != id) = true := by simp; omega
    have e1 : (id == 1) = false := by simp; omega
    have n1 : (id != 1) = true := by simp; omega
    have f1 : ((1 : Int) == id) = false := by simp; omega
    have m1 : ((1 : Int) != id) = true := by simp; omega
    have e2 : (id == 2) = true := by simp; omega
    have n2 : (id != 2) = false := by simp; omega
    have f2 : ((2 : Int) == id) = true := by simp; omega
    have m2 : ((2 : Int) != id) = false := by simp; omega
    have hA : allowB id 6 2 = true := by rw [hi]; decide
    clear hi
    have HR1 := Hid.mk' (HRo.out.trans (if_neg (by rintro ⟨h, _⟩; revert h; decide)))
    clear HRo
    by_cases hla0 : 0 < la.length
    · have HR2 := Hid.mk' (HR1.out.trans (if_pos ⟨rfl, hla0⟩))
      clear HR1 hA
      go_enter Tryz.func97, Tryz.ntmps97
      go_wp2
      go_ret
      exact ⟨ret_int HR2.out.symm, by exact eX⟩
    have HR1b := Hid.mk' (HR1.out.trans ((if_neg (fun h => hla0 h.2)).trans (if_neg (by rw [hA]; simp))))
    clear HR1 hA
    by_cases h0 : EFB = 0
    case neg =>
      have h0' : (EFB != 0) = true := by simpa using h0
      have HR2 := Hid.mk' (HR1b.out.trans ((if_neg (by simp)).trans (if_pos ⟨rfl, h0⟩)))
      clear h0
      go_enter Tryz.func97, Tryz.ntmps97
      go_wp2_with (first
        | (go_at_call 113; refine (HFB.out _ (by exact eX)).mono ?_; rintro e w4 ⟨rfl, hb4⟩; have hE4 : Ext (w.alloc (.cells #[.int .u32 oid, .int .u32 ver, .string nm, .int .u8 id, .slice a2 cols.length cap2] 51)) w4 := (by exact eX); have g4 := ((Blk.new w #[.int .u32 oid, .int .u32 ver, .string nm, .int .u8 id, .slice a2 cols.length cap2] 51).ext hE4).cell; clear hb4))
      go_ret
      exact ⟨ret_int HR2.out.symm, by exact eX⟩
    subst h0
    have HR3 := Hid.mk' (HR1b.out.trans ((if_neg (by simp)).trans (if_neg (by simp))))
    clear HR1b
    have HR2 := Hid.mk' (HR3.out.trans (if_pos rfl))
    clear HR3
    go_enter Tryz.func97, Tryz.ntmps97
    go_wp2_with (first
      | (go_at_call 113; refine (HFB.out _ (by exact eX)).mono ?_; rintro e w4 ⟨rfl, hb4⟩; have hE4 : Ext (w.alloc (.cells #[.int .u32 oid, .int .u32 ver, .string nm, .int .u8 id, .slice a2 cols.length cap2] 51)) w4 := (by exact eX); have g4 := ((Blk.new w #[.int .u32 oid, .int .u32 ver, .string nm, .int .u8 id, .slice a2 cols.length cap2] 51).ext hE4).cell; clear hb4))
    go_ret
    exact ⟨ret_int HR2.out.symm, by exact eX⟩
  · have e0 : (id == 0) = false := by simp; omega
    have n0 : (id != 0) = true := by simp; omega
    have f0 : ((0 : Int) == id) = false := by simp; omega
    have m0 : ((0 : Int) != id) = true := by simp; omega
    have e1 : (id == 1) = false := by simp; omega
    have n1 : (id != 1) = true := by simp; omega
    have f1 : ((1 : Int) == id) = false := by simp; omega
    have m1 : ((1 : Int) != id) = true := by simp; omega
    have e2 : (id == 2) = false := by simp; omega
    have n2 : (id != 2) = true := by simp; omega
    have f2 : ((2 : Int) == id) = false := by simp; omega
    have m2 : ((2 : Int) != id) = true := by simp; omega
    have hA : allowB id 6 2 = false := by unfold allowB; simp <;> omega
    clear hi
    have HR2 := Hid.mk' (HRo.out.trans (three14 hA))
    clear HRo hA
    by_cases hla0 : 0 < la.length
    · go_enter Tryz.func97, Tryz.ntmps97
      go_wp2
      go_ret
      exact ⟨ret_int HR2.out.symm, by exact eX⟩
    go_enter Tryz.func97, Tryz.ntmps97
    go_wp2
    all_goals
      go_ret
      exact ⟨ret_int HR2.out.symm, by exact eX⟩

end Go.Proofs.YtdgalkljngigeaaGreat

/-
What is wrong with an event: the reference's Right.
-/
namespace Go.Proofs.YtdgalkljngigeaaGreat
open Go.RowKit

theorem own_trunc {e : Ev} (hk : rowedB e.kind = false) : ownB e = true ↔ (rfB ⟨e.ao, e.av⟩ ⟨0, 0⟩ = true ∧ e.old = 0 ∧ e.b = [] ∧ e.a = []) := by
  unfold ownB Ev.only
  rw [if_neg (by rw [hk]; simp), evB_true, rfB_true]
  obtain ⟨k, ao, av, old, b, a, rs, fl⟩ := e
  simp only [Ev.mk.injEq, Rf.mk.injEq, true_and, and_true]
  constructor
  · rintro ⟨h1, h2, h3, h4, h5⟩; exact ⟨⟨h1, h2⟩, h3, h4, h5⟩
  · rintro ⟨⟨h1, h2⟩, h3, h4, h5⟩; exact ⟨h1, h2, h3, h4, h5⟩
theorem own_row {e : Ev} (hk : rowedB e.kind = true) : ownB e = true ↔ (e.rs = [] ∧ e.fl = 0) := by
  unfold ownB Ev.only
  rw [if_pos hk, evB_true]
  obtain ⟨k, ao, av, old, b, a, rs, fl⟩ := e
  simp only [Ev.mk.injEq, true_and]
theorem bool_ff {b : Bool} {p : Prop} (h : b = true ↔ p) (hn : ¬ p) : b = false := by
  cases b with
  | false => rfl
  | true => exact absurd (h.1 rfl) hn
theorem len_pos {α : Type} {l : List α} (h : 0 < l.length) : l ≠ [] := by rintro rfl; exact absurd h (by simp)

/-- The relations of the reference's catalog. -/
structure RCat (ps : List RR) : Prop where
  ok : CatOk (ps.map RR.r)
  wb : ∀ p ∈ ps, p.r.wb
theorem RCat.n16 {ps : List RR} (h : RCat ps) {p : RR} (hp : p ∈ ps) : p.r.cols.length ≤ 16 := Rl.cols_le (h.ok.right _ (List.mem_map_of_mem hp))

set_option maxRecDepth 100000 in set_option maxHeartbeats 4000000 in
theorem reright_any (x : EL) (ps : List RR) (a : Option Addr) (cap : Nat) (w : World) (hx : x.at 6 K.rc w) (hs : x.e.small) (hwk : x.e.wk) (hl : RL w (.slice a ps.length cap) ps) (hc : RCat ps) :
    Calls Tryz.prog 74 #[x.agg, .slice a ps.length cap] w fun e w' => e = .returned (.int .i64 (evE x.e (ps.map RR.r))) ∧ Ext w w' := by
  have HL := Hid.mk' hx.r
  have hn := hs.r
  have hpl : ps.length ≤ 1000 := by have := hc.ok.n64; rw [List.length_map] at this; omega
  have HG := Hid.mk' (fun o v W (h : Ext w W) => rget_any ps a cap o v W (hl.ext h) hpl)
  have HIM := Hid.mk' (fun (p : RR) (hp : p ∈ ps) W (h : Ext w W) =>
    (show Calls Tryz.prog 97 #[p.agg, .int .u8 x.e.kind, .int .u8 x.e.old, .slice x.ba x.e.b.length x.bc, .slice x.aa x.e.a.length x.ac] W (fun e w' => e = .returned (.int .i64 (imgE p.r x.e.kind x.e.old x.e.b x.e.a)) ∧ Ext W w') from
      rimage_any x.e.kind x.e.old x.e.b x.e.a x.ba x.aa x.bc x.ac p.r.oid p.r.ver p.r.nm p.r.id p.r.cols p.a p.c W ((hl.ext h).sl p hp) (by have := hc.n16 hp; omega) (hx.b.ext h) (hx.a.ext h) hs.b hs.a hwk.b hwk.a (hc.wb p hp).cs (hc.wb p hp).nm (hc.wb p hp).idn hwk.old))
  clear hx hs hwk hc hl
  obtain ⟨⟨k1, ao1, av1, old1, b1, a1, r1, fl1⟩, ba1, bc1, aa1, ac1, ra1, rc1⟩ := x
  unfold EL.agg
  simp only at HL hn HIM ⊢
  by_cases h0 : k1 < 4
  · have HR := Hid.mk' (show evE (⟨k1, ao1, av1, old1, b1, a1, r1, fl1⟩ : Ev) (ps.map RR.r) = 7 from if_pos (.inl h0))
    go_enter Tryz.func74, Tryz.ntmps74
    go_wp2
    go_ret
    exact ⟨ret_int HR.out.symm, by exact eX⟩
  by_cases h1 : 7 < k1
  · have HR := Hid.mk' (show evE (⟨k1, ao1, av1, old1, b1, a1, r1, fl1⟩ : Ev) (ps.map RR.r) = 7 from if_pos (.inr h1))
    go_enter Tryz.func74, Tryz.ntmps74
    go_wp2
    go_ret
    exact ⟨ret_int HR.out.symm, by exact eX⟩
  have HR0 := Hid.mk' (show evE (⟨k1, ao1, av1, old1, b1, a1, r1, fl1⟩ : Ev) (ps.map RR.r) = _ from if_neg (by simp only; omega))
  simp only at HR0
  by_cases h7 : k1 = 7
  · subst h7
    have hrow : rowedB 7 = false := rfl
    have hown := own_trunc (e := ⟨7, ao1, av1, old1, b1, a1, r1, fl1⟩) hrow
    simp only at hown
    cases hq : rfB ⟨ao1, av1⟩ ⟨0, 0⟩ with
    | false =>
      have HR := Hid.mk' (show evE ⟨7, ao1, av1, old1, b1, a1, r1, fl1⟩ (ps.map RR.r) = 3 from by rw [HR0.out, if_pos (bool_ff hown (fun h => by rw [h.1] at hq; cases hq))])
      have hQ := fun w => neq_rref ao1 av1 0 0 w
      rw [hq] at hQ
      clear hq hown HR0 hrow
      go_enter Tryz.func74, Tryz.ntmps74
      go_wp2
      go_ret
      exact ⟨ret_int HR.out.symm, by exact eX⟩
    | true =>
    have hQ := fun w => neq_rref ao1 av1 0 0 w
    rw [hq] at hQ
    by_cases ho : old1 = 0
    case neg =>
      have HR := Hid.mk' (show evE ⟨7, ao1, av1, old1, b1, a1, r1, fl1⟩ (ps.map RR.r) = 3 from by rw [HR0.out, if_pos (bool_ff hown (fun h => ho h.2.1))])
      have ho' : (old1 != 0) = true := by simpa using ho
      clear hq hown HR0 hrow ho
      go_enter Tryz.func74, Tryz.ntmps74
      go_wp2
      go_ret
      exact ⟨ret_int HR.out.symm, by exact eX⟩
    subst ho
    by_cases hb : 0 < b1.length
    · have HR := Hid.mk' (show evE ⟨7, ao1, av1, 0, b1, a1, r1, fl1⟩ (ps.map RR.r) = 3 from by rw [HR0.out, if_pos (bool_ff hown (fun h => len_pos hb h.2.2.1))])
      clear hq hown HR0 hrow
      go_enter Tryz.func74, Tryz.ntmps74
      go_wp2
      go_ret
      exact ⟨ret_int HR.out.symm, by exact eX⟩
    obtain rfl : b1 = [] := List.length_eq_zero_iff.1 (by omega)
    by_cases ha : 0 < a1.length
    · have HR := Hid.mk' (show evE ⟨7, ao1, av1, 0, [], a1, r1, fl1⟩ (ps.map RR.r) = 3 from by rw [HR0.out, if_pos (bool_ff hown (fun h => len_pos ha h.2.2.2))])
      clear hq hown HR0 hrow hb
      go_enter Tryz.func74, Tryz.ntmps74
      go_wp2
      go_ret
      exact ⟨ret_int HR.out.symm, by exact eX⟩
    obtain rfl : a1 = [] := List.length_eq_zero_iff.1 (by omega)
    have HRT := Hid.mk' (show evE ⟨7, ao1, av1, 0, [], [], r1, fl1⟩ (ps.map RR.r) = truncE ⟨7, ao1, av1, 0, [], [], r1, fl1⟩ (ps.map RR.r) from by
      rw [HR0.out, if_neg (by rw [hown.2 ⟨hq, rfl, rfl, rfl⟩]; simp), if_pos rfl])
    clear hq hown HR0 hrow hb ha
    generalize evE ⟨7, ao1, av1, 0, [], [], r1, fl1⟩ (ps.map RR.r) = R at HRT ⊢
    by_cases hz : r1.length = 0
    · have HR := Hid.mk' (show R = 17 from by rw [HRT.out]; exact if_pos (.inl (by simp only; omega)))
      obtain rfl : r1 = [] := List.length_eq_zero_iff.1 hz
      clear HRT
      go_enter Tryz.func74, Tryz.ntmps74
      go_wp2
      go_ret
      exact ⟨ret_int HR.out.symm, by exact eX⟩
    have hz' : (((r1.length : Nat) : Int) == 0) = false := by simp; intro e; exact hz (by rw [e]; rfl)
    have HLP := Hid.mk' (show 0 < r1.length by omega)
    clear hz
    by_cases h8 : 8 < r1.length
    · have HR := Hid.mk' (show R = 17 from by rw [HRT.out]; exact if_pos (.inr h8))
      clear HRT
      go_enter Tryz.func74, Tryz.ntmps74
      go_wp2
      go_ret
      exact ⟨ret_int HR.out.symm, by exact eX⟩
    have HRR := Hid.mk' (show R = if risB r1 = false then 15 else if hasAll r1 (ps.map RR.r) = false then 10 else if 3 < fl1 then 4 else 0 from by rw [HRT.out]; exact if_neg (by have := HLP.out; simp only; omega))
    clear HRT
    go_enter Tryz.func74, Tryz.ntmps74
    go_wp2
    go_loopw [5] (fun i wr => ∃ k : Nat, k + 1 ≤ r1.length ∧ i = .int .i64 ((k : Int) + 1) ∧ Hid (∀ j (h : j + 1 < r1.length), j < k → aheadB r1[j].o r1[j].v r1[j + 1].o r1[j + 1].v = true) ∧ Hid (Blk wr w.heap.size #[.int .u8 7, .int .u32 ao1, .int .u32 av1, .int .u8 0, .slice ba1 0 bc1, .slice aa1 0 ac1, .slice ra1 r1.length rc1, .int .u8 fl1] 85) ∧ Hid (Ext w wr)) (fun i _ => r1.length - (intOf i).toNat)
    case atStart => exact ⟨0, HLP.out, rfl, Hid.mk' (fun j _ h => by omega), Hid.mk' (Blk.new _ _ _), Hid.mk' (by exact eX)⟩
    case round =>
      obtain ⟨k, hk, rfl, hrel, hX, hE⟩ := hrel
      have gv := hX.out.cell
      have zv := hX.out.lt
      by_cases hlt : k + 1 < r1.length
      · have hlt0 : k < r1.length := by omega
        obtain ⟨o1, p1, rfl, hb1, hx1⟩ := HL.out.at_ (i := k) (by simpa using hlt0)
        obtain ⟨f0, f1⟩ := Rf.at_ hlt0 hx1 hb1 hE.out
        obtain ⟨o2, p2, he2, hb2, hx2⟩ := HL.out.at_ (i := k + 1) (by simpa using hlt)
        simp only [Option.some.injEq, Addr.mk.injEq] at he2
        obtain ⟨rfl, rfl, -⟩ := he2
        obtain ⟨s0, s1⟩ := Rf.at_ hlt hx2 hb2 hE.out
        have hbw : o1 < wr.heap.size := Nat.lt_of_lt_of_le hb1 hE.out.size
        have HCP := Hid.mk' (fun W => rahead_any r1[k].o r1[k].v r1[k + 1].o r1[k + 1].v W)
        have q1 : IntKind.i64.wrap (k : Int) = (k : Int) := IntWalk.i64_in _ (by omega)
        have q2 : ((k : Int) + 1).toNat = k + 1 := by omega
        have i1 : (k : Int) < (r1.length : Int) := by omega
        have i2 : (k : Int) + 1 < (r1.length : Int) := by omega
        have i3 : (0 : Int) ≤ (k : Int) + 1 := by omega
        have i4 : (0 : Int) ≤ (k : Int) := by omega
        clear hx1 hx2
        cases hA : aheadB r1[k].o r1[k].v r1[k + 1].o r1[k + 1].v with
        | true =>
          have HA := Hid.mk' hA
          rw [hA] at HCP
          clear hA
          go_wp2
          go_region_held3 (fun w' => Ext (wr) w' ∧ (∀ b o, b < (wr).heap.size → w'.cell? ⟨b, o, none⟩ = (wr).cell? ⟨b, o, none⟩) ∧ (∀ b o, b < (wr).heap.size → w'.frozen? ⟨b, o, none⟩ = (wr).frozen? ⟨b, o, none⟩)) ((exact held_of (by exact eX))) ((go_at_call 73; refine (HCP.out _).mono ?_; rintro e w2 ⟨rfl, hb2⟩))
          clear q1 q2
          go_wp2
          go_roundw
          case rel => exact ⟨k + 1, by omega, by go_num, Hid.mk' (fun j h hj => by
            by_cases e : j = k
            · subst e; exact HA.out
            · exact hrel.out j h (by omega)), Hid.mk' (hX.out.ext (by exact eX)), Hid.mk' (hE.out.trans (by exact eX))⟩
          case measure => simp [intOf]; omega
        | false =>
          have HR := Hid.mk' (show R = 15 from by rw [HRR.out, if_pos (risB_no hlt hA)])
          rw [hA] at HCP
          clear hA
          go_wp2
          go_region_held3 (fun w' => Ext (wr) w' ∧ (∀ b o, b < (wr).heap.size → w'.cell? ⟨b, o, none⟩ = (wr).cell? ⟨b, o, none⟩) ∧ (∀ b o, b < (wr).heap.size → w'.frozen? ⟨b, o, none⟩ = (wr).frozen? ⟨b, o, none⟩)) ((exact held_of (by exact eX))) ((go_at_call 73; refine (HCP.out _).mono ?_; rintro e w2 ⟨rfl, hb2⟩))
          clear q1 q2
          go_wp2
          go_ret
          exact ⟨ret_int HR.out.symm, hE.out.trans (by exact eX)⟩
      · have HR1 := Hid.mk' (show R = if hasAll r1 (ps.map RR.r) = false then 10 else if 3 < fl1 then 4 else 0 from by rw [HRR.out, if_neg (by rw [risB_true.2 (fun i h => hrel.out i h (by omega))]; simp)])
        clear HRR hrel
        obtain ⟨wo, hwo⟩ : ∃ x, x = wr := ⟨_, rfl⟩
        subst hwo
        go_wp2
        go_loopw [6] (fun i wr => ∃ k : Nat, k ≤ r1.length ∧ i = .int .i64 k ∧ Hid (∀ j (h : j < r1.length), j < k → hasR r1[j].o r1[j].v (ps.map RR.r) = true) ∧ Hid (Ext wo wr)) (fun i _ => r1.length - (intOf i).toNat)
        case atStart => exact ⟨0, by omega, rfl, Hid.mk' (fun j _ h => by omega), Hid.mk' (by exact eX)⟩
        case round =>
          obtain ⟨m, hm, rfl, hrel, hF⟩ := hrel
          have gv2 := (hX.out.ext hF.out).cell
          have zv2 := (hX.out.ext hF.out).lt
          clear gv zv
          by_cases hlt2 : m < r1.length
          · obtain ⟨o1, p1, rfl, hb1, hx1⟩ := HL.out.at_ (i := m) (by simpa using hlt2)
            obtain ⟨f0, f1⟩ := Rf.at_ hlt2 hx1 hb1 (hE.out.trans hF.out)
            have hbw : o1 < wr.heap.size := Nat.lt_of_lt_of_le hb1 (hE.out.trans hF.out).size
            have HGT := Hid.mk' (fun W (h : Ext wr W) => HG.out r1[m].o r1[m].v W (hE.out.trans (hF.out.trans h)))
            rw [getP_is] at HGT
            obtain ⟨q, hq⟩ : ∃ q, q = (getP r1[m].o r1[m].v ps).getD RR.zero := ⟨_, rfl⟩
            rw [← hq] at HGT
            obtain ⟨⟨oid, ver, nm, id, cols⟩, qa, qc⟩ := q
            unfold RR.agg at HGT
            simp only at HGT
            clear hx1 hq
            cases hA : hasR r1[m].o r1[m].v (ps.map RR.r) with
            | true =>
              have HA := Hid.mk' hA
              rw [hA] at HGT
              clear hA
              go_wp2_with (go_at_call 53; refine (HGT.out _ (by exact eX)).mono ?_; rintro e w3 ⟨rfl, hb3⟩)
              go_roundw
              case rel => exact ⟨m + 1, by omega, by go_num, Hid.mk' (fun j h hj => by
                by_cases e : j = m
                · subst e; exact HA.out
                · exact hrel.out j h (by omega)), Hid.mk' (hF.out.trans (by exact eX))⟩
              case measure => simp [intOf]; omega
            | false =>
              have HR := Hid.mk' (show R = 10 from by rw [HR1.out, if_pos (hasAll_no hlt2 hA)])
              rw [hA] at HGT
              clear hA
              go_wp2_with (go_at_call 53; refine (HGT.out _ (by exact eX)).mono ?_; rintro e w3 ⟨rfl, hb3⟩)
              go_ret
              exact ⟨ret_int HR.out.symm, hE.out.trans (hF.out.trans (by exact eX))⟩
          · have HR2 := Hid.mk' (show R = if 3 < fl1 then 4 else 0 from by rw [HR1.out, if_neg (by rw [hasAll_yes (fun i h => hrel.out i h (by omega))]; simp)])
            clear HR1 hrel
            by_cases h3 : 3 < fl1
            · have HR := Hid.mk' (show R = 4 from by rw [HR2.out, if_pos h3])
              go_wp2
              go_ret
              exact ⟨ret_int HR.out.symm, hE.out.trans hF.out⟩
            · have HR := Hid.mk' (show R = 0 from by rw [HR2.out, if_neg h3])
              go_wp2
              go_ret
              exact ⟨ret_int HR.out.symm, hE.out.trans hF.out⟩
  · have hrow : rowedB k1 = true := decide_eq_true (by omega)
    have hown := own_row (e := (⟨k1, ao1, av1, old1, b1, a1, r1, fl1⟩ : Ev)) hrow
    simp only at hown
    have h7' : (k1 == 7) = false := by simpa using h7
    by_cases hb : 0 < r1.length
    · have HR := Hid.mk' (show evE (⟨k1, ao1, av1, old1, b1, a1, r1, fl1⟩ : Ev) (ps.map RR.r) = 3 from by rw [HR0.out, if_pos (bool_ff hown (fun h => len_pos hb h.1))])
      clear hown HR0 hrow h7
      go_enter Tryz.func74, Tryz.ntmps74
      go_wp2
      go_ret
      exact ⟨ret_int HR.out.symm, by exact eX⟩
    obtain rfl : r1 = [] := List.length_eq_zero_iff.1 (by omega)
    by_cases hf : fl1 = 0
    case neg =>
      have HR := Hid.mk' (show evE ⟨k1, ao1, av1, old1, b1, a1, [], fl1⟩ (ps.map RR.r) = 3 from by rw [HR0.out, if_pos (bool_ff hown (fun h => hf h.2))])
      have hf' : (fl1 != 0) = true := by simpa using hf
      clear hown HR0 hrow h7 hf hb
      go_enter Tryz.func74, Tryz.ntmps74
      go_wp2
      go_ret
      exact ⟨ret_int HR.out.symm, by exact eX⟩
    subst hf
    have HR1 := Hid.mk' (show evE ⟨k1, ao1, av1, old1, b1, a1, [], 0⟩ (ps.map RR.r) = _ from by rw [HR0.out, if_neg (by rw [hown.2 ⟨rfl, rfl⟩]; simp), if_neg h7])
    generalize evE ⟨k1, ao1, av1, old1, b1, a1, [], 0⟩ (ps.map RR.r) = R at HR1 ⊢
    clear hown HR0 hrow h7 hb
    have HGT := Hid.mk' (fun W (h : Ext w W) => HG.out ao1 av1 W h)
    rw [getP_is] at HGT
    cases hg : getP ao1 av1 ps with
    | none =>
      have hgr : getR ao1 av1 (ps.map RR.r) = none := by rw [← getP_map, hg]; rfl
      have hh := getR_none.1 hgr
      have HR := Hid.mk' (show R = 10 from by rw [HR1.out, hgr])
      rw [hg, hh] at HGT
      clear hg hgr hh HR1
      simp only [Option.getD_none] at HGT
      unfold RR.agg RR.zero at HGT
      go_enter Tryz.func74, Tryz.ntmps74
      go_wp2_with (go_at_call 53; refine (HGT.out _ (by exact eX)).mono ?_; rintro e w3 ⟨rfl, hb3⟩)
      go_ret
      exact ⟨ret_int HR.out.symm, by exact eX⟩
    | some p =>
      have hgr : getR ao1 av1 (ps.map RR.r) = some p.r := by rw [← getP_map, hg]; rfl
      have hh : hasR ao1 av1 (ps.map RR.r) = true := by rw [← getP_is, hg]; rfl
      have HR := Hid.mk' (show R = imgE p.r k1 old1 b1 a1 from by rw [HR1.out, hgr])
      have HI := Hid.mk' (HIM.out p (getP_some hg).1)
      rw [hg, hh] at HGT
      rw [← HR.out] at HI
      clear hg hgr hh HR1 HR HIM
      simp only [Option.getD_some] at HGT
      obtain ⟨⟨oid, ver, nm, id, cols⟩, qa, qc⟩ := p
      unfold RR.agg at HGT HI
      simp only at HGT HI
      go_enter Tryz.func74, Tryz.ntmps74
      go_wp2_with (first
        | (go_at_call 53; refine (HGT.out _ (by exact eX)).mono ?_; rintro e w3 ⟨rfl, hb3⟩; (have hE_w3 : Ext (w.alloc (.cells #[.int .u8 k1, .int .u32 ao1, .int .u32 av1, .int .u8 old1, .slice ba1 b1.length bc1, .slice aa1 a1.length ac1, .slice ra1 0 rc1, .int .u8 0] 85)) w3 := (by exact eX); obtain ⟨hc_w3, hf_w3⟩ := hE_w3.cells; have hz_w3 := hE_w3.size); have z3 : w.heap.size < w3.heap.size := (by have := hE_w3.size; simp at this; omega))
        | (go_at_call 97; refine (HI.out _ (by exact eX)).mono ?_; rintro e w4 ⟨rfl, hb4⟩))
      go_ret
      exact ⟨rfl, by exact eX⟩

end Go.Proofs.YtdgalkljngigeaaGreat


/-
Whether two transactions are alike, the program's answer and the reference's; what is wrong with one, the reference's answer.
-/
namespace Go.Proofs.YtdgalkljngigeaaGreat
open Go.RowKit

noncomputable def esB (l m : List Ev) : Bool := @decide (l = m) (Classical.propDecidable _)
noncomputable def txB (l m : Tx) : Bool := @decide (l = m) (Classical.propDecidable _)
theorem esB_true {l m : List Ev} : esB l m = true ↔ l = m := by unfold esB; simp
theorem esB_false {l m : List Ev} : esB l m = false ↔ l ≠ m := by unfold esB; simp
theorem txB_true {l m : Tx} : txB l m = true ↔ l = m := by unfold txB; simp
theorem txB_false {l m : Tx} : txB l m = false ↔ l ≠ m := by unfold txB; simp
theorem esB_at {l m : List EL} {k : Nat} (h1 : k < l.length) (h2 : k < m.length) (h : evB l[k].e m[k].e = false) : esB (l.map EL.e) (m.map EL.e) = false := esB_false.2 (fun e => evB_false.1 h (by
  have h3 := congrArg (fun z => z[k]?) e
  simpa [h1, h2] using h3))
theorem esB_len {l m : List EL} (h : l.length ≠ m.length) : esB (l.map EL.e) (m.map EL.e) = false := esB_false.2 (fun e => h (by have := congrArg List.length e; simpa using this))
theorem esB_all {l m : List EL} (h0 : l.length = m.length) (h : ∀ i (h1 : i < l.length) (h2 : i < m.length), evB l[i].e m[i].e = true) : esB (l.map EL.e) (m.map EL.e) = true :=
  esB_true.2 (List.ext_getElem (by simpa using h0) (fun i h1 h2 => by
    have := evB_true.1 (h i (by simpa using h1) (by simpa using h2))
    simpa using this))
theorem txB_eq {x1 s1 x2 s2 : Int} {l m : List Ev} : txB ⟨x1, s1, l⟩ ⟨x2, s2, m⟩ = (decide (x1 = x2) && decide (s1 = s2) && esB l m) := by
  rw [Bool.eq_iff_iff, txB_true, Bool.and_eq_true, Bool.and_eq_true, decide_eq_true_iff, decide_eq_true_iff, esB_true]
  constructor
  · intro h
    injection h with a b c
    exact ⟨⟨a, b⟩, c⟩
  · rintro ⟨⟨rfl, rfl⟩, rfl⟩; rfl

set_option maxRecDepth 100000 in set_option maxHeartbeats 4000000 in
theorem rrighttx_any (t : TL) (ps : List RR) (a : Option Addr) (cap : Nat) (w : World) (ht : t.at 6 K.rc w) (hn : t.es.length ≤ 1000) (hs : ∀ e ∈ t.es, e.e.small) (hwk : ∀ e ∈ t.es, e.e.wk) (hl : RL w (.slice a ps.length cap) ps) (hc : RCat ps) :
    Calls Tryz.prog 46 #[t.agg, .slice a ps.length cap] w fun e w' => e = .returned (.tuple #[.int .i64 (rtP t.t (ps.map RR.r)), .int .i64 (rtE t.t (ps.map RR.r))]) ∧ Ext w w' := by
  have HT := Hid.mk' ht
  have HER := Hid.mk' (fun x (hx : x ∈ t.es) W (h : Ext w W) => reright_any x ps a cap W ((ht.sl x hx).ext h) (hs x hx) (hwk x hx) (hl.ext h) hc)
  clear ht hs hwk hl hc
  obtain ⟨xid, st, es, ta, tc⟩ := t
  unfold TL.agg TL.t
  simp only at HER hn ⊢
  have HT2 : Hid (ES 6 K.rc w (.slice ta es.length tc) es) := HT
  clear HT
  by_cases h0 : xid = 0
  · subst h0
    have HR := Hid.mk' (show rtE ⟨0, st, es.map EL.e⟩ (ps.map RR.r) = 4 ∧ rtP ⟨0, st, es.map EL.e⟩ (ps.map RR.r) = -1 from ⟨if_pos rfl, if_pos rfl⟩)
    go_enter Tryz.func46, Tryz.ntmps46
    go_wp2
    go_ret2
    exact ⟨by rw [HR.out.1, HR.out.2]; rfl, by exact eX⟩
  have h0' : (xid == 0) = false := by simpa using h0
  have H0 := Hid.mk' h0
  clear h0
  by_cases h5 : 512 < es.length
  · have HR := Hid.mk' (show rtE (⟨xid, st, es.map EL.e⟩ : Tx) (ps.map RR.r) = 8 ∧ rtP (⟨xid, st, es.map EL.e⟩ : Tx) (ps.map RR.r) = -1 from ⟨by unfold rtE; rw [if_neg H0.out, if_pos (by simpa using h5)], by unfold rtP; rw [if_neg H0.out, if_pos (by simpa using h5)]⟩)
    go_enter Tryz.func46, Tryz.ntmps46
    go_wp2
    go_ret2
    exact ⟨by rw [HR.out.1, HR.out.2]; rfl, by exact eX⟩
  have HL5 := Hid.mk' (show (⟨xid, st, es.map EL.e⟩ : Tx).es.length ≤ 512 by simp only [List.length_map]; omega)
  go_enter Tryz.func46, Tryz.ntmps46
  go_wp2
  go_loopw [6] (fun i wr => ∃ k : Nat, k ≤ es.length ∧ i = .int .i64 k ∧ Hid (∀ j, j < k → evAt (es.map EL.e) (ps.map RR.r) j = 0) ∧ Hid (Ext (w.alloc (.cells #[.int .u32 xid, .int .u64 st, .slice ta es.length tc] 62)) wr)) (fun i _ => es.length - (intOf i).toNat)
  case atStart => exact ⟨0, Nat.zero_le _, rfl, Hid.mk' (fun j h => by omega), Hid.mk' (Ext.refl _)⟩
  case round =>
    obtain ⟨k, hk, rfl, hz, hE0⟩ := hrel
    have hE : Hid (Ext w wr) := Hid.mk' (((Ext.refl w).alloc _).trans hE0.out)
    have hV := (Blk.new w #[.int .u32 xid, .int .u64 st, .slice ta es.length tc] 62).ext hE0.out
    have gv := hV.cell
    have zv := hV.lt
    clear hV
    by_cases hlt : k < es.length
    · obtain ⟨b, o, rfl, hb, hx⟩ := HT2.out.row.at_ (i := k) (by simpa using hlt)
      obtain ⟨g0, g1, g2, g3, g4, g5, g6, g7⟩ := EL.at_ hlt hx hb hE.out
      have hbw : b < wr.heap.size := Nat.lt_of_lt_of_le hb hE.out.size
      have HEK := Hid.mk' (HER.out _ (List.getElem_mem hlt))
      have HAT := Hid.mk' (evAt_map (l := ps.map RR.r) hlt)
      obtain ⟨x, hxx⟩ : ∃ x, x = es[k] := ⟨_, rfl⟩
      rw [← hxx] at g0 g1 g2 g3 g4 g5 g6 g7 HEK HAT
      have HLT := Hid.mk' hlt
      clear hxx hx
      obtain ⟨⟨k1, ao1, av1, old1, b1, a1, r1, fl1⟩, ba1, bc1, aa1, ac1, ra1, rc1⟩ := x
      unfold EL.agg at HEK
      simp only at g0 g1 g2 g3 g4 g5 g6 g7 HEK HAT
      obtain ⟨E, hEE⟩ : ∃ E, E = evE ⟨k1, ao1, av1, old1, b1, a1, r1, fl1⟩ (ps.map RR.r) := ⟨_, rfl⟩
      rw [← hEE] at HEK HAT
      clear hEE
      by_cases hE1 : E = 0
      · subst hE1
        go_wp2_with (go_at_call 74; refine (HEK.out _ (hE.out.trans (by exact eX))).mono ?_; rintro e w2 ⟨rfl, hb2⟩)
        go_roundw
        case rel => exact ⟨k + 1, by omega, by go_num, Hid.mk' (fun j hj => by
          by_cases e : j = k
          · subst e; exact HAT.out
          · exact hz.out j (by omega)), Hid.mk' (hE0.out.trans (by exact eX))⟩
        case measure => simp [intOf]; omega
      · have hE2 : (E != 0) = true := by simpa using hE1
        have HR := Hid.mk' (rt_bad (t := (⟨xid, st, es.map EL.e⟩ : Tx)) (l := ps.map RR.r) H0.out HL5.out (by simpa using HLT.out) hz.out (by rw [show (⟨xid, st, es.map EL.e⟩ : Tx).es = es.map EL.e from rfl, HAT.out]; exact hE1))
        rw [show (⟨xid, st, es.map EL.e⟩ : Tx).es = es.map EL.e from rfl, HAT.out] at HR
        clear hE1
        go_wp2_with (go_at_call 74; refine (HEK.out _ (hE.out.trans (by exact eX))).mono ?_; rintro e w2 ⟨rfl, hb2⟩)
        go_ret2
        exact ⟨by rw [HR.out.1, HR.out.2]; rfl, hE.out.trans (by exact eX)⟩
    · have HR := Hid.mk' (rt_ok (t := (⟨xid, st, es.map EL.e⟩ : Tx)) (l := ps.map RR.r) H0.out HL5.out (fun j hj => hz.out j (by simp at hj; omega)))
      go_wp2
      go_ret2
      exact ⟨by rw [HR.out.1, HR.out.2]; rfl, hE.out⟩

end Go.Proofs.YtdgalkljngigeaaGreat
