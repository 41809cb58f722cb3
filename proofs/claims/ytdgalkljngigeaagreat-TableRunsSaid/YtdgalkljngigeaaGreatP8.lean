/-
What is wrong with an event's images: the program's answer, the reference's.
-/
import Derived.RangeFuncNested
import Derived.RangeFuncBound
import Derived.RangeFuncCalls
import Derived.RangeFuncLeaves
import Derived.RangeFuncBox
import Derived.Shelf.Abstract
import Derived.Shelf.RegionOpen
import Derived.OwnWalkIn
import Derived.TacticsInMore
import Derived.LoopNIn
import Derived.LoopIn
import Derived.RangeFuncOne
import Derived.Test.YtdgalkljngigeaaGreatP7
namespace Go.Proofs.YtdgalkljngigeaaGreat
open Go.RowKit

theorem three14 {p q r : Prop} [Decidable p] [Decidable q] [Decidable r] {X : Int} (h : r) : (if p then (14 : Int) else if q then 14 else if r then 14 else X) = 14 := by
  rw [if_pos h]
  split
  · rfl
  · split <;> rfl
/-- May an event of a kind have an old image of a kind, by an identity? -/
def allowB (id kind old : Int) : Bool := if kind = 4 then decide (old = 0) else if kind = 5 then (decide (old = id) || (decide (old = 0) && decide (id = 1))) else (decide (old = id) && !decide (id = 0))
noncomputable def imgE (r : Rl) (kind old : Int) (b a : List K) : Int :=
  if kind < 4 ∨ 6 < kind then 7
  else if 2 < old then 14
  else if old = 0 ∧ 0 < b.length then 14
  else if kind = 6 ∧ 0 < a.length then 14
  else if allowB r.id kind old = false then 14
  else if old = 1 ∧ isKeyE b r ≠ 0 then isKeyE b r
  else if old = 2 ∧ isFullE b r ≠ 0 then isFullE b r
  else if kind = 6 then 0
  else if kind = 4 ∧ isFullE a r ≠ 0 then isFullE a r
  else if kind ≠ 4 ∧ keyedE a r ≠ 0 then keyedE a r
  else if old = 1 ∧ rowB b (keyOf r.cols a) = true then 13 else 0

set_option maxRecDepth 20000 in set_option maxHeartbeats 400000 in
theorem allowed_any (id kind old : Int) (w : World) (hk : 4 ≤ kind) (hk2 : kind ≤ 6) : Calls Tryz.prog 107 #[.int .u8 id, .int .u8 kind, .int .u8 old] w fun e w' => e = .returned (.bool (allowB id kind old)) ∧ w = w' := by
  have h3 : kind = 4 ∨ kind = 5 ∨ kind = 6 := by omega
  rcases h3 with rfl | rfl | rfl
  · have HR := Hid.mk' (show allowB id 4 old = (old == 0) by unfold allowB; rw [if_pos rfl]; rfl)
    go_enter Tryz.func107, Tryz.ntmps107
    go_wp2
    go_ret
    exact ⟨ret_bool HR.out.symm, rfl⟩
  · have HR := Hid.mk' (show allowB id 5 old = ((old == id) || ((old == 0) && (id == 1))) by unfold allowB; rw [if_neg (by decide), if_pos rfl]; rfl)
    cases h1 : (old == id) <;> cases h2 : (old == 0) <;> cases h4 : (id == 1)
    all_goals
      rw [h1, h2, h4] at HR
      go_enter Tryz.func107, Tryz.ntmps107
      go_wp2
      go_ret
      exact ⟨ret_bool (by rw [HR.out]; simp), rfl⟩
  · have HR := Hid.mk' (show allowB id 6 old = ((old == id) && !(id == 0)) by unfold allowB; rw [if_neg (by decide), if_neg (by decide)]; rfl)
    cases h1 : (old == id) <;> cases h2 : (id == 0)
    all_goals
      rw [h1, h2] at HR
      have h3 : (id != 0) = !(id == 0) := rfl
      rw [h2] at h3
      simp only [Bool.not_true, Bool.not_false] at h3
      go_enter Tryz.func107, Tryz.ntmps107
      go_wp2
      go_ret
      exact ⟨ret_bool (by rw [HR.out]; simp), rfl⟩

set_option maxRecDepth 20000 in set_option maxHeartbeats 400000 in
theorem imgok_any (oid ver : Int) (nm : ByteArray) (id : Int) (v v2 : Value) (w : World) : Calls Tryz.prog 108 #[.agg #[.int .u32 oid, .int .u32 ver, .string nm, .int .u8 id, v], v2] w fun e w' => e = .returned (.int .i64 0) ∧ Ext w w' := by
  go_enter Tryz.func108, Tryz.ntmps108
  go_wp2
  go_ret
  exact ⟨rfl, by exact eX⟩

set_option maxRecDepth 100000 in set_option maxHeartbeats 8000000 in
theorem image_any (kind old : Int) (lb la : List K) (ba aa : Option Addr) (bc ac : Nat) (oid ver : Int) (nm : ByteArray) (id : Int) (cols : List Col) (a2 : Option Addr) (cap2 : Nat) (w : World) (hl2 : Sl w (.slice a2 cols.length cap2) 3 (cols.map Col.cells)) (hcap2 : cols.length ≤ cap2) (hlen2 : cols.length ≤ 1000) (hb : Sl w (.slice ba lb.length bc) 5 (lb.map K.pc)) (ha : Sl w (.slice aa la.length ac) 5 (la.map K.pc)) (hlb : lb.length ≤ 1000) (hla : la.length ≤ 1000) (hsb : ∀ c ∈ lb, c.wk) (hsa : ∀ c ∈ la, c.wk) (hs2 : ∀ c ∈ cols, c.nm.size ≤ 9223372036854775807) (hnm : nm.size ≤ 9223372036854775807) (hid : 0 ≤ id) (hold : 0 ≤ old) :
    Calls Tryz.prog 95 #[.agg #[.int .u32 oid, .int .u32 ver, .string nm, .int .u8 id, .slice a2 cols.length cap2], .int .u8 kind, .int .u8 old, .slice ba lb.length bc, .slice aa la.length ac] w fun e w' => e = .returned (.int .i64 (imgE (⟨oid, ver, nm, id, cols⟩ : Rl) kind old lb la)) ∧ Ext w w' := by
  have HKB := Hid.mk' (fun W (h : Ext w W) => isKey_any' oid ver nm id cols a2 cap2 lb ba bc W (hl2.ext h) hcap2 hlen2 (hb.ext h) hlb hsb hs2 hnm)
  have HFB := Hid.mk' (fun W (h : Ext w W) => isFull_any' oid ver nm id cols a2 cap2 lb ba bc W (hl2.ext h) hcap2 hlen2 (hb.ext h) hlb hsb hs2 hnm)
  have HFA := Hid.mk' (fun W (h : Ext w W) => isFull_any' oid ver nm id cols a2 cap2 la aa ac W (hl2.ext h) hcap2 hlen2 (ha.ext h) hla hsa hs2 hnm)
  have HDA := Hid.mk' (fun W (h : Ext w W) => keyedI_any oid ver nm id cols a2 cap2 la aa ac W (hl2.ext h) hcap2 hlen2 (ha.ext h) hla hsa hs2 hnm)
  have HKO := Hid.mk' (fun W (h : Ext w W) => keyOf_any oid ver nm id cols a2 cap2 la aa ac W (hl2.ext h) hlen2 (ha.ext h) hla)
  have HOK := Hid.mk' (fun W (_ : Ext w W) => imgok_any oid ver nm id (.slice a2 cols.length cap2) (.slice ba lb.length bc) W)
  have HAK := Hid.mk' (fun W g c (h : Ext w W) (hr : RowAt W g (keyOf cols la)) => (alike_any lb (keyOf cols la) ba (some ⟨g, 0, none⟩) bc c W (hb.ext h) (hr.sl c) hlb (by rw [keyOf_len]; exact hla)))
  rw [keyOf_len] at HAK
  have HR : Hid (imgE (⟨oid, ver, nm, id, cols⟩ : Rl) kind old lb la = if kind < 4 ∨ 6 < kind then 7 else if 2 < old then 14 else if old = 0 ∧ 0 < lb.length then 14 else if kind = 6 ∧ 0 < la.length then 14 else if allowB id kind old = false then 14
    else if old = 1 ∧ isKeyE lb (⟨oid, ver, nm, id, cols⟩ : Rl) ≠ 0 then isKeyE lb (⟨oid, ver, nm, id, cols⟩ : Rl) else if old = 2 ∧ isFullE lb (⟨oid, ver, nm, id, cols⟩ : Rl) ≠ 0 then isFullE lb (⟨oid, ver, nm, id, cols⟩ : Rl) else if kind = 6 then 0 else if kind = 4 ∧ isFullE la (⟨oid, ver, nm, id, cols⟩ : Rl) ≠ 0 then isFullE la (⟨oid, ver, nm, id, cols⟩ : Rl) else if kind ≠ 4 ∧ keyedE la (⟨oid, ver, nm, id, cols⟩ : Rl) ≠ 0 then keyedE la (⟨oid, ver, nm, id, cols⟩ : Rl) else if old = 1 ∧ rowB lb (keyOf cols la) = true then 13 else 0) := Hid.mk' rfl
  generalize imgE (⟨oid, ver, nm, id, cols⟩ : Rl) kind old lb la = RES at HR ⊢
  generalize isKeyE lb (⟨oid, ver, nm, id, cols⟩ : Rl) = EKB at HKB HR
  generalize isFullE lb (⟨oid, ver, nm, id, cols⟩ : Rl) = EFB at HFB HR
  generalize isFullE la (⟨oid, ver, nm, id, cols⟩ : Rl) = EFA at HFA HR
  generalize keyedE la (⟨oid, ver, nm, id, cols⟩ : Rl) = EDA at HDA HR
  generalize rowB lb (keyOf cols la) = BAK at HAK HR
  clear hl2 hb ha hsb hsa hs2 hnm
  by_cases hk : kind < 4 ∨ 6 < kind
  · have HR2 := Hid.mk' (HR.out.trans (if_pos hk))
    clear HR
    rcases hk with hk | hk
    all_goals
      (try have hk4 : 4 ≤ kind := by omega)
      go_enter Tryz.func95, Tryz.ntmps95
      go_wp2
      go_ret
      exact ⟨ret_int HR2.out.symm, by exact eX⟩
  have hk3 : kind = 4 ∨ kind = 5 ∨ kind = 6 := by omega
  have HRk := Hid.mk' (HR.out.trans (if_neg hk))
  clear HR hk
  by_cases ho : 2 < old
  · have HR2 := Hid.mk' (HRk.out.trans (if_pos ho))
    clear HRk
    rcases hk3 with rfl | rfl | rfl
    all_goals
      go_enter Tryz.func95, Tryz.ntmps95
      go_wp2
      go_ret
      exact ⟨ret_int HR2.out.symm, by exact eX⟩
  have ho3 : old = 0 ∨ old = 1 ∨ old = 2 := by omega
  have HRo := Hid.mk' (HRk.out.trans (if_neg ho))
  clear HRk ho hold
  have hi4 : id = 0 ∨ id = 1 ∨ id = 2 ∨ 2 < id := by omega

  have HAL := Hid.mk' (fun w => allowed_any id kind old w (by omega) (by omega))

  rcases hk3 with rfl | rfl | rfl <;> rcases ho3 with rfl | rfl | rfl <;> rcases hi4 with hi | hi | hi | hi
  · have e0 : (id == 0) = true := by simp; omega
    have n0 : (id != 0) = false := by simp; omega
    have f0 : ((0 : Int) == id) = true := by simp; omega
    have m0 : ((0 : Int) != id) = false := by simp; omega
    have e1 : (id == 1) = false := by simp; omega
    have n1 : (id != 1) = true := by simp; omega
    have f1 : ((1 : Int) == id) = false := by simp; omega
    have m1 : ((1 : Int) != id) = true := by simp; omega
    have e2 : (id == 2) = false := by simp; omega
    have n2 : (id != 2) = true := by simp; omega
    have f2 : ((2 : Int) == id) = false := by simp; omega
    have m2 : ((2 : Int) != id) = true := by simp; omega
    have hA : allowB id 4 0 = true := by rw [hi]; decide
    clear hi
    rw [hA] at HAL
    by_cases hlb0 : 0 < lb.length
    · have HR2 := Hid.mk' (HRo.out.trans (if_pos ⟨rfl, hlb0⟩))
      clear HRo hA
      go_enter Tryz.func95, Tryz.ntmps95
      go_wp2_with (first
        | (go_at_call 107; refine (HAL.out _).mono ?_; rintro e w1 ⟨rfl, rfl⟩))
      go_ret
      exact ⟨ret_int HR2.out.symm, by exact eX⟩
    have hlb1 : lb.length = 0 := by omega
    have hlb2 : ¬ ((0 : Nat) < lb.length) := by omega
    have HR1 := Hid.mk' (HRo.out.trans (if_neg (fun h => hlb2 h.2)))
    clear HRo hlb0 hlb1
    have HR1b := Hid.mk' (HR1.out.trans ((if_neg (by rintro ⟨h, _⟩; revert h; decide)).trans (if_neg (by rw [hA]; simp))))
    clear HR1 hA
    have HR3 := Hid.mk' (HR1b.out.trans ((if_neg (by simp)).trans (if_neg (by simp))))
    clear HR1b
    by_cases h1 : EFA = 0
    case neg =>
      have h1' : (EFA != 0) = true := by simpa using h1
      have HR2 := Hid.mk' (HR3.out.trans ((if_neg (by decide)).trans (if_pos ⟨rfl, h1⟩)))
      clear h1
      go_enter Tryz.func95, Tryz.ntmps95
      go_wp2_with (first
        | (go_at_call 107; refine (HAL.out _).mono ?_; rintro e w1 ⟨rfl, rfl⟩)
        | (go_at_call 108; refine (HOK.out _ (by exact eX)).mono ?_; rintro e w2 ⟨rfl, hb2⟩; have hE2 : Ext (w.alloc (.cells #[.int .u32 oid, .int .u32 ver, .string nm, .int .u8 id, .slice a2 cols.length cap2] 99)) w2 := (by exact eX); have g2 := ((Blk.new w #[.int .u32 oid, .int .u32 ver, .string nm, .int .u8 id, .slice a2 cols.length cap2] 99).ext hE2).cell; clear hb2)
        | (go_at_call 110; refine (HFA.out _ (by exact eX)).mono ?_; rintro e w5 ⟨rfl, hb5⟩; have hE5 : Ext (w.alloc (.cells #[.int .u32 oid, .int .u32 ver, .string nm, .int .u8 id, .slice a2 cols.length cap2] 99)) w5 := (by exact eX); have g5 := ((Blk.new w #[.int .u32 oid, .int .u32 ver, .string nm, .int .u8 id, .slice a2 cols.length cap2] 99).ext hE5).cell; clear hb5))
      go_ret
      exact ⟨ret_int HR2.out.symm, by exact eX⟩
    subst h1
    have HR4 := Hid.mk' (HR3.out.trans ((if_neg (by decide)).trans ((if_neg (by simp)).trans (if_neg (by simp)))))
    clear HR3
    have HR2 := Hid.mk' (HR4.out.trans (if_neg (by simp)))
    clear HR4
    go_enter Tryz.func95, Tryz.ntmps95
    go_wp2_with (first
      | (go_at_call 107; refine (HAL.out _).mono ?_; rintro e w1 ⟨rfl, rfl⟩)
      | (go_at_call 108; refine (HOK.out _ (by exact eX)).mono ?_; rintro e w2 ⟨rfl, hb2⟩; have hE2 : Ext (w.alloc (.cells #[.int .u32 oid, .int .u32 ver, .string nm, .int .u8 id, .slice a2 cols.length cap2] 99)) w2 := (by exact eX); have g2 := ((Blk.new w #[.int .u32 oid, .int .u32 ver, .string nm, .int .u8 id, .slice a2 cols.length cap2] 99).ext hE2).cell; clear hb2)
      | (go_at_call 110; refine (HFA.out _ (by exact eX)).mono ?_; rintro e w5 ⟨rfl, hb5⟩; have hE5 : Ext (w.alloc (.cells #[.int .u32 oid, .int .u32 ver, .string nm, .int .u8 id, .slice a2 cols.length cap2] 99)) w5 := (by exact eX); have g5 := ((Blk.new w #[.int .u32 oid, .int .u32 ver, .string nm, .int .u8 id, .slice a2 cols.length cap2] 99).ext hE5).cell; clear hb5))
    go_ret
    exact ⟨ret_int HR2.out.symm, by exact eX⟩
  · have e0 : (id == 0) = false := by simp; omega
    have n0 : (id != 0) = true := by simp; omega
    have f0 : ((0 : Int) == id) = false := by simp; omega
    have m0 : ((0 : Int) != id) = true := by simp; omega
    have e1 : (id == 1) = true := by simp; omega
    have n1 : (id != 1) = false := by simp; omega
    have f1 : ((1 : Int) == id) = true := by simp; omega
    have m1 : ((1 : Int) != id) = false := by simp; omega
    have e2 : (id == 2) = false := by simp; omega
    have n2 : (id != 2) = true := by simp; omega
    have f2 : ((2 : Int) == id) = false := by simp; omega
    have m2 : ((2 : Int) != id) = true := by simp; omega
    have hA : allowB id 4 0 = true := by rw [hi]; decide
    clear hi
    rw [hA] at HAL
    by_cases hlb0 : 0 < lb.length
    · have HR2 := Hid.mk' (HRo.out.trans (if_pos ⟨rfl, hlb0⟩))
      clear HRo hA
      go_enter Tryz.func95, Tryz.ntmps95
      go_wp2_with (first
        | (go_at_call 107; refine (HAL.out _).mono ?_; rintro e w1 ⟨rfl, rfl⟩))
      go_ret
      exact ⟨ret_int HR2.out.symm, by exact eX⟩
    have hlb1 : lb.length = 0 := by omega
    have hlb2 : ¬ ((0 : Nat) < lb.length) := by omega
    have HR1 := Hid.mk' (HRo.out.trans (if_neg (fun h => hlb2 h.2)))
    clear HRo hlb0 hlb1
    have HR1b := Hid.mk' (HR1.out.trans ((if_neg (by rintro ⟨h, _⟩; revert h; decide)).trans (if_neg (by rw [hA]; simp))))
    clear HR1 hA
    have HR3 := Hid.mk' (HR1b.out.trans ((if_neg (by simp)).trans (if_neg (by simp))))
    clear HR1b
    by_cases h1 : EFA = 0
    case neg =>
      have h1' : (EFA != 0) = true := by simpa using h1
      have HR2 := Hid.mk' (HR3.out.trans ((if_neg (by decide)).trans (if_pos ⟨rfl, h1⟩)))
      clear h1
      go_enter Tryz.func95, Tryz.ntmps95
      go_wp2_with (first
        | (go_at_call 107; refine (HAL.out _).mono ?_; rintro e w1 ⟨rfl, rfl⟩)
        | (go_at_call 108; refine (HOK.out _ (by exact eX)).mono ?_; rintro e w2 ⟨rfl, hb2⟩; have hE2 : Ext (w.alloc (.cells #[.int .u32 oid, .int .u32 ver, .string nm, .int .u8 id, .slice a2 cols.length cap2] 99)) w2 := (by exact eX); have g2 := ((Blk.new w #[.int .u32 oid, .int .u32 ver, .string nm, .int .u8 id, .slice a2 cols.length cap2] 99).ext hE2).cell; clear hb2)
        | (go_at_call 110; refine (HFA.out _ (by exact eX)).mono ?_; rintro e w5 ⟨rfl, hb5⟩; have hE5 : Ext (w.alloc (.cells #[.int .u32 oid, .int .u32 ver, .string nm, .int .u8 id, .slice a2 cols.length cap2] 99)) w5 := (by exact eX); have g5 := ((Blk.new w #[.int .u32 oid, .int .u32 ver, .string nm, .int .u8 id, .slice a2 cols.length cap2] 99).ext hE5).cell; clear hb5))
      go_ret
      exact ⟨ret_int HR2.out.symm, by exact eX⟩
    subst h1
    have HR4 := Hid.mk' (HR3.out.trans ((if_neg (by decide)).trans ((if_neg (by simp)).trans (if_neg (by simp)))))
    clear HR3
    have HR2 := Hid.mk' (HR4.out.trans (if_neg (by simp)))
    clear HR4
    go_enter Tryz.func95, Tryz.ntmps95
    go_wp2_with (first
      | (go_at_call 107; refine (HAL.out _).mono ?_; rintro e w1 ⟨rfl, rfl⟩)
      | (go_at_call 108; refine (HOK.out _ (by exact eX)).mono ?_; rintro e w2 ⟨rfl, hb2⟩; have hE2 : Ext (w.alloc (.cells #[.int .u32 oid, .int .u32 ver, .string nm, .int .u8 id, .slice a2 cols.length cap2] 99)) w2 := (by exact eX); have g2 := ((Blk.new w #[.int .u32 oid, .int .u32 ver, .string nm, .int .u8 id, .slice a2 cols.length cap2] 99).ext hE2).cell; clear hb2)
      | (go_at_call 110; refine (HFA.out _ (by exact eX)).mono ?_; rintro e w5 ⟨rfl, hb5⟩; have hE5 : Ext (w.alloc (.cells #[.int .u32 oid, .int .u32 ver, .string nm, .int .u8 id, .slice a2 cols.length cap2] 99)) w5 := (by exact eX); have g5 := ((Blk.new w #[.int .u32 oid, .int .u32 ver, .string nm, .int .u8 id, .slice a2 cols.length cap2] 99).ext hE5).cell; clear hb5))
    go_ret
    exact ⟨ret_int HR2.out.symm, by exact eX⟩
  · have e0 : (id == 0) = false := by simp; omega
    have n0 : (id != 0) = true := by simp; omega
    have f0 : ((0 : Int) == id) = false := by simp; omega
    have m0 : ((0 : Int) != id) = true := by simp; omega
    have e1 : (id == 1) = false := by simp; omega
    have n1 : (id != 1) = true := by simp; omega
    have f1 : ((1 : Int) == id) = false := by simp; omega
    have m1 : ((1 : Int) != id) = true := by simp; omega
    have e2 : (id == 2) = true := by simp; omega
    have n2 : (id != 2) = false := by simp; omega
    have f2 : ((2 : Int) == id) = true := by simp; omega
    have m2 : ((2 : Int) != id) = false := by simp; omega
    have hA : allowB id 4 0 = true := by rw [hi]; decide
    clear hi
    rw [hA] at HAL
    by_cases hlb0 : 0 < lb.length
    · have HR2 := Hid.mk' (HRo.out.trans (if_pos ⟨rfl, hlb0⟩))
      clear HRo hA
      go_enter Tryz.func95, Tryz.ntmps95
      go_wp2_with (first
        | (go_at_call 107; refine (HAL.out _).mono ?_; rintro e w1 ⟨rfl, rfl⟩))
      go_ret
      exact ⟨ret_int HR2.out.symm, by exact eX⟩
    have hlb1 : lb.length = 0 := by omega
    have hlb2 : ¬ ((0 : Nat) < lb.length) := by omega
    have HR1 := Hid.mk' (HRo.out.trans (if_neg (fun h => hlb2 h.2)))
    clear HRo hlb0 hlb1
    have HR1b := Hid.mk' (HR1.out.trans ((if_neg (by rintro ⟨h, _⟩; revert h; decide)).trans (if_neg (by rw [hA]; simp))))
    clear HR1 hA
    have HR3 := Hid.mk' (HR1b.out.trans ((if_neg (by simp)).trans (if_neg (by simp))))
    clear HR1b
    by_cases h1 : EFA = 0
    case neg =>
      have h1' : (EFA != 0) = true := by simpa using h1
      have HR2 := Hid.mk' (HR3.out.trans ((if_neg (by decide)).trans (if_pos ⟨rfl, h1⟩)))
      clear h1
      go_enter Tryz.func95, Tryz.ntmps95
      go_wp2_with (first
        | (go_at_call 107; refine (HAL.out _).mono ?_; rintro e w1 ⟨rfl, rfl⟩)
        | (go_at_call 108; refine (HOK.out _ (by exact eX)).mono ?_; rintro e w2 ⟨rfl, hb2⟩; have hE2 : Ext (w.alloc (.cells #[.int .u32 oid, .int .u32 ver, .string nm, .int .u8 id, .slice a2 cols.length cap2] 99)) w2 := (by exact eX); have g2 := ((Blk.new w #[.int .u32 oid, .int .u32 ver, .string nm, .int .u8 id, .slice a2 cols.length cap2] 99).ext hE2).cell; clear hb2)
        | (go_at_call 110; refine (HFA.out _ (by exact eX)).mono ?_; rintro e w5 ⟨rfl, hb5⟩; have hE5 : Ext (w.alloc (.cells #[.int .u32 oid, .int .u32 ver, .string nm, .int .u8 id, .slice a2 cols.length cap2] 99)) w5 := (by exact eX); have g5 := ((Blk.new w #[.int .u32 oid, .int .u32 ver, .string nm, .int .u8 id, .slice a2 cols.length cap2] 99).ext hE5).cell; clear hb5))
      go_ret
      exact ⟨ret_int HR2.out.symm, by exact eX⟩
    subst h1
    have HR4 := Hid.mk' (HR3.out.trans ((if_neg (by decide)).trans ((if_neg (by simp)).trans (if_neg (by simp)))))
    clear HR3
    have HR2 := Hid.mk' (HR4.out.trans (if_neg (by simp)))
    clear HR4
    go_enter Tryz.func95, Tryz.ntmps95
    go_wp2_with (first
      | (go_at_call 107; refine (HAL.out _).mono ?_; rintro e w1 ⟨rfl, rfl⟩)
      | (go_at_call 108; refine (HOK.out _ (by exact eX)).mono ?_; rintro e w2 ⟨rfl, hb2⟩; have hE2 : Ext (w.alloc (.cells #[.int .u32 oid, .int .u32 ver, .string nm, .int .u8 id, .slice a2 cols.length cap2] 99)) w2 := (by exact eX); have g2 := ((Blk.new w #[.int .u32 oid, .int .u32 ver, .string nm, .int .u8 id, .slice a2 cols.length cap2] 99).ext hE2).cell; clear hb2)
      | (go_at_call 110; refine (HFA.out _ (by exact eX)).mono ?_; rintro e w5 ⟨rfl, hb5⟩; have hE5 : Ext (w.alloc (.cells #[.int .u32 oid, .int .u32 ver, .string nm, .int .u8 id, .slice a2 cols.length cap2] 99)) w5 := (by exact eX); have g5 := ((Blk.new w #[.int .u32 oid, .int .u32 ver, .string nm, .int .u8 id, .slice a2 cols.length cap2] 99).ext hE5).cell; clear hb5))
    go_ret
    exact ⟨ret_int HR2.out.symm, by exact eX⟩
  · have e0 : (id == 0) = false := by simp; omega
    have n0 : (id != 0) = true := by simp; omega
    have f0 : ((0 : Int) == id) = false := by simp; omega
    have m0 : ((0 : Int) != id) = true := by simp; omega
    have e1 : (id == 1) = false := by simp; omega
    have n1 : (id != 1) = true := by simp; omega
    have f1 : ((1 : Int) == id) = false := by simp; omega
    have m1 : ((1 : Int) != id) = true := by simp; omega
    have e2 : (id == 2) = false := by simp; omega
    have n2 : (id != 2) = true := by simp; omega
    have f2 : ((2 : Int) == id) = false := by simp; omega
    have m2 : ((2 : Int) != id) = true := by simp; omega
    have hA : allowB id 4 0 = true := by unfold allowB; simp <;> omega
    clear hi
    rw [hA] at HAL
    by_cases hlb0 : 0 < lb.length
    · have HR2 := Hid.mk' (HRo.out.trans (if_pos ⟨rfl, hlb0⟩))
      clear HRo hA
      go_enter Tryz.func95, Tryz.ntmps95
      go_wp2_with (first
        | (go_at_call 107; refine (HAL.out _).mono ?_; rintro e w1 ⟨rfl, rfl⟩))
      go_ret
      exact ⟨ret_int HR2.out.symm, by exact eX⟩
    have hlb1 : lb.length = 0 := by omega
    have hlb2 : ¬ ((0 : Nat) < lb.length) := by omega
    have HR1 := Hid.mk' (HRo.out.trans (if_neg (fun h => hlb2 h.2)))
    clear HRo hlb0 hlb1
    have HR1b := Hid.mk' (HR1.out.trans ((if_neg (by rintro ⟨h, _⟩; revert h; decide)).trans (if_neg (by rw [hA]; simp))))
    clear HR1 hA
    have HR3 := Hid.mk' (HR1b.out.trans ((if_neg (by simp)).trans (if_neg (by simp))))
    clear HR1b
    by_cases h1 : EFA = 0
    case neg =>
      have h1' : (EFA != 0) = true := by simpa using h1
      have HR2 := Hid.mk' (HR3.out.trans ((if_neg (by decide)).trans (if_pos ⟨rfl, h1⟩)))
      clear h1
      go_enter Tryz.func95, Tryz.ntmps95
      go_wp2_with (first
        | (go_at_call 107; refine (HAL.out _).mono ?_; rintro e w1 ⟨rfl, rfl⟩)
        | (go_at_call 108; refine (HOK.out _ (by exact eX)).mono ?_; rintro e w2 ⟨rfl, hb2⟩; have hE2 : Ext (w.alloc (.cells #[.int .u32 oid, .int .u32 ver, .string nm, .int .u8 id, .slice a2 cols.length cap2] 99)) w2 := (by exact eX); have g2 := ((Blk.new w #[.int .u32 oid, .int .u32 ver, .string nm, .int .u8 id, .slice a2 cols.length cap2] 99).ext hE2).cell; clear hb2)
        | (go_at_call 110; refine (HFA.out _ (by exact eX)).mono ?_; rintro e w5 ⟨rfl, hb5⟩; have hE5 : Ext (w.alloc (.cells #[.int .u32 oid, .int .u32 ver, .string nm, .int .u8 id, .slice a2 cols.length cap2] 99)) w5 := (by exact eX); have g5 := ((Blk.new w #[.int .u32 oid, .int .u32 ver, .string nm, .int .u8 id, .slice a2 cols.length cap2] 99).ext hE5).cell; clear hb5))
      go_ret
      exact ⟨ret_int HR2.out.symm, by exact eX⟩
    subst h1
    have HR4 := Hid.mk' (HR3.out.trans ((if_neg (by decide)).trans ((if_neg (by simp)).trans (if_neg (by simp)))))
    clear HR3
    have HR2 := Hid.mk' (HR4.out.trans (if_neg (by simp)))
    clear HR4
    go_enter Tryz.func95, Tryz.ntmps95
    go_wp2_with (first
      | (go_at_call 107; refine (HAL.out _).mono ?_; rintro e w1 ⟨rfl, rfl⟩)
      | (go_at_call 108; refine (HOK.out _ (by exact eX)).mono ?_; rintro e w2 ⟨rfl, hb2⟩; have hE2 : Ext (w.alloc (.cells #[.int .u32 oid, .int .u32 ver, .string nm, .int .u8 id, .slice a2 cols.length cap2] 99)) w2 := (by exact eX); have g2 := ((Blk.new w #[.int .u32 oid, .int .u32 ver, .string nm, .int .u8 id, .slice a2 cols.length cap2] 99).ext hE2).cell; clear hb2)
      | (go_at_call 110; refine (HFA.out _ (by exact eX)).mono ?_; rintro e w5 ⟨rfl, hb5⟩; have hE5 : Ext (w.alloc (.cells #[.int .u32 oid, .int .u32 ver, .string nm, .int .u8 id, .slice a2 cols.length cap2] 99)) w5 := (by exact eX); have g5 := ((Blk.new w #[.int .u32 oid, .int .u32 ver, .string nm, .int .u8 id, .slice a2 cols.length cap2] 99).ext hE5).cell; clear hb5))
    go_ret
    exact ⟨ret_int HR2.out.symm, by exact eX⟩
  · have e0 : (id == 0) = true := by simp; omega
    have n0 : (id != 0) = false := by simp; omega
    have f0 : ((0 : Int) == id) = true := by simp; omega
    have m0 : ((0 : Int) != id) = false := by simp; omega
    have e1 : (id == 1) = false := by simp; omega
    have n1 : (id != 1) = true := by simp; omega
    have f1 : ((1 : Int) == id) = false := by simp; omega
    have m1 : ((1 : Int) != id) = true := by simp; omega
    have e2 : (id == 2) = false := by simp; omega
    have n2 : (id != 2) = true := by simp; omega
    have f2 : ((2 : Int) == id) = false := by simp; omega
    have m2 : ((2 : Int) != id) = true := by simp; omega
    have hA : allowB id 4 1 = false := by rw [hi]; decide
    clear hi
    rw [hA] at HAL
    have HR2 := Hid.mk' (HRo.out.trans (three14 hA))
    clear HRo hA
    go_enter Tryz.func95, Tryz.ntmps95
    go_wp2_with (first
      | (go_at_call 107; refine (HAL.out _).mono ?_; rintro e w1 ⟨rfl, rfl⟩))
    all_goals
      go_ret
      exact ⟨ret_int HR2.out.symm, by exact eX⟩
  · have e0 : (id == 0) = false := by simp; omega
    have n0 : (id != 0) = true := by simp; omega
    have f0 : ((0 : Int) == id) = false := by simp; omega
    have m0 : ((0 : Int) != id) = true := by simp; omega
    have e1 : (id == 1) = true := by simp; omega
    have n1 : (id != 1) = false := by simp; omega
    have f1 : ((1 : Int) == id) = true := by simp; omega
    have m1 : ((1 : Int) != id) = false := by simp; omega
    have e2 : (id == 2) = false := by simp; omega
    have n2 : (id != 2) = true := by simp; omega
    have f2 : ((2 : Int) == id) = false := by simp; omega
    have m2 : ((2 : Int) != id) = true := by simp; omega
    have hA : allowB id 4 1 = false := by rw [hi]; decide
    clear hi
    rw [hA] at HAL
    have HR2 := Hid.mk' (HRo.out.trans (three14 hA))
    clear HRo hA
    go_enter Tryz.func95, Tryz.ntmps95
    go_wp2_with (first
      | (go_at_call 107; refine (HAL.out _).mono ?_; rintro e w1 ⟨rfl, rfl⟩))
    all_goals
      go_ret
      exact ⟨ret_int HR2.out.symm, by exact eX⟩
  · have e0 : (id == 0) = false := by simp; omega
    have n0 : (id != 0) = true := by simp; omega
    have f0 : ((0 : Int) == id) = false := by simp; omega
    have m0 : ((0 : Int) != id) = true := by simp; omega
    have e1 : (id == 1) = false := by simp; omega
    have n1 : (id != 1) = true := by simp; omega
    have f1 : ((1 : Int) == id) = false := by simp; omega
    have m1 : ((1 : Int) != id) = true := by simp; omega
    have e2 : (id == 2) = true := by simp; omega
    have n2 : (id != 2) = false := by simp; omega
    have f2 : ((2 : Int) == id) = true := by simp; omega
    have m2 : ((2 : Int) != id) = false := by simp; omega
    have hA : allowB id 4 1 = false := by rw [hi]; decide
    clear hi
    rw [hA] at HAL
    have HR2 := Hid.mk' (HRo.out.trans (three14 hA))
    clear HRo hA
    go_enter Tryz.func95, Tryz.ntmps95
    go_wp2_with (first
      | (go_at_call 107; refine (HAL.out _).mono ?_; rintro e w1 ⟨rfl, rfl⟩))
    all_goals
      go_ret
      exact ⟨ret_int HR2.out.symm, by exact eX⟩
  · have e0 : (id == 0) = false := by simp; omega
    have n0 : (id != 0) = true := by simp; omega
    have f0 : ((0 : Int) == id) = false := by simp; omega
    have m0 : ((0 : Int) != id) = true := by simp; omega
    have e1 : (id == 1) = false := by simp; omega
    have n1 : (id != 1) = true := by simp; omega
    have f1 : ((1 : Int) == id) = false := by simp; omega
    have m1 : ((1 : Int) != id) = true := by simp; omega
    have e2 : (id == 2) = false := by simp; omega
    have n2 : (id != 2) = true := by simp; omega
    have f2 : ((2 : Int) == id) = false := by simp; omega
    have m2 : ((2 : Int) != id) = true := by simp; omega
    have hA : allowB id 4 1 = false := by unfold allowB; simp <;> omega
    clear hi
    rw [hA] at HAL
    have HR2 := Hid.mk' (HRo.out.trans (three14 hA))
    clear HRo hA
    go_enter Tryz.func95, Tryz.ntmps95
    go_wp2_with (first
      | (go_at_call 107; refine (HAL.out _).mono ?_; rintro e w1 ⟨rfl, rfl⟩))
    all_goals
      go_ret
      exact ⟨ret_int HR2.out.symm, by exact eX⟩
  · have e0 : (id == 0) = true := by simp; omega
    have n0 : (id != 0) = false := by simp; omega
    have f0 : ((0 : Int) == id) = true := by simp; omega
    have m0 : ((0 : Int) != id) = false := by simp; omega
    have e1 : (id == 1) = false := by simp; omega
    have n1 : (id != 1) = true := by simp; omega
    have f1 : ((1 : Int) == id) = false := by simp; omega
    have m1 : ((1 : Int) != id) = true := by simp; omega
    have e2 : (id == 2) = false := by simp; omega
    have n2 : (id != 2) = true := by simp; omega
    have f2 : ((2 : Int) == id) = false := by simp; omega
    have m2 : ((2 : Int) != id) = true := by simp; omega
    have hA : allowB id 4 2 = false := by rw [hi]; decide
    clear hi
    rw [hA] at HAL
    have HR2 := Hid.mk' (HRo.out.trans (three14 hA))
    clear HRo hA
    go_enter Tryz.func95, Tryz.ntmps95
    go_wp2_with (first
      | (go_at_call 107; refine (HAL.out _).mono ?_; rintro e w1 ⟨rfl, rfl⟩))
    all_goals
      go_ret
      exact ⟨ret_int HR2.out.symm, by exact eX⟩
  · have e0 : (id == 0) = false := by simp; omega
    have n0 : (id != 0) = true := by simp; omega
    have f0 : ((0 : Int) == id) = false := by simp; omega
    have m0 : ((0 : Int) != id) = true := by simp; omega
    have e1 : (id == 1) = true := by simp; omega
    have n1 : (id != 1) = false := by simp; omega
    have f1 : ((1 : Int) == id) = true := by simp; omega
    have m1 : ((1 : Int) != id) = false := by simp; omega
    have e2 : (id == 2) = false := by simp; omega
    have n2 : (id != 2) = true := by simp; omega
    have f2 : ((2 : Int) == id) = false := by simp; omega
    have m2 : ((2 : Int) != id) = true := by simp; omega
    have hA : allowB id 4 2 = false := by rw [hi]; decide
    clear hi
    rw [hA] at HAL
    have HR2 := Hid.mk' (HRo.out.trans (three14 hA))
    clear HRo hA
    go_enter Tryz.func95, Tryz.ntmps95
    go_wp2_with (first
      | (go_at_call 107; refine (HAL.out _).mono ?_; rintro e w1 ⟨rfl, rfl⟩))
    all_goals
      go_ret
      exact ⟨ret_int HR2.out.symm, by exact eX⟩
  · have e0 : (id == 0) = false := by simp; omega
    have n0 : (id != 0) = true := by simp; omega
    have f0 : ((0 : Int) == id) = false := by simp; omega
    have m0 : ((0 : Int) != id) = true := by simp; omega
    have e1 : (id == 1) = false := by simp; omega
    have n1 : (id != 1) = true := by simp; omega
    have f1 : ((1 : Int) == id) = false := by simp; omega
    have m1 : ((1 : Int) != id) = true := by simp; omega
    have e2 : (id == 2) = true := by simp; omega
    have n2 : (id != 2) = false := by simp; omega
    have f2 : ((2 : Int) == id) = true := by simp; omega
    have m2 : ((2 : Int) != id) = false := by simp; omega
    have hA : allowB id 4 2 = false := by rw [hi]; decide
    clear hi
    rw [hA] at HAL
    have HR2 := Hid.mk' (HRo.out.trans (three14 hA))
    clear HRo hA
    go_enter Tryz.func95, Tryz.ntmps95
    go_wp2_with (first
      | (go_at_call 107; refine (HAL.out _).mono ?_; rintro e w1 ⟨rfl, rfl⟩))
    all_goals
      go_ret
      exact ⟨ret_int HR2.out.symm, by exact eX⟩
  · have e0 : (id == 0) = false := by simp; omega
    have n0 : (id != 0) = true := by simp; omega
    have f0 : ((0 : Int) == id) = false := by simp; omega
    have m0 : ((0 : Int) != id) = true := by simp; omega
    have e1 : (id == 1) = false := by simp; omega
    have n1 : (id != 1) = true := by simp; omega
    have f1 : ((1 : Int) == id) = false := by simp; omega
    have m1 : ((1 : Int) != id) = true := by simp; omega
    have e2 : (id == 2) = false := by simp; omega
    have n2 : (id != 2) = true := by simp; omega
    have f2 : ((2 : Int) == id) = false := by simp; omega
    have m2 : ((2 : Int) != id) = true := by simp; omega
    have hA : allowB id 4 2 = false := by unfold allowB; simp <;> omega
    clear hi
    rw [hA] at HAL
    have HR2 := Hid.mk' (HRo.out.trans (three14 hA))
    clear HRo hA
    go_enter Tryz.func95, Tryz.ntmps95
    go_wp2_with (first
      | (go_at_call 107; refine (HAL.out _).mono ?_; rintro e w1 ⟨rfl, rfl⟩))
    all_goals
      go_ret
      exact ⟨ret_int HR2.out.symm, by exact eX⟩
  · have e0 : (id == 0) = true := by simp; omega
    have n0 : (id != 0) = false := by simp; omega
    have f0 : ((0 : Int) == id) = true := by simp; omega
    have m0 : ((0 : Int) != id) = false := by simp; omega
    have e1 : (id == 1) = false := by simp; omega
    have n1 : (id != 1) = true := by simp; omega
    have f1 : ((1 : Int) == id) = false := by simp; omega
    have m1 : ((1 : Int) != id) = true := by simp; omega
    have e2 : (id == 2) = false := by simp; omega
    have n2 : (id != 2) = true := by simp; omega
    have f2 : ((2 : Int) == id) = false := by simp; omega
    have m2 : ((2 : Int) != id) = true := by simp; omega
    have hA : allowB id 5 0 = true := by rw [hi]; decide
    clear hi
    rw [hA] at HAL
    by_cases hlb0 : 0 < lb.length
    · have HR2 := Hid.mk' (HRo.out.trans (if_pos ⟨rfl, hlb0⟩))
      clear HRo hA
      go_enter Tryz.func95, Tryz.ntmps95
      go_wp2_with (first
        | (go_at_call 107; refine (HAL.out _).mono ?_; rintro e w1 ⟨rfl, rfl⟩))
      go_ret
      exact ⟨ret_int HR2.out.symm, by exact eX⟩
    have hlb1 : lb.length = 0 := by omega
    have hlb2 : ¬ ((0 : Nat) < lb.length) := by omega
    have HR1 := Hid.mk' (HRo.out.trans (if_neg (fun h => hlb2 h.2)))
    clear HRo hlb0 hlb1
    have HR1b := Hid.mk' (HR1.out.trans ((if_neg (by rintro ⟨h, _⟩; revert h; decide)).trans (if_neg (by rw [hA]; simp))))
    clear HR1 hA
    have HR3 := Hid.mk' (HR1b.out.trans ((if_neg (by simp)).trans (if_neg (by simp))))
    clear HR1b
    by_cases h1 : EDA = 0
    case neg =>
      have h1' : (EDA != 0) = true := by simpa using h1
      have HR2 := Hid.mk' (HR3.out.trans ((if_neg (by decide)).trans ((if_neg (by rintro ⟨h, _⟩; revert h; decide)).trans (if_pos ⟨by decide, h1⟩))))
      clear h1
      go_enter Tryz.func95, Tryz.ntmps95
      go_wp2_with (first
        | (go_at_call 107; refine (HAL.out _).mono ?_; rintro e w1 ⟨rfl, rfl⟩)
        | (go_at_call 108; refine (HOK.out _ (by exact eX)).mono ?_; rintro e w2 ⟨rfl, hb2⟩; have hE2 : Ext (w.alloc (.cells #[.int .u32 oid, .int .u32 ver, .string nm, .int .u8 id, .slice a2 cols.length cap2] 99)) w2 := (by exact eX); have g2 := ((Blk.new w #[.int .u32 oid, .int .u32 ver, .string nm, .int .u8 id, .slice a2 cols.length cap2] 99).ext hE2).cell; clear hb2)
        | (go_at_call 111; refine (HDA.out _ (by exact eX)).mono ?_; rintro e w6 ⟨rfl, hb6⟩; have hE6 : Ext (w.alloc (.cells #[.int .u32 oid, .int .u32 ver, .string nm, .int .u8 id, .slice a2 cols.length cap2] 99)) w6 := (by exact eX); have g6 := ((Blk.new w #[.int .u32 oid, .int .u32 ver, .string nm, .int .u8 id, .slice a2 cols.length cap2] 99).ext hE6).cell; clear hb6))
      go_ret
      exact ⟨ret_int HR2.out.symm, by exact eX⟩
    subst h1
    have HR4 := Hid.mk' (HR3.out.trans ((if_neg (by decide)).trans ((if_neg (by simp)).trans (if_neg (by simp)))))
    clear HR3
    have HR2 := Hid.mk' (HR4.out.trans (if_neg (by simp)))
    clear HR4
    go_enter Tryz.func95, Tryz.ntmps95
    go_wp2_with (first
      | (go_at_call 107; refine (HAL.out _).mono ?_; rintro e w1 ⟨rfl, rfl⟩)
      | (go_at_call 108; refine (HOK.out _ (by exact eX)).mono ?_; rintro e w2 ⟨rfl, hb2⟩; have hE2 : Ext (w.alloc (.cells #[.int .u32 oid, .int .u32 ver, .string nm, .int .u8 id, .slice a2 cols.length cap2] 99)) w2 := (by exact eX); have g2 := ((Blk.new w #[.int .u32 oid, .int .u32 ver, .string nm, .int .u8 id, .slice a2 cols.length cap2] 99).ext hE2).cell; clear hb2)
      | (go_at_call 111; refine (HDA.out _ (by exact eX)).mono ?_; rintro e w6 ⟨rfl, hb6⟩; have hE6 : Ext (w.alloc (.cells #[.int .u32 oid, .int .u32 ver, .string nm, .int .u8 id, .slice a2 cols.length cap2] 99)) w6 := (by exact eX); have g6 := ((Blk.new w #[.int .u32 oid, .int .u32 ver, .string nm, .int .u8 id, .slice a2 cols.length cap2] 99).ext hE6).cell; clear hb6))
    go_ret
    exact ⟨ret_int HR2.out.symm, by exact eX⟩
  · have e0 : (id == 0) = false := by simp; omega
    have n0 : (id != 0) = true := by simp; omega
    have f0 : ((0 : Int) == id) = false := by simp; omega
    have m0 : ((0 : Int) != id) = true := by simp; omega
    have e1 : (id == 1) = true := by simp; omega
    have n1 : (id != 1) = false := by simp; omega
    have f1 : ((1 : Int) == id) = true := by simp; omega
    have m1 : ((1 : Int) != id) = false := by simp; omega
    have e2 : (id == 2) = false := by simp; omega
    have n2 : (id != 2) = true := by simp; omega
    have f2 : ((2 : Int) == id) = false := by simp; omega
    have m2 : ((2 : Int) != id) = true := by simp; omega
    have hA : allowB id 5 0 = true := by rw [hi]; decide
    clear hi
    rw [hA] at HAL
    by_cases hlb0 : 0 < lb.length
    · have HR2 := Hid.mk' (HRo.out.trans (if_pos ⟨rfl, hlb0⟩))
      clear HRo hA
      go_enter Tryz.func95, Tryz.ntmps95
      go_wp2_with (first
        | (go_at_call 107; refine (HAL.out _).mono ?_; rintro e w1 ⟨rfl, rfl⟩))
      go_ret
      exact ⟨ret_int HR2.out.symm, by exact eX⟩
    have hlb1 : lb.length = 0 := by omega
    have hlb2 : ¬ ((0 : Nat) < lb.length) := by omega
    have HR1 := Hid.mk' (HRo.out.trans (if_neg (fun h => hlb2 h.2)))
    clear HRo hlb0 hlb1
    have HR1b := Hid.mk' (HR1.out.trans ((if_neg (by rintro ⟨h, _⟩; revert h; decide)).trans (if_neg (by rw [hA]; simp))))
    clear HR1 hA
    have HR3 := Hid.mk' (HR1b.out.trans ((if_neg (by simp)).trans (if_neg (by simp))))
    clear HR1b
    by_cases h1 : EDA = 0
    case neg =>
      have h1' : (EDA != 0) = true := by simpa using h1
      have HR2 := Hid.mk' (HR3.out.trans ((if_neg (by decide)).trans ((if_neg (by rintro ⟨h, _⟩; revert h; decide)).trans (if_pos ⟨by decide, h1⟩))))
      clear h1
      go_enter Tryz.func95, Tryz.ntmps95
      go_wp2_with (first
        | (go_at_call 107; refine (HAL.out _).mono ?_; rintro e w1 ⟨rfl, rfl⟩)
        | (go_at_call 108; refine (HOK.out _ (by exact eX)).mono ?_; rintro e w2 ⟨rfl, hb2⟩; have hE2 : Ext (w.alloc (.cells #[.int .u32 oid, .int .u32 ver, .string nm, .int .u8 id, .slice a2 cols.length cap2] 99)) w2 := (by exact eX); have g2 := ((Blk.new w #[.int .u32 oid, .int .u32 ver, .string nm, .int .u8 id, .slice a2 cols.length cap2] 99).ext hE2).cell; clear hb2)
        | (go_at_call 111; refine (HDA.out _ (by exact eX)).mono ?_; rintro e w6 ⟨rfl, hb6⟩; have hE6 : Ext (w.alloc (.cells #[.int .u32 oid, .int .u32 ver, .string nm, .int .u8 id, .slice a2 cols.length cap2] 99)) w6 := (by exact eX); have g6 := ((Blk.new w #[.int .u32 oid, .int .u32 ver, .string nm, .int .u8 id, .slice a2 cols.length cap2] 99).ext hE6).cell; clear hb6))
      go_ret
      exact ⟨ret_int HR2.out.symm, by exact eX⟩
    subst h1
    have HR4 := Hid.mk' (HR3.out.trans ((if_neg (by decide)).trans ((if_neg (by simp)).trans (if_neg (by simp)))))
    clear HR3
    have HR2 := Hid.mk' (HR4.out.trans (if_neg (by simp)))
    clear HR4
    go_enter Tryz.func95, Tryz.ntmps95
    go_wp2_with (first
      | (go_at_call 107; refine (HAL.out _).mono ?_; rintro e w1 ⟨rfl, rfl⟩)
      | (go_at_call 108; refine (HOK.out _ (by exact eX)).mono ?_; rintro e w2 ⟨rfl, hb2⟩; have hE2 : Ext (w.alloc (.cells #[.int .u32 oid, .int .u32 ver, .string nm, .int .u8 id, .slice a2 cols.length cap2] 99)) w2 := (by exact eX); have g2 := ((Blk.new w #[.int .u32 oid, .int .u32 ver, .string nm, .int .u8 id, .slice a2 cols.length cap2] 99).ext hE2).cell; clear hb2)
      | (go_at_call 111; refine (HDA.out _ (by exact eX)).mono ?_; rintro e w6 ⟨rfl, hb6⟩; have hE6 : Ext (w.alloc (.cells #[.int .u32 oid, .int .u32 ver, .string nm, .int .u8 id, .slice a2 cols.length cap2] 99)) w6 := (by exact eX); have g6 := ((Blk.new w #[.int .u32 oid, .int .u32 ver, .string nm, .int .u8 id, .slice a2 cols.length cap2] 99).ext hE6).cell; clear hb6))
    go_ret
    exact ⟨ret_int HR2.out.symm, by exact eX⟩
  · have e0 : (id == 0) = false := by simp; omega
    have n0 : (id != 0) = true := by simp; omega
    have f0 : ((0 : Int) == id) = false := by simp; omega
    have m0 : ((0 : Int) != id) = true := by simp; omega
    have e1 : (id == 1) = false := by simp; omega
    have n1 : (id != 1) = true := by simp; omega
    have f1 : ((1 : Int) == id) = false := by simp; omega
    have m1 : ((1 : Int) != id) = true := by simp; omega
    have e2 : (id == 2) = true := by simp; omega
    have n2 : (id != 2) = false := by simp; omega
    have f2 : ((2 : Int) == id) = true := by simp; omega
    have m2 : ((2 : Int) != id) = false := by simp; omega
    have hA : allowB id 5 0 = false := by rw [hi]; decide
    clear hi
    rw [hA] at HAL
    have HR2 := Hid.mk' (HRo.out.trans (three14 hA))
    clear HRo hA
    go_enter Tryz.func95, Tryz.ntmps95
    go_wp2_with (first
      | (go_at_call 107; refine (HAL.out _).mono ?_; rintro e w1 ⟨rfl, rfl⟩))
    all_goals
      go_ret
      exact ⟨ret_int HR2.out.symm, by exact eX⟩
  · have e0 : (id == 0) = false := by simp; omega
    have n0 : (id != 0) = true := by simp; omega
    have f0 : ((0 : Int) == id) = false := by simp; omega
    have m0 : ((0 : Int) != id) = true := by simp; omega
    have e1 : (id == 1) = false := by simp; omega
    have n1 : (id != 1) = true := by simp; omega
    have f1 : ((1 : Int) == id) = false := by simp; omega
    have m1 : ((1 : Int) != id) = true := by simp; omega
    have e2 : (id == 2) = false := by simp; omega
    have n2 : (id != 2) = true := by simp; omega
    have f2 : ((2 : Int) == id) = false := by simp; omega
    have m2 : ((2 : Int) != id) = true := by simp; omega
    have hA : allowB id 5 0 = false := by unfold allowB; simp <;> omega
    clear hi
    rw [hA] at HAL
    have HR2 := Hid.mk' (HRo.out.trans (three14 hA))
    clear HRo hA
    go_enter Tryz.func95, Tryz.ntmps95
    go_wp2_with (first
      | (go_at_call 107; refine (HAL.out _).mono ?_; rintro e w1 ⟨rfl, rfl⟩))
    all_goals
      go_ret
      exact ⟨ret_int HR2.out.symm, by exact eX⟩
  · have e0 : (id == 0) = true := by simp; omega
    have n0 : (id != 0) = false := by simp; omega
    have f0 : ((0 : Int) == id) = true := by simp; omega
    have m0 : ((0 : Int) != id) = false := by simp; omega
    have e1 : (id == 1) = false := by simp; omega
    have n1 : (id != 1) = true := by simp; omega
    have f1 : ((1 : Int) == id) = false := by simp; omega
    have m1 : ((1 : Int) != id) = true := by simp; omega
    have e2 : (id == 2) = false := by simp; omega
    have n2 : (id != 2) = true := by simp; omega
    have f2 : ((2 : Int) == id) = false := by simp; omega
    have m2 : ((2 : Int) != id) = true := by simp; omega
    have hA : allowB id 5 1 = false := by rw [hi]; decide
    clear hi
    rw [hA] at HAL
    have HR2 := Hid.mk' (HRo.out.trans (three14 hA))
    clear HRo hA
    go_enter Tryz.func95, Tryz.ntmps95
    go_wp2_with (first
      | (go_at_call 107; refine (HAL.out _).mono ?_; rintro e w1 ⟨rfl, rfl⟩))
    all_goals
      go_ret
      exact ⟨ret_int HR2.out.symm, by exact eX⟩
  · have e0 : (id == 0) = false := by simp; omega
    have n0 : (id != 0) = true := by simp; omega
    have f0 : ((0 : Int) == id) = false := by simp; omega
    have m0 : ((0 : Int) != id) = true := by simp; omega
    have e1 : (id == 1) = true := by simp; omega
    have n1 : (id != 1) = false := by simp; omega
    have f1 : ((1 : Int) == id) = true := by simp; omega
    have m1 : ((1 : Int) != id) = false := by simp; omega
    have e2 : (id == 2) = false := by simp; omega
    have n2 : (id != 2) = true := by simp; omega
    have f2 : ((2 : Int) == id) = false := by simp; omega
    have m2 : ((2 : Int) != id) = true := by simp; omega
    have hA : allowB id 5 1 = true := by rw [hi]; decide
    clear hi
    rw [hA] at HAL
    have HR1 := Hid.mk' (HRo.out.trans (if_neg (by rintro ⟨h, _⟩; revert h; decide)))
    clear HRo
    have HR1b := Hid.mk' (HR1.out.trans ((if_neg (by rintro ⟨h, _⟩; revert h; decide)).trans (if_neg (by rw [hA]; simp))))
    clear HR1 hA
    by_cases h0 : EKB = 0
    case neg =>
      have h0' : (EKB != 0) = true := by simpa using h0
      have HR2 := Hid.mk' (HR1b.out.trans (if_pos ⟨rfl, h0⟩))
      clear h0
      go_enter Tryz.func95, Tryz.ntmps95
      go_wp2_with (first
        | (go_at_call 107; refine (HAL.out _).mono ?_; rintro e w1 ⟨rfl, rfl⟩)
        | (go_at_call 109; refine (HKB.out _ (by exact eX)).mono ?_; rintro e w3 ⟨rfl, hb3⟩; have hE3 : Ext (w.alloc (.cells #[.int .u32 oid, .int .u32 ver, .string nm, .int .u8 id, .slice a2 cols.length cap2] 99)) w3 := (by exact eX); have g3 := ((Blk.new w #[.int .u32 oid, .int .u32 ver, .string nm, .int .u8 id, .slice a2 cols.length cap2] 99).ext hE3).cell; clear hb3))
      go_ret
      exact ⟨ret_int HR2.out.symm, by exact eX⟩
    subst h0
    have HR3 := Hid.mk' (HR1b.out.trans ((if_neg (by simp)).trans (if_neg (by simp))))
    clear HR1b
    by_cases h1 : EDA = 0
    case neg =>
      have h1' : (EDA != 0) = true := by simpa using h1
      have HR2 := Hid.mk' (HR3.out.trans ((if_neg (by decide)).trans ((if_neg (by rintro ⟨h, _⟩; revert h; decide)).trans (if_pos ⟨by decide, h1⟩))))
      clear h1
      go_enter Tryz.func95, Tryz.ntmps95
      go_wp2_with (first
        | (go_at_call 107; refine (HAL.out _).mono ?_; rintro e w1 ⟨rfl, rfl⟩)
        | (go_at_call 109; refine (HKB.out _ (by exact eX)).mono ?_; rintro e w3 ⟨rfl, hb3⟩; have hE3 : Ext (w.alloc (.cells #[.int .u32 oid, .int .u32 ver, .string nm, .int .u8 id, .slice a2 cols.length cap2] 99)) w3 := (by exact eX); have g3 := ((Blk.new w #[.int .u32 oid, .int .u32 ver, .string nm, .int .u8 id, .slice a2 cols.length cap2] 99).ext hE3).cell; clear hb3)
        | (go_at_call 111; refine (HDA.out _ (by exact eX)).mono ?_; rintro e w6 ⟨rfl, hb6⟩; have hE6 : Ext (w.alloc (.cells #[.int .u32 oid, .int .u32 ver, .string nm, .int .u8 id, .slice a2 cols.length cap2] 99)) w6 := (by exact eX); have g6 := ((Blk.new w #[.int .u32 oid, .int .u32 ver, .string nm, .int .u8 id, .slice a2 cols.length cap2] 99).ext hE6).cell; clear hb6))
      go_ret
      exact ⟨ret_int HR2.out.symm, by exact eX⟩
    subst h1
    have HR4 := Hid.mk' (HR3.out.trans ((if_neg (by decide)).trans ((if_neg (by simp)).trans (if_neg (by simp)))))
    clear HR3
    cases BAK
    all_goals
      have HR2 := Hid.mk' HR4.out
      go_enter Tryz.func95, Tryz.ntmps95
      go_wp2_with (first
        | (go_at_call 107; refine (HAL.out _).mono ?_; rintro e w1 ⟨rfl, rfl⟩)
        | (go_at_call 109; refine (HKB.out _ (by exact eX)).mono ?_; rintro e w3 ⟨rfl, hb3⟩; have hE3 : Ext (w.alloc (.cells #[.int .u32 oid, .int .u32 ver, .string nm, .int .u8 id, .slice a2 cols.length cap2] 99)) w3 := (by exact eX); have g3 := ((Blk.new w #[.int .u32 oid, .int .u32 ver, .string nm, .int .u8 id, .slice a2 cols.length cap2] 99).ext hE3).cell; clear hb3)
        | (go_at_call 111; refine (HDA.out _ (by exact eX)).mono ?_; rintro e w6 ⟨rfl, hb6⟩; have hE6 : Ext (w.alloc (.cells #[.int .u32 oid, .int .u32 ver, .string nm, .int .u8 id, .slice a2 cols.length cap2] 99)) w6 := (by exact eX); have g6 := ((Blk.new w #[.int .u32 oid, .int .u32 ver, .string nm, .int .u8 id, .slice a2 cols.length cap2] 99).ext hE6).cell; clear hb6)
        | (go_at_call 77; refine (HKO.out _ (by exact eX)).mono ?_; rintro e w7 ⟨g, c, rfl, hcc, hgg, hr7, hb7⟩; have HR7 := Hid.mk' hr7; have hE7 : Ext (w.alloc (.cells #[.int .u32 oid, .int .u32 ver, .string nm, .int .u8 id, .slice a2 cols.length cap2] 99)) w7 := (by exact eX); clear hr7 hcc hgg hb7)
        | (go_at_call 30; refine (HAK.out _ _ _ (by exact eX) HR7.out).mono ?_; rintro e w8 ⟨rfl, hb8⟩))
      go_ret
      exact ⟨ret_int (by rw [HR2.out]; simp), by exact eX⟩
  · have e0 : (id == 0) = false := by simp; omega
    have n0 : (id != 0) = true := by simp; omega
    have f0 : ((0 : Int) == id) = false := by simp; omega
    have m0 : ((0 : Int) != id) = true := by simp; omega
    have e1 : (id == 1) = false := by simp; omega
    have n1 : (id != 1) = true := by simp; omega
    have f1 : ((1 : Int) == id) = false := by simp; omega
    have m1 : ((1 : Int) != id) = true := by simp; omega
    have e2 : (id == 2) = true := by simp; omega
    have n2 : (id != 2) = false := by simp; omega
    have f2 : ((2 : Int) == id) = true := by simp; omega
    have m2 : ((2 : Int) != id) = false := by simp; omega
    have hA : allowB id 5 1 = false := by rw [hi]; decide
    clear hi
    rw [hA] at HAL
    have HR2 := Hid.mk' (HRo.out.trans (three14 hA))
    clear HRo hA
    go_enter Tryz.func95, Tryz.ntmps95
    go_wp2_with (first
      | (go_at_call 107; refine (HAL.out _).mono ?_; rintro e w1 ⟨rfl, rfl⟩))
    all_goals
      go_ret
      exact ⟨ret_int HR2.out.symm, by exact eX⟩
  · have e0 : (id == 0) = false := by simp; omega
    have n0 : (id != 0) = true := by simp; omega
    have f0 : ((0 : Int) == id) = false := by simp; omega
    have m0 : ((0 : Int) != id) = true := by simp; omega
    have e1 : (id == 1) = false := by simp; omega
    have n1 : (id != 1) = true := by simp; omega
    have f1 : ((1 : Int) == id) = false := by simp; omega
    have m1 : ((1 : Int) != id) = true := by simp; omega
    have e2 : (id == 2) = false := by simp; omega
    have n2 : (id != 2) = true := by simp; omega
    have f2 : ((2 : Int) == id) = false := by simp; omega
    have m2 : ((2 : Int) != id) = true := by simp; omega
    have hA : allowB id 5 1 = false := by unfold allowB; simp <;> omega
    clear hi
    rw [hA] at HAL
    have HR2 := Hid.mk' (HRo.out.trans (three14 hA))
    clear HRo hA
    go_enter Tryz.func95, Tryz.ntmps95
    go_wp2_with (first
      | (go_at_call 107; refine (HAL.out _).mono ?_; rintro e w1 ⟨rfl, rfl⟩))
    all_goals
      go_ret
      exact ⟨ret_int HR2.out.symm, by exact eX⟩
  · have e0 : (id == 0) = true := by simp; omega
    have n0 : (id != 0) = false := by simp; omega
    have f0 : ((0 : Int) == id) = true := by simp; omega
    have m0 : ((0 : Int) != id) = false := by simp; omega
    have e1 : (id == 1) = false := by simp; omega
    have n1 : (id != 1) = true := by simp; omega
    have f1 : ((1 : Int) == id) = false := by simp; omega
    have m1 : ((1 : Int) != id) = true := by simp; omega
    have e2 : (id == 2) = false := by simp; omega
    have n2 : (id != 2) = true := by simp; omega
    have f2 : ((2 : Int) == id) = false := by simp; omega
    have m2 : ((2 : Int) != id) = true := by simp; omega
    have hA : allowB id 5 2 = false := by rw [hi]; decide
    clear hi
    rw [hA] at HAL
    have HR2 := Hid.mk' (HRo.out.trans (three14 hA))
    clear HRo hA
    go_enter Tryz.func95, Tryz.ntmps95
    go_wp2_with (first
      | (go_at_call 107; refine (HAL.out _).mono ?_; rintro e w1 ⟨rfl, rfl⟩))
    all_goals
      go_ret
      exact ⟨ret_int HR2.out.symm, by exact eX⟩
  · have e0 : (id == 0) = false := by simp; omega
    have n0 : (id != 0) = true := by simp; omega
    have f0 : ((0 : Int) == id) = false := by simp; omega
    have m0 : ((0 : Int) != id) = true := by simp; omega
    have e1 : (id == 1) = true := by simp; omega
    have n1 : (id != 1) = false := by simp; omega
    have f1 : ((1 : Int) == id) = true := by simp; omega
    have m1 : ((1 : Int) != id) = false := by simp; omega
    have e2 : (id == 2) = false := by simp; omega
    have n2 : (id != 2) = true := by simp; omega
    have f2 : ((2 : Int) == id) = false := by simp; omega
    have m2 : ((2 : Int) != id) = true := by simp; omega
    have hA : allowB id 5 2 = false := by rw [hi]; decide
    clear hi
    rw [hA] at HAL
    have HR2 := Hid.mk' (HRo.out.trans (three14 hA))
    clear HRo hA
    go_enter Tryz.func95, Tryz.ntmps95
    go_wp2_with (first
      | (go_at_call 107; refine (HAL.out _).mono ?_; rintro e w1 ⟨rfl, rfl⟩))
    all_goals
      go_ret
      exact ⟨ret_int HR2.out.symm, by exact eX⟩
  · have e0 : (id == 0) = false := by simp; omega
    have n0 : (id != 0) = true := by simp; omega
    have f0 : ((0 : Int) == id) = false := by simp; omega
    have m0 : ((0 : Int) != id) = true := by simp; omega
    have e1 : (id == 1) = false := by simp; omega
    have n1 : (id != 1) = true := by simp; omega
    have f1 : ((1 : Int) == id) = false := by simp; omega
    have m1 : ((1 : Int) != id) = true := by simp; omega
    have e2 : (id == 2) = true := by simp; omega
    have n2 : (id != 2) = false := by simp; omega
    have f2 : ((2 : Int) == id) = true := by simp; omega
    have m2 : ((2 : Int) != id) = false := by simp; omega
    have hA : allowB id 5 2 = true := by rw [hi]; decide
    clear hi
    rw [hA] at HAL
    have HR1 := Hid.mk' (HRo.out.trans (if_neg (by rintro ⟨h, _⟩; revert h; decide)))
    clear HRo
    have HR1b := Hid.mk' (HR1.out.trans ((if_neg (by rintro ⟨h, _⟩; revert h; decide)).trans (if_neg (by rw [hA]; simp))))
    clear HR1 hA
    by_cases h0 : EFB = 0
    case neg =>
      have h0' : (EFB != 0) = true := by simpa using h0
      have HR2 := Hid.mk' (HR1b.out.trans ((if_neg (by simp)).trans (if_pos ⟨rfl, h0⟩)))
      clear h0
      go_enter Tryz.func95, Tryz.ntmps95
      go_wp2_with (first
        | (go_at_call 107; refine (HAL.out _).mono ?_; rintro e w1 ⟨rfl, rfl⟩)
        | (go_at_call 110; refine (HFB.out _ (by exact eX)).mono ?_; rintro e w4 ⟨rfl, hb4⟩; have hE4 : Ext (w.alloc (.cells #[.int .u32 oid, .int .u32 ver, .string nm, .int .u8 id, .slice a2 cols.length cap2] 99)) w4 := (by exact eX); have g4 := ((Blk.new w #[.int .u32 oid, .int .u32 ver, .string nm, .int .u8 id, .slice a2 cols.length cap2] 99).ext hE4).cell; clear hb4))
      go_ret
      exact ⟨ret_int HR2.out.symm, by exact eX⟩
    subst h0
    have HR3 := Hid.mk' (HR1b.out.trans ((if_neg (by simp)).trans (if_neg (by simp))))
    clear HR1b
    by_cases h1 : EDA = 0
    case neg =>
      have h1' : (EDA != 0) = true := by simpa using h1
      have HR2 := Hid.mk' (HR3.out.trans ((if_neg (by decide)).trans ((if_neg (by rintro ⟨h, _⟩; revert h; decide)).trans (if_pos ⟨by decide, h1⟩))))
      clear h1
      go_enter Tryz.func95, Tryz.ntmps95
      go_wp2_with (first
        | (go_at_call 107; refine (HAL.out _).mono ?_; rintro e w1 ⟨rfl, rfl⟩)
        | (go_at_call 110; refine (HFB.out _ (by exact eX)).mono ?_; rintro e w4 ⟨rfl, hb4⟩; have hE4 : Ext (w.alloc (.cells #[.int .u32 oid, .int .u32 ver, .string nm, .int .u8 id, .slice a2 cols.length cap2] 99)) w4 := (by exact eX); have g4 := ((Blk.new w #[.int .u32 oid, .int .u32 ver, .string nm, .int .u8 id, .slice a2 cols.length cap2] 99).ext hE4).cell; clear hb4)
        | (go_at_call 111; refine (HDA.out _ (by exact eX)).mono ?_; rintro e w6 ⟨rfl, hb6⟩; have hE6 : Ext (w.alloc (.cells #[.int .u32 oid, .int .u32 ver, .string nm, .int .u8 id, .slice a2 cols.length cap2] 99)) w6 := (by exact eX); have g6 := ((Blk.new w #[.int .u32 oid, .int .u32 ver, .string nm, .int .u8 id, .slice a2 cols.length cap2] 99).ext hE6).cell; clear hb6))
      go_ret
      exact ⟨ret_int HR2.out.symm, by exact eX⟩
    subst h1
    have HR4 := Hid.mk' (HR3.out.trans ((if_neg (by decide)).trans ((if_neg (by simp)).trans (if_neg (by simp)))))
    clear HR3
    have HR2 := Hid.mk' (HR4.out.trans (if_neg (by simp)))
    clear HR4
    go_enter Tryz.func95, Tryz.ntmps95
    go_wp2_with (first
      | (go_at_call 107; refine (HAL.out _).mono ?_; rintro e w1 ⟨rfl, rfl⟩)
      | (go_at_call 110; refine (HFB.out _ (by exact eX)).mono ?_; rintro e w4 ⟨rfl, hb4⟩; have hE4 : Ext (w.alloc (.cells #[.int .u32 oid, .int .u32 ver, .string nm, .int .u8 id, .slice a2 cols.length cap2] 99)) w4 := (by exact eX); have g4 := ((Blk.new w #[.int .u32 oid, .int .u32 ver, .string nm, .int .u8 id, .slice a2 cols.length cap2] 99).ext hE4).cell; clear hb4)
      | (go_at_call 111; refine (HDA.out _ (by exact eX)).mono ?_; rintro e w6 ⟨rfl, hb6⟩; have hE6 : Ext (w.alloc (.cells #[.int .u32 oid, .int .u32 ver, .string nm, .int .u8 id, .slice a2 cols.length cap2] 99)) w6 := (by exact eX); have g6 := ((Blk.new w #[.int .u32 oid, .int .u32 ver, .string nm, .int .u8 id, .slice a2 cols.length cap2] 99).ext hE6).cell; clear hb6))
    go_ret
    exact ⟨ret_int HR2.out.symm, by exact eX⟩
  · have e0 : (id == 0) = false := by simp; omega
    have n0 : (id != 0) = true := by simp; omega
    have f0 : ((0 : Int) == id) = false := by simp; omega
    have m0 : ((0 : Int) != id) = true := by simp; omega
    have e1 : (id == 1) = false := by simp; omega
    have n1 : (id != 1) = true := by simp; omega
    have f1 : ((1 : Int) == id) = false := by simp; omega
    have m1 : ((1 : Int) != id) = true := by simp; omega
    have e2 : (id == 2) = false := by simp; omega
    have n2 : (id != 2) = true := by simp; omega
    have f2 : ((2 : Int) == id) = false := by simp; omega
    have m2 : ((2 : Int) != id) = true := by simp; omega
    have hA : allowB id 5 2 = false := by unfold allowB; simp <;> omega
    clear hi
    rw [hA] at HAL
    have HR2 := Hid.mk' (HRo.out.trans (three14 hA))
    clear HRo hA
    go_enter Tryz.func95, Tryz.ntmps95
    go_wp2_with (first
      | (go_at_call 107; refine (HAL.out _).mono ?_; rintro e w1 ⟨rfl, rfl⟩))
    all_goals
      go_ret
      exact ⟨ret_int HR2.out.symm, by exact eX⟩
  · have e0 : (id == 0) = true := by simp; omega
    have n0 : (id != 0) = false := by simp; omega
    have f0 : ((0 : Int) == id) = true := by simp; omega
    have m0 : ((0 : Int) != id) = false := by simp; omega
    have e1 : (id == 1) = false := by simp; omega
    have n1 : (id != 1) = true := by simp; omega
    have f1 : ((1 : Int) == id) = false := by simp; omega
    have m1 : ((1 : Int) != id) = true := by simp; omega
    have e2 : (id == 2) = false := by simp; omega
    have n2 : (id != 2) = true := by simp; omega
    have f2 : ((2 : Int) == id) = false := by simp; omega
    have m2 : ((2 : Int) != id) = true := by simp; omega
    have hA : allowB id 6 0 = false := by rw [hi]; decide
    clear hi
    rw [hA] at HAL
    have HR2 := Hid.mk' (HRo.out.trans (three14 hA))
    clear HRo hA
    go_enter Tryz.func95, Tryz.ntmps95
    go_wp2_with (first
      | (go_at_call 107; refine (HAL.out _).mono ?_; rintro e w1 ⟨rfl, rfl⟩))
    all_goals
      go_ret
      exact ⟨ret_int HR2.out.symm, by exact eX⟩
  · have e0 : (id == 0) = false := by simp; omega
    have n0 : (id != 0) = true := by simp; omega
    have f0 : ((0 : Int) == id) = false := by simp; omega
    have m0 : ((0 : Int) != id) = true := by simp; omega
    have e1 : (id == 1) = true := by simp; omega
    have n1 : (id != 1) = false := by simp; omega
    have f1 : ((1 : Int) == id) = true := by simp; omega
    have m1 : ((1 : Int) != id) = false := by simp; omega
    have e2 : (id == 2) = false := by simp; omega
    have n2 : (id != 2) = true := by simp; omega
    have f2 : ((2 : Int) == id) = false := by simp; omega
    have m2 : ((2 : Int) != id) = true := by simp; omega
    have hA : allowB id 6 0 = false := by rw [hi]; decide
    clear hi
    rw [hA] at HAL
    have HR2 := Hid.mk' (HRo.out.trans (three14 hA))
    clear HRo hA
    go_enter Tryz.func95, Tryz.ntmps95
    go_wp2_with (first
      | (go_at_call 107; refine (HAL.out _).mono ?_; rintro e w1 ⟨rfl, rfl⟩))
    all_goals
      go_ret
      exact ⟨ret_int HR2.out.symm, by exact eX⟩
  · have e0 : (id == 0) = false := by simp; omega
    have n0 : (id != 0) = true := by simp; omega
    have f0 : ((0 : Int) == id) = false := by simp; omega
    have m0 : ((0 : Int) != id) = true := by simp; omega
    have e1 : (id == 1) = false := by simp; omega
    have n1 : (id != 1) = true := by simp; omega
    have f1 : ((1 : Int) == id) = false := by simp; omega
    have m1 : ((1 : Int) != id) = true := by simp; omega
    have e2 : (id == 2) = true := by simp; omega
    have n2 : (id != 2) = false := by simp; omega
    have f2 : ((2 : Int) == id) = true := by simp; omega
    have m2 : ((2 : Int) != id) = false := by simp; omega
    have hA : allowB id 6 0 = false := by rw [hi]; decide
    clear hi
    rw [hA] at HAL
    have HR2 := Hid.mk' (HRo.out.trans (three14 hA))
    clear HRo hA
    go_enter Tryz.func95, Tryz.ntmps95
    go_wp2_with (first
      | (go_at_call 107; refine (HAL.out _).mono ?_; rintro e w1 ⟨rfl, rfl⟩))
    all_goals
      go_ret
      exact ⟨ret_int HR2.out.symm, by exact eX⟩
  · have e0 : (id == 0) = false := by simp; omega
    have n0 : (id != 0) = true := by simp; omega
    have f0 : ((0 : Int) == id) = false := by simp; omega
    have m0 : ((0 : Int) != id) = true := by simp; omega
    have e1 : (id == 1) = false := by simp; omega
    have n1 : (id != 1) = true := by simp; omega
    have f1 : ((1 : Int) == id) = false := by simp; omega
    have m1 : ((1 : Int) != id) = true := by simp; omega
    have e2 : (id == 2) = false := by simp; omega
    have n2 : (id != 2) = true := by simp; omega
    have f2 : ((2 : Int) == id) = false := by simp; omega
    have m2 : ((2 : Int) != id) = true := by simp; omega
    have hA : allowB id 6 0 = false := by unfold allowB; simp <;> omega
    clear hi
    rw [hA] at HAL
    have HR2 := Hid.mk' (HRo.out.trans (three14 hA))
    clear HRo hA
    go_enter Tryz.func95, Tryz.ntmps95
    go_wp2_with (first
      | (go_at_call 107; refine (HAL.out _).mono ?_; rintro e w1 ⟨rfl, rfl⟩))
    all_goals
      go_ret
      exact ⟨ret_int HR2.out.symm, by exact eX⟩
  · have e0 : (id == 0) = true := by simp; omega
    have n0 : (id != 0) = false := by simp; omega
    have f0 : ((0 : Int) == id) = true := by simp; omega
    have m0 : ((0 : Int) != id) = false := by simp; omega
    have e1 : (id == 1) = false := by simp; omega
    have n1 : (id != 1) = true := by simp; omega
    have f1 : ((1 : Int) == id) = false := by simp; omega
    have m1 : ((1 : Int) != id) = true := by simp; omega
    have e2 : (id == 2) = false := by simp; omega
    have n2 : (id != 2) = true := by simp; omega
    have f2 : ((2 : Int) == id) = false := by simp; omega
    have m2 : ((2 : Int) != id) = true := by simp; omega
    have hA : allowB id 6 1 = false := by rw [hi]; decide
    clear hi
    rw [hA] at HAL
    have HR2 := Hid.mk' (HRo.out.trans (three14 hA))
    clear HRo hA
    go_enter Tryz.func95, Tryz.ntmps95
    go_wp2_with (first
      | (go_at_call 107; refine (HAL.out _).mono ?_; rintro e w1 ⟨rfl, rfl⟩))
    all_goals
      go_ret
      exact ⟨ret_int HR2.out.symm, by exact eX⟩
  · have e0 : (id == 0) = false := by simp; omega
    have n0 : (id != 0) = true := by simp; omega
    have f0 : ((0 : Int) == id) = false := by simp; omega
    have m0 : ((0 : Int) != id) = true := by simp; omega
    have e1 : (id == 1) = true := by simp; omega
    have n1 : (id != 1) = false := by simp; omega
    have f1 : ((1 : Int) == id) = true := by simp; omega
    have m1 : ((1 : Int) != id) = false := by simp; omega
    have e2 : (id == 2) = false := by simp; omega
    have n2 : (id != 2) = true := by simp; omega
    have f2 : ((2 : Int) == id) = false := by simp; omega
    have m2 : ((2 : Int) != id) = true := by simp; omega
    have hA : allowB id 6 1 = true := by rw [hi]; decide
    clear hi
    rw [hA] at HAL
    have HR1 := Hid.mk' (HRo.out.trans (if_neg (by rintro ⟨h, _⟩; revert h; decide)))
    clear HRo
    by_cases hla0 : 0 < la.length
    · have HR2 := Hid.mk' (HR1.out.trans (if_pos ⟨rfl, hla0⟩))
      clear HR1 hA
      go_enter Tryz.func95, Tryz.ntmps95
      go_wp2_with (first
        | (go_at_call 107; refine (HAL.out _).mono ?_; rintro e w1 ⟨rfl, rfl⟩))
      go_ret
      exact ⟨ret_int HR2.out.symm, by exact eX⟩
    have HR1b := Hid.mk' (HR1.out.trans ((if_neg (fun h => hla0 h.2)).trans (if_neg (by rw [hA]; simp))))
    clear HR1 hA
    by_cases h0 : EKB = 0
    case neg =>
      have h0' : (EKB != 0) = true := by simpa using h0
      have HR2 := Hid.mk' (HR1b.out.trans (if_pos ⟨rfl, h0⟩))
      clear h0
      go_enter Tryz.func95, Tryz.ntmps95
      go_wp2_with (first
        | (go_at_call 107; refine (HAL.out _).mono ?_; rintro e w1 ⟨rfl, rfl⟩)
        | (go_at_call 109; refine (HKB.out _ (by exact eX)).mono ?_; rintro e w3 ⟨rfl, hb3⟩; have hE3 : Ext (w.alloc (.cells #[.int .u32 oid, .int .u32 ver, .string nm, .int .u8 id, .slice a2 cols.length cap2] 99)) w3 := (by exact eX); have g3 := ((Blk.new w #[.int .u32 oid, .int .u32 ver, .string nm, .int .u8 id, .slice a2 cols.length cap2] 99).ext hE3).cell; clear hb3))
      go_ret
      exact ⟨ret_int HR2.out.symm, by exact eX⟩
    subst h0
    have HR3 := Hid.mk' (HR1b.out.trans ((if_neg (by simp)).trans (if_neg (by simp))))
    clear HR1b
    have HR2 := Hid.mk' (HR3.out.trans (if_pos rfl))
    clear HR3
    go_enter Tryz.func95, Tryz.ntmps95
    go_wp2_with (first
      | (go_at_call 107; refine (HAL.out _).mono ?_; rintro e w1 ⟨rfl, rfl⟩)
      | (go_at_call 109; refine (HKB.out _ (by exact eX)).mono ?_; rintro e w3 ⟨rfl, hb3⟩; have hE3 : Ext (w.alloc (.cells #[.int .u32 oid, .int .u32 ver, .string nm, .int .u8 id, .slice a2 cols.length cap2] 99)) w3 := (by exact eX); have g3 := ((Blk.new w #[.int .u32 oid, .int .u32 ver, .string nm, .int .u8 id, .slice a2 cols.length cap2] 99).ext hE3).cell; clear hb3))
    go_ret
    exact ⟨ret_int HR2.out.symm, by exact eX⟩
  · have e0 : (id == 0) = false := by simp; omega
    have n0 : (id != 0) = true := by simp; omega
    have f0 : ((0 : Int) == id) = false := by simp; omega
    have m0 : ((0 : Int) != id) = true := by simp; omega
    have e1 : (id == 1) = false := by simp; omega
    have n1 : (id != 1) = true := by simp; omega
    have f1 : ((1 : Int) == id) = false := by simp; omega
    have m1 : ((1 : Int) != id) = true := by simp; omega
    have e2 : (id == 2) = true := by simp; omega
    have n2 : (id != 2) = false := by simp; omega
    have f2 : ((2 : Int) == id) = true := by simp; omega
    have m2 : ((2 : Int) != id) = false := by simp; omega
    have hA : allowB id 6 1 = false := by rw [hi]; decide
    clear hi
    rw [hA] at HAL
    have HR2 := Hid.mk' (HRo.out.trans (three14 hA))
    clear HRo hA
    go_enter Tryz.func95, Tryz.ntmps95
    go_wp2_with (first
      | (go_at_call 107; refine (HAL.out _).mono ?_; rintro e w1 ⟨rfl, rfl⟩))
    all_goals
      go_ret
      exact ⟨ret_int HR2.out.symm, by exact eX⟩
  · have e0 : (id == 0) = false := by simp; omega
    have n0 : (id != 0) = true := by simp; omega
    have f0 : ((0 : Int) == id) = false := by simp; omega
    have m0 : ((0 : Int) != id) = true := by simp; omega
    have e1 : (id == 1) = false := by simp; omega
    have n1 : (id != 1) = true := by simp; omega
    have f1 : ((1 : Int) == id) = false := by simp; omega
    have m1 : ((1 : Int) != id) = true := by simp; omega
    have e2 : (id == 2) = false := by simp; omega
    have n2 : (id != 2) = true := by simp; omega
    have f2 : ((2 : Int) == id) = false := by simp; omega
    have m2 : ((2 : Int) != id) = true := by simp; omega
    have hA : allowB id 6 1 = false := by unfold allowB; simp <;> omega
    clear hi
    rw [hA] at HAL
    have HR2 := Hid.mk' (HRo.out.trans (three14 hA))
    clear HRo hA
    go_enter Tryz.func95, Tryz.ntmps95
    go_wp2_with (first
      | (go_at_call 107; refine (HAL.out _).mono ?_; rintro e w1 ⟨rfl, rfl⟩))
    all_goals
      go_ret
      exact ⟨ret_int HR2.out.symm, by exact eX⟩
  · have e0 : (id == 0) = true := by simp; omega
    have n0 : (id != 0) = false := by simp; omega
    have f0 : ((0 : Int) == id) = true := by simp; omega
    have m0 : ((0 : Int) != id) = false := by simp; omega
    have e1 : (id == 1) = false := by simp; omega
    have n1 : (id != 1) = true := by simp; omega
    have f1 : ((1 : Int) == id) = false := by simp; omega
    have m1 : ((1 : Int) != id) = true := by simp; omega
    have e2 : (id == 2) = false := by simp; omega
    have n2 : (id != 2) = true := by simp; omega
    have f2 : ((2 : Int) == id) = false := by simp; omega
    have m2 : ((2 : Int) != id) = true := by simp; omega
    have hA : allowB id 6 2 = false := by rw [hi]; decide
    clear hi
    rw [hA] at HAL
    have HR2 := Hid.mk' (HRo.out.trans (three14 hA))
    clear HRo hA
    go_enter Tryz.func95, Tryz.ntmps95
    go_wp2_with (first
      | (go_at_call 107; refine (HAL.out _).mono ?_; rintro e w1 ⟨rfl, rfl⟩))
    all_goals
      go_ret
      exact ⟨ret_int HR2.out.symm, by exact eX⟩
  · have e0 : (id == 0) = false := by simp; omega
    have n0 : (id != 0) = true := by simp; omega
    have f0 : ((0 : Int) == id) = false := by simp; omega
    have m0 : ((0 : Int) != id) = true := by simp; omega
    have e1 : (id == 1) = true := by simp; omega
    have n1 : (id != 1) = false := by simp; omega
    have f1 : ((1 : Int) == id) = true := by simp; omega
    have m1 : ((1 : Int) != id) = false := by simp; omega
    have e2 : (id == 2) = false := by simp; omega
    have n2 : (id != 2) = true := by simp; omega
    have f2 : ((2 : Int) == id) = false := by simp; omega
    have m2 : ((2 : Int) != id) = true := by simp; omega
    have hA : allowB id 6 2 = false := by rw [hi]; decide
    clear hi
    rw [hA] at HAL
    have HR2 := Hid.mk' (HRo.out.trans (three14 hA))
    clear HRo hA
    go_enter Tryz.func95, Tryz.ntmps95
    go_wp2_with (first
      | (go_at_call 107; refine (HAL.out _).mono ?_; rintro e w1 ⟨rfl, rfl⟩))
    all_goals
      go_ret
      exact ⟨ret_int HR2.out.symm, by exact eX⟩
  · have e0 : (id == 0) = false := by simp; omega
    have n0 : (id != 0) = true := by simp; omega
    have f0 : ((0 : Int) == id) = false := by simp; omega
    have m0 : ((0 : Int) != id) = true := by simp; omega
    have e1 : (id == 1) = false := by simp; omega
    have n1 : (id != 1) = true := by simp; omega
    have f1 : ((1 : Int) == id) = false := by simp; omega
    have m1 : ((1 : Int) != id) = true := by simp; omega
    have e2 : (id == 2) = true := by simp; omega
    have n2 : (id != 2) = false := by simp; omega
    have f2 : ((2 : Int) == id) = true := by simp; omega
    have m2 : ((2 : Int) != id) = false := by simp; omega
    have hA : allowB id 6 2 = true := by rw [hi]; decide
    clear hi
    rw [hA] at HAL
    have HR1 := Hid.mk' (HRo.out.trans (if_neg (by rintro ⟨h, _⟩; revert h; decide)))
    clear HRo
    by_cases hla0 : 0 < la.length
    · have HR2 := Hid.mk' (HR1.out.trans (if_pos ⟨rfl, hla0⟩))
      clear HR1 hA
      go_enter Tryz.func95, Tryz.ntmps95
      go_wp2_with (first
        | (go_at_call 107; refine (HAL.out _).mono ?_; rintro e w1 ⟨rfl, rfl⟩))
      go_ret
      exact ⟨ret_int HR2.out.symm, by exact eX⟩
    have HR1b := Hid.mk' (HR1.out.trans ((if_neg (fun h => hla0 h.2)).trans (if_neg (by rw [hA]; simp))))
    clear HR1 hA
    by_cases h0 : EFB = 0
    case neg =>
      have h0' : (EFB != 0) = true := by simpa using h0
      have HR2 := Hid.mk' (HR1b.out.trans ((if_neg (by simp)).trans (if_pos ⟨rfl, h0⟩)))
      clear h0
      go_enter Tryz.func95, Tryz.ntmps95
      go_wp2_with (first
        | (go_at_call 107; refine (HAL.out _).mono ?_; rintro e w1 ⟨rfl, rfl⟩)
        | (go_at_call 110; refine (HFB.out _ (by exact eX)).mono ?_; rintro e w4 ⟨rfl, hb4⟩; have hE4 : Ext (w.alloc (.cells #[.int .u32 oid, .int .u32 ver, .string nm, .int .u8 id, .slice a2 cols.length cap2] 99)) w4 := (by exact eX); have g4 := ((Blk.new w #[.int .u32 oid, .int .u32 ver, .string nm, .int .u8 id, .slice a2 cols.length cap2] 99).ext hE4).cell; clear hb4))
      go_ret
      exact ⟨ret_int HR2.out.symm, by exact eX⟩
    subst h0
    have HR3 := Hid.mk' (HR1b.out.trans ((if_neg (by simp)).trans (if_neg (by simp))))
    clear HR1b
    have HR2 := Hid.mk' (HR3.out.trans (if_pos rfl))
    clear HR3
    go_enter Tryz.func95, Tryz.ntmps95
    go_wp2_with (first
      | (go_at_call 107; refine (HAL.out _).mono ?_; rintro e w1 ⟨rfl, rfl⟩)
      | (go_at_call 110; refine (HFB.out _ (by exact eX)).mono ?_; rintro e w4 ⟨rfl, hb4⟩; have hE4 : Ext (w.alloc (.cells #[.int .u32 oid, .int .u32 ver, .string nm, .int .u8 id, .slice a2 cols.length cap2] 99)) w4 := (by exact eX); have g4 := ((Blk.new w #[.int .u32 oid, .int .u32 ver, .string nm, .int .u8 id, .slice a2 cols.length cap2] 99).ext hE4).cell; clear hb4))
    go_ret
    exact ⟨ret_int HR2.out.symm, by exact eX⟩
  · have e0 : (id == 0) = false := by simp; omega
    have n0 : (id != 0) = true := by simp; omega
    have f0 : ((0 : Int) == id) = false := by simp; omega
    have m0 : ((0 : Int) != id) = true := by simp; omega
    have e1 : (id == 1) = false := by simp; omega
    have n1 : (id != 1) = true := by simp; omega
    have f1 : ((1 : Int) == id) = false := by simp; omega
    have m1 : ((1 : Int) != id) = true := by simp; omega
    have e2 : (id == 2) = false := by simp; omega
    have n2 : (id != 2) = true := by simp; omega
    have f2 : ((2 : Int) == id) = false := by simp; omega
    have m2 : ((2 : Int) != id) = true := by simp; omega
    have hA : allowB id 6 2 = false := by unfold allowB; simp <;> omega
    clear hi
    rw [hA] at HAL
    have HR2 := Hid.mk' (HRo.out.trans (three14 hA))
    clear HRo hA
    go_enter Tryz.func95, Tryz.ntmps95
    go_wp2_with (first
      | (go_at_call 107; refine (HAL.out _).mono ?_; rintro e w1 ⟨rfl, rfl⟩))
    all_goals
      go_ret
      exact ⟨ret_int HR2.out.symm, by exact eX⟩

end Go.Proofs.YtdgalkljngigeaaGreat


/-
The youngest relation of an oid: the program's Last, over slices.Backward.
-/
namespace Go.Proofs.YtdgalkljngigeaaGreat
open Go.RowKit Go.Shelf
attribute [local go_sem] Oper.semAt_some

abbrev IX (n : Nat) := { i : Nat // i < n }
/-- The last k places, from the last one on. -/
def backUp (n : Nat) : Nat → List (IX n)
  | 0 => []
  | k + 1 => if h : k < n then backUp n k ++ [⟨n - 1 - k, by omega⟩] else backUp n k
theorem backUp_succ {n k : Nat} (h : k < n) : backUp n (k + 1) = backUp n k ++ [⟨n - 1 - k, by omega⟩] := by
  conv => lhs; unfold backUp
  rw [dif_pos h]
theorem backUp_len {n : Nat} : ∀ k, (backUp n k).length ≤ k
  | 0 => Nat.le_refl _
  | k + 1 => by
    have := backUp_len (n := n) k
    unfold backUp
    split
    · rw [List.length_append, List.length_singleton]; omega
    · omega
theorem backUp_mem {n : Nat} : ∀ k, k ≤ n → ∀ x : IX n, x ∈ backUp n k ↔ n - k ≤ x.1
  | 0, _, x => by have := x.2; simp [backUp]; omega
  | k + 1, hk, x => by
    have ih := backUp_mem k (by omega) x
    have hx := x.2
    rw [backUp_succ (by omega), List.mem_append, ih, List.mem_singleton]
    constructor
    · rintro (h | h)
      · omega
      · have := congrArg Subtype.val h; simp only at this; omega
    · intro h
      by_cases e : x.1 = n - 1 - k
      · right; exact Subtype.ext e
      · left; omega
def encB (ps : List RR) (x : IX ps.length) : Array Value := #[.int .i64 (x.1 : Int), .agg #[.int .u32 (ps[x.1]'x.2).r.oid, .int .u32 (ps[x.1]'x.2).r.ver, .string (ps[x.1]'x.2).r.nm, .int .u8 (ps[x.1]'x.2).r.id, .slice (ps[x.1]'x.2).a (ps[x.1]'x.2).r.cols.length (ps[x.1]'x.2).c]]

/-- The youngest one, from the back. -/
theorem lastUp_from {o : Int} {ps : List RR} {i : Nat} (h : ∀ j (hj : j < ps.length), i < j → ps[j].r.oid ≠ o) : ∀ k, k + i + 1 = ps.length → lastUp o ps ps.length = lastUp o ps (i + 1) := by
  have : ∀ m, i + 1 + m ≤ ps.length → lastUp o ps (i + 1 + m) = lastUp o ps (i + 1) := by
    intro m
    induction m with
    | zero => intro _; rfl
    | succ m ih =>
      intro hm
      rw [show i + 1 + (m + 1) = (i + 1 + m) + 1 by omega, lastUp_miss (by omega) (h _ (by omega) (by omega))]
      exact ih (by omega)
  intro k hk
  have h2 := this k (by omega)
  rw [show i + 1 + k = ps.length by omega] at h2
  exact h2
theorem lastUp_none {o : Int} {ps : List RR} (h : ∀ j (hj : j < ps.length), ps[j].r.oid ≠ o) : ∀ k, lastUp o ps k = none
  | 0 => rfl
  | k + 1 => by
    unfold lastUp
    rw [dif_neg (fun q => h k q.1 q.2)]
    exact lastUp_none h k

theorem owns_kept {A B : World} {row : Option Nat} {base n size : Nat} {e : TypeId} {v : Value} {xs : List Value} (h : A.ownsRow base e size v n xs) (hg : A.grownBy B row) (hr : ∀ r, row = some r → ∃ o : Obj, A.heap[r]? = some o ∧ o.isCells = false) : B.ownsRow base e size v n xs := by
  refine owns_kp h (Kp.of_grown hg) (fun b hb e => ?_)
  obtain ⟨o, ho, hn⟩ := hr b e
  rcases h.2 with ⟨rfl, _⟩ | ⟨g, cap, cur, rfl, hbg, hh, _⟩
  · simp [Value.ownBlock] at hb
  · simp [Value.ownBlock] at hb; subst hb
    rw [hh] at ho; cases ho; simp [Obj.isCells] at hn

/-- What Last leaves in its two results' cells. -/
structure LastAt (N : Nat) (w W : World) (q : RR) : Prop where
  c0 : W.cell? ⟨w.heap.size + 1, 0, none⟩ = some (.int .u32 q.r.oid)
  c1 : W.cell? ⟨w.heap.size + 1, 1, none⟩ = some (.int .u32 q.r.ver)
  c2 : W.cell? ⟨w.heap.size + 1, 2, none⟩ = some (.string q.r.nm)
  c3 : W.cell? ⟨w.heap.size + 1, 3, none⟩ = some (.int .u8 q.r.id)
  c4 : W.cell? ⟨w.heap.size + 1, 4, none⟩ = some (.slice q.a q.r.cols.length q.c)
  b : W.cell? ⟨w.heap.size + 1 + 1, 0, none⟩ = some (.bool true)
  own : q.owned N W
theorem LastAt.kept {N : Nat} {w A B : World} {q : RR} {row : Option Nat} (h : LastAt N w A q) (hg : A.grownBy B row) (hr : ∀ r, row = some r → ∃ o : Obj, A.heap[r]? = some o ∧ o.isCells = false) : LastAt N w B q :=
  ⟨cell_kept h.c0 hg hr, cell_kept h.c1 hg hr, cell_kept h.c2 hg hr, cell_kept h.c3 hg hr, cell_kept h.c4 hg hr, cell_kept h.b hg hr, owns_kept h.own hg hr⟩

end Go.Proofs.YtdgalkljngigeaaGreat

/-
A range over an iterator that hands out what it has laid down itself: the iterator's word tells of each thing handed out what the memory holds then; a loop whose body always goes on.
-/
namespace Go.Proofs.YtdgalkljngigeaaGreat
open Go.RowKit

variable {F : Fence} {n : Nat} {P : Program}

/-- The iterator's word: what is handed out meets C in the memory as it is then. -/
def SeqTold {α : Type} (F : Fence) (n : Nat) (P : Program) (g : Nat) (lb : Array Value) (encs : α → Array Value) (C : α → World → Prop) (S : List α → Prop) (N B0 : Nat) (w : World) : Prop :=
  ∀ (l : Nat) (J : List α → World → Prop) (W : World), Below w.heap.size w W → AbidesFrom W.heap.size J →
    (∀ pre x W1, J pre W1 → pre.length < N → C x W1 → YieldAt F (n - 1) P l (encs x) W1 fun e W' => e = .returned (.bool true) ∧ J (pre ++ [x]) W' ∧ Below B0 W1 W') →
    J [] W →
    CallsIn F n P g (#[.func (.yield l) #[] #[]] ++ lb) W fun e W' => (∃ v, e = .returned v) ∧ ∃ xs, S xs ∧ J xs W'

/-- How a body that always goes on is left. -/
def goesOn {α : Type} (B B0 : Nat) (I : List α → World → Prop) (xs : List α) (W : World) : Exit → Act → World → Prop
  | .normal, _, W' => KeepsFrom B W W' ∧ Below B0 W W' ∧ I xs W'
  | _, _, _ => False

theorem below_putObj {B0 : Nat} (W : World) (l : Nat) (o' : Obj) (h : B0 ≤ l) : Below B0 W (W.putObj l o') :=
  have hg := grownBy_putObj' W l o'
  ⟨hg.os, hg.tape, hg.output, hg.size, fun k hk => by
    rcases Nat.lt_or_ge k W.heap.size with h1 | h1
    · exact hg.block k h1 (fun e => by cases e; omega)
    · exact World.putObj_heap_other (by omega)⟩

theorem wpIn_range_told {α : Type} {g : Operand} {ps : Array Tmp} {assign body : Code} {Q : Exit → Act → World → Prop} {a : Act} {w : World}
    (hro : F.round = none) (h1 : 1 ≤ n) {gf : Nat} {lb : Array Value} (hg : a.eval g = .func (.func gf) #[] lb) (hFg : F.fn gf) (eg : ∀ args w, (callFunc gf args).run P w = .ok (.enter gf args) w)
    {encs : α → Array Value} {C : α → World → Prop} {S : List α → Prop} {N B0 : Nat} {w0 : World} (hseq : SeqTold F (n - 1) P gf lb encs C S N B0 w0) (hB0 : B0 ≤ w.heap.size) (hb0 : Below w0.heap.size w0 w) (hps : ∀ x, (encs x).size = ps.size)
    (I : List α → World → Prop) (hI : OwnFrom w.heap.size I) (h0 : I [] w) (Ax : α → Act → World → Prop)
    (hAx : ∀ x a' W l o', Ax x a' W → w.heap.size ≤ l → (∃ o, W.heap[l]? = some o ∧ o.isCells = false) → Ax x a' (W.putObj l o'))
    (hassign : ∀ (l : Nat) (pre : List α) (x : α) (W : World) (K : Act → World → Prop), I pre W → C x W → (∀ a' W', KeepsFrom w.heap.size W W' → Below B0 W W' → I pre W' → Ax x a' W' → K a' W') →
      assign.wpIn (F.inRound l) (n - 1 - 1) P (Exit.then K (fun _ _ _ => False)) { tmps := (ps.zip (encs x)).foldl (fun t (p, v) => t.setIfInBounds p v) a.tmps, defers := [] } W)
    (hbody : ∀ (l : Nat) (pre : List α) (x : α) (a' : Act) (W : World), I pre W → pre.length < N → Ax x a' W → body.wpIn (F.inRound l) (n - 1 - 1) P (goesOn w.heap.size B0 I (pre ++ [x]) W) a' W)
    (hdone : ∀ (D : Nat) (xs : List α) (W : World), w.heap.size ≤ D → S xs → I xs W → W.heap[D]? = some (.deferred (some [])) → Q .normal { a with defers := { target := .collected D, args := #[] } :: a.defers } W) :
    (Code.rangeFunc g ps assign body).wpIn F n P Q a w := by
  refine wpIn_rangeFunc ?_
  intro fn hfn
  rw [hro]
  have hw0 : w0.heap.size ≤ w.heap.size := hb0.size
  obtain ⟨rec, hrec⟩ : ∃ rec : LoopState → Option Code → Loop, rec = fun st pe => { state := st, pending := pe, fn, tmps := a.tmps, params := ps, assign, body, defers := w.heap.size } := ⟨_, rfl⟩
  obtain ⟨W1, hW1⟩ : ∃ W1, (w.alloc (.deferred (some []))).alloc (.loop (rec .ready none)) = W1 := ⟨_, rfl⟩
  have hs1 : W1.heap.size = w.heap.size + 2 := by rw [← hW1]; simp
  have hL1 : W1.heap[w.heap.size + 1]? = some (.loop (rec .ready none)) := by
    rw [← hW1]; have := World.alloc_heap_new (w.alloc (.deferred (some []))) (.loop (rec .ready none)); rwa [World.size_alloc] at this
  have hK1 : W1.heap[w.heap.size]? = some (.deferred (some [])) := by
    rw [← hW1]; exact (Below.heap_alloc _ _ _ (by simp)).trans (World.alloc_heap_new w _)
  refine ⟨w.heap.size + 1, [{ target := .collected w.heap.size, args := #[] }], W1, { target := .fn (.func gf) lb, args := #[.func (.yield (w.heap.size + 1)) #[] #[]] }, W1, gf,
    #[.func (.yield (w.heap.size + 1)) #[] #[]] ++ lb, W1, ?_, ?_, ?_, ?_, fun _ => h1, ?_⟩
  · rw [← hW1, hrec]; exact run_enterLoop_outer _ _ _ _ _
  · simp only [resolve, hg]
    simp [go_sem]
  · intro f' hf'; simp [Target.leads] at hf'; subst hf'; exact hFg
  · simp [invoke, go_sem, eg]
  refine (hseq (w.heap.size + 1) (fun pre W => I pre W ∧ W.heap[w.heap.size + 1]? = some (.loop (rec .ready none)) ∧ W.heap[w.heap.size]? = some (.deferred (some []))) W1
    (by rw [← hW1]; exact hb0.trans ((((Below.refl _ w).alloc (Nat.le_refl _) _).alloc (by simp) _).mono hw0))
    (fun s A B row hs hg' hr => ⟨hI s A B row hs.1 hg' (fun r e => by obtain ⟨q1, o, q2, q3⟩ := hr r e; exact ⟨by omega, o, q2, Obj.not_cells_of_walk q3⟩), (grownBy_keeps hg' (fun r e => (hr r e).2) hs.2.1 rfl).trans hs.2.1, (grownBy_keeps hg' (fun r e => (hr r e).2) hs.2.2 rfl).trans hs.2.2⟩)
    ?_ ⟨by rw [← hW1]; exact hI.alloc _ (hI.alloc _ h0), hL1, hK1⟩).mono ?_
  · rintro pre x W ⟨hi, hl, hk⟩ hlen hc
    have hlt : w.heap.size + 1 < W.heap.size := (Array.getElem?_eq_some_iff.1 hl).1
    have hy := run_yield (P := P) (args := encs x) hl (by rw [hrec]; exact hps x)
    rw [hrec] at hy
    refine ⟨fn, _, assign, body, hy, roundIn_of_wpIn hfn (hassign _ pre x W _ hi hc (fun a' W' hkp hbl hi' hax => ?_))⟩
    have hl' : W'.heap[w.heap.size + 1]? = some (.loop (rec .ready none)) := hkp.same _ _ (by omega) hl rfl
    have hk' : W'.heap[w.heap.size]? = some (.deferred (some [])) := hkp.same _ _ (Nat.le_refl _) hk rfl
    have hlt' : w.heap.size + 1 < W'.heap.size := (Array.getElem?_eq_some_iff.1 hl').1
    refine ⟨_, run_beginRound hl' (by rw [hrec]), ?_⟩
    obtain ⟨V, hV⟩ : ∃ V, V = W'.putObj (w.heap.size + 1) (.loop { rec .ready none with state := .busy }) := ⟨_, rfl⟩
    have hl2 : V.heap[w.heap.size + 1]? = some (.loop { rec .ready none with state := .busy }) := by rw [hV]; exact World.putObj_heap_same hlt'
    have hk2 : V.heap[w.heap.size]? = some (.deferred (some [])) := by rw [hV]; exact (World.putObj_heap_other (by omega)).trans hk'
    have hVb : Below B0 W V := by rw [hV]; exact hbl.trans (below_putObj _ _ _ (by omega))
    have hVI : I pre V := by rw [hV]; exact hI.putObj _ hi' (by omega) hl' rfl
    have hVA : Ax x a' V := by rw [hV]; exact hAx x a' W' _ _ hax (by omega) ⟨_, hl', rfl⟩
    rw [← hV]
    refine wpIn_mono (hbody _ pre x a' V hVI hlen hVA) ?_
    rintro e a3 W3 hp
    cases e with
    | normal =>
      obtain ⟨hk3, hkp3, hi3⟩ := hp
      have hl3 := hk3.same _ _ (by omega) hl2 rfl
      have hr := run_endRound (P := P) none hl3
      refine ⟨_, _, hr, rfl, ⟨hI.putObj _ hi3 (by omega) hl3 rfl, ?_, (World.putObj_heap_other (by omega)).trans (hk3.same _ _ (Nat.le_refl _) hk2 rfl)⟩, (hVb.trans hkp3).trans (below_putObj _ _ _ (by omega))⟩
      rw [World.putObj_heap_same (Array.getElem?_eq_some_iff.1 hl3).1, hrec]; rfl
    | _ => exact hp.elim
  · rintro e W2 ⟨⟨v, rfl⟩, xs, hS, hi, hl, hk⟩
    exact ⟨none, _, by have := run_endLoop (P := P) hl (by rw [hrec]; simp); rw [hrec] at this; exact this, hdone _ xs _ (Nat.le_refl _) hS (hI.putObj _ hi (by omega) hl rfl) ((World.putObj_heap_other (by omega)).trans hk)⟩

end Go.Proofs.YtdgalkljngigeaaGreat
