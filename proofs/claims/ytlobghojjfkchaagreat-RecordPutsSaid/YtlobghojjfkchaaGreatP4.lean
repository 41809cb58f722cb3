/-
Whether two events are alike, the program's and the reference's.
-/
import Derived.Deep.RegionHeld
import Derived.Laws.CopyOwn
import Derived.Lib.Overlaps
import Derived.Lib.AppendZerosOnto
import Derived.Maps.AppendAt
import Derived.Shelf.Spec.SlicesInsert
import Derived.Test.YtlobghojjfkchaaGreatP3
namespace Go.Proofs.YtlobghojjfkchaaGreat
open Go.RowKit

/-- Its rows and refs are not many. -/
structure Ev.small (e : Ev) : Prop where
  b : e.b.length ≤ 1000
  a : e.a.length ≤ 1000
  r : e.rs.length ≤ 1000

set_option maxRecDepth 100000 in set_option maxHeartbeats 4000000 in
theorem ealike_any (x y : EL) (w : World) (hx : x.at 5 K.pc w) (hy : y.at 5 K.pc w) (h1 : x.e.small) (h2 : y.e.small) :
    Calls Tryz.prog 28 #[x.agg, y.agg] w fun e w' => e = .returned (.bool (evB x.e y.e)) ∧ Ext w w' := by
  obtain ⟨⟨k1, ao1, av1, old1, b1, a1, r1, fl1⟩, ba1, bc1, aa1, ac1, ra1, rc1⟩ := x
  obtain ⟨⟨k2, ao2, av2, old2, b2, a2, r2, fl2⟩, ba2, bc2, aa2, ac2, ra2, rc2⟩ := y
  unfold EL.agg
  simp only
  have HB := Hid.mk' (fun W (h : Ext w W) => alike_any b1 b2 ba1 ba2 bc1 bc2 W (hx.b.ext h) (hy.b.ext h) h1.b h2.b)
  have HA := Hid.mk' (fun W (h : Ext w W) => alike_any a1 a2 aa1 aa2 ac1 ac2 W (hx.a.ext h) (hy.a.ext h) h1.a h2.a)
  have HF := Hid.mk' (fun W (h : Ext w W) => eqrefs_any r1 r2 ra1 ra2 rc1 rc2 W (hx.r.ext h) (hy.r.ext h) (by have := h1.r; simp only at this; omega))
  clear hx hy h1 h2
  by_cases q1 : k1 = k2
  case neg =>
    have HR := Hid.mk' (show evB (⟨k1, ao1, av1, old1, b1, a1, r1, fl1⟩ : Ev) (⟨k2, ao2, av2, old2, b2, a2, r2, fl2⟩ : Ev) = false from evB_false.2 (fun h => by injection h; contradiction))
    have q1' : (k1 == k2) = false := by simpa using q1
    clear q1
    go_enter Tryz.func28, Tryz.ntmps28
    go_wp2
    go_ret
    exact ⟨ret_bool HR.out.symm, by exact eX⟩
  by_cases q2 : rfB ⟨ao1, av1⟩ ⟨ao2, av2⟩ = true
  case neg =>
    have HR := Hid.mk' (show evB (⟨k1, ao1, av1, old1, b1, a1, r1, fl1⟩ : Ev) (⟨k2, ao2, av2, old2, b2, a2, r2, fl2⟩ : Ev) = false from evB_false.2 (fun h => by injection h with _ e1 e2; exact q2 (rfB_true.2 (by rw [e1, e2]))))
    have q2' : rfB ⟨ao1, av1⟩ ⟨ao2, av2⟩ = false := by simpa using q2
    have hQ := fun w => eql_pref ao1 av1 ao2 av2 w
    rw [q2'] at hQ
    clear q2 q2'
    subst q1
    go_enter Tryz.func28, Tryz.ntmps28
    go_wp2
    go_ret
    exact ⟨ret_bool HR.out.symm, by exact eX⟩
  have q2e := rfB_true.1 q2
  injection q2e with q3 q4
  clear q2
  subst q1 q3 q4
  by_cases q5 : old1 = old2
  case neg =>
    have HR := Hid.mk' (show evB (⟨k1, ao1, av1, old1, b1, a1, r1, fl1⟩ : Ev) (⟨k1, ao1, av1, old2, b2, a2, r2, fl2⟩ : Ev) = false from evB_false.2 (fun h => by injection h; contradiction))
    have q5' : (old1 == old2) = false := by simpa using q5
    clear q5
    go_enter Tryz.func28, Tryz.ntmps28
    go_wp2
    go_ret
    exact ⟨ret_bool HR.out.symm, by exact eX⟩
  subst q5
  by_cases q6 : fl1 = fl2
  case neg =>
    have HR := Hid.mk' (show evB (⟨k1, ao1, av1, old1, b1, a1, r1, fl1⟩ : Ev) (⟨k1, ao1, av1, old1, b2, a2, r2, fl2⟩ : Ev) = false from evB_false.2 (fun h => by injection h; contradiction))
    have q6' : (fl1 == fl2) = false := by simpa using q6
    clear q6
    go_enter Tryz.func28, Tryz.ntmps28
    go_wp2
    go_ret
    exact ⟨ret_bool HR.out.symm, by exact eX⟩
  subst q6
  cases hb : rowB b1 b2 with
  | false =>
    have HR := Hid.mk' (show evB (⟨k1, ao1, av1, old1, b1, a1, r1, fl1⟩ : Ev) (⟨k1, ao1, av1, old1, b2, a2, r2, fl1⟩ : Ev) = false from evB_false.2 (fun h => by injection h with _ _ _ _ e1; exact rowB_false.1 hb e1))
    rw [hb] at HB
    clear hb
    go_enter Tryz.func28, Tryz.ntmps28
    go_wp2_with (go_at_call 71; refine (HB.out _ (by exact eX)).mono ?_; rintro e w2 ⟨rfl, hb2⟩)
    go_ret
    exact ⟨ret_bool HR.out.symm, by exact eX⟩
  | true =>
  obtain rfl := rowB_true.1 hb
  rw [hb] at HB
  clear hb
  cases ha : rowB a1 a2 with
  | false =>
    have HR := Hid.mk' (show evB (⟨k1, ao1, av1, old1, b1, a1, r1, fl1⟩ : Ev) (⟨k1, ao1, av1, old1, b1, a2, r2, fl1⟩ : Ev) = false from evB_false.2 (fun h => by injection h with _ _ _ _ _ e1; exact rowB_false.1 ha e1))
    rw [ha] at HA
    clear ha
    go_enter Tryz.func28, Tryz.ntmps28
    go_wp2_with (first
      | (go_at_call_of 71 (Value.slice ba1 b1.length bc1); (with_reducible refine (HB.out _ (by exact eX)).mono ?_); rintro e w2 ⟨rfl, hb2⟩; have hE_w2 : Ext ((w.alloc (.cells #[.int .u8 k1, .int .u32 ao1, .int .u32 av1, .int .u8 old1, .slice ba1 b1.length bc1, .slice aa1 a1.length ac1, .slice ra1 r1.length rc1, .int .u8 fl1] 50)).alloc (.cells #[.int .u8 k1, .int .u32 ao1, .int .u32 av1, .int .u8 old1, .slice ba2 b1.length bc2, .slice aa2 a2.length ac2, .slice ra2 r2.length rc2, .int .u8 fl1] 50)) w2 := (by exact eX); obtain ⟨hc_w2, hf_w2⟩ := hE_w2.cells; have hz_w2 := hE_w2.size)
      | (go_at_call_of 71 (Value.slice aa1 a1.length ac1); refine (HA.out _ (by exact eX)).mono ?_; rintro e w3 ⟨rfl, hb3⟩))
    go_ret
    exact ⟨ret_bool HR.out.symm, by exact eX⟩
  | true =>
  obtain rfl := rowB_true.1 ha
  rw [ha] at HA
  clear ha
  have HR := Hid.mk' (show evB (⟨k1, ao1, av1, old1, b1, a1, r1, fl1⟩ : Ev) (⟨k1, ao1, av1, old1, b1, a1, r2, fl1⟩ : Ev) = rfsB r1 r2 from by
    unfold evB rfsB
    exact decide_eq_decide.2 (by simp only [Ev.mk.injEq, true_and, and_true]))
  generalize rfsB r1 r2 = B at HF HR
  go_enter Tryz.func28, Tryz.ntmps28
  go_wp2_with (first
      | (go_at_call_of 71 (Value.slice ba1 b1.length bc1); (with_reducible refine (HB.out _ (by exact eX)).mono ?_); rintro e w2 ⟨rfl, hb2⟩; have hE_w2 : Ext ((w.alloc (.cells #[.int .u8 k1, .int .u32 ao1, .int .u32 av1, .int .u8 old1, .slice ba1 b1.length bc1, .slice aa1 a1.length ac1, .slice ra1 r1.length rc1, .int .u8 fl1] 50)).alloc (.cells #[.int .u8 k1, .int .u32 ao1, .int .u32 av1, .int .u8 old1, .slice ba2 b1.length bc2, .slice aa2 a1.length ac2, .slice ra2 r2.length rc2, .int .u8 fl1] 50)) w2 := (by exact eX); obtain ⟨hc_w2, hf_w2⟩ := hE_w2.cells; have hz_w2 := hE_w2.size)
      | (go_at_call_of 71 (Value.slice aa1 a1.length ac1); (with_reducible refine (HA.out _ (by exact eX)).mono ?_); rintro e w3 ⟨rfl, hb3⟩; have hE_w3 : Ext ((w.alloc (.cells #[.int .u8 k1, .int .u32 ao1, .int .u32 av1, .int .u8 old1, .slice ba1 b1.length bc1, .slice aa1 a1.length ac1, .slice ra1 r1.length rc1, .int .u8 fl1] 50)).alloc (.cells #[.int .u8 k1, .int .u32 ao1, .int .u32 av1, .int .u8 old1, .slice ba2 b1.length bc2, .slice aa2 a1.length ac2, .slice ra2 r2.length rc2, .int .u8 fl1] 50)) w3 := (by exact eX); obtain ⟨hc_w3, hf_w3⟩ := hE_w3.cells; have hz_w3 := hE_w3.size)
      | (go_at_call 72; refine (HF.out _ (by exact eX)).mono ?_; rintro e w4 ⟨rfl, hb4⟩))
  go_ret
  exact ⟨ret_bool HR.out.symm, by exact eX⟩

end Go.Proofs.YtlobghojjfkchaaGreat

/-
Which of two refs is ahead, the program's.
-/
namespace Go.Proofs.YtlobghojjfkchaaGreat
open Go.RowKit

set_option maxRecDepth 20000 in set_option maxHeartbeats 400000 in
theorem isnan_any (x : Int) (w : World) : Calls Tryz.prog 194 #[.int .u32 x] w fun e w' => e = .returned (.bool false) ∧ w = w' := by
  go_enter Tryz.func194, Tryz.ntmps194
  go_wp2
  go_ret
  exact ⟨by simp, rfl⟩

set_option maxRecDepth 20000 in set_option maxHeartbeats 400000 in
theorem cmpu_any (a b : Int) (w : World) : Calls Tryz.prog 161 #[.int .u32 a, .int .u32 b] w fun e w' => e = .returned (.int .i64 (cmpI a b)) ∧ w = w' := by
  by_cases h1 : a < b
  · have HR := Hid.mk' (show cmpI a b = -1 by unfold cmpI; rw [if_pos h1])
    go_enter Tryz.func161, Tryz.ntmps161
    go_wp2_with (go_at_call 194; refine (isnan_any _ _).mono ?_; rintro e w1 ⟨rfl, rfl⟩)
    go_ret
    exact ⟨ret_int HR.out.symm, rfl⟩
  · by_cases h2 : b < a
    · have HR := Hid.mk' (show cmpI a b = 1 by unfold cmpI; rw [if_neg h1, if_pos h2])
      go_enter Tryz.func161, Tryz.ntmps161
      go_wp2_with (go_at_call 194; refine (isnan_any _ _).mono ?_; rintro e w1 ⟨rfl, rfl⟩)
      go_ret
      exact ⟨ret_int HR.out.symm, rfl⟩
    · have HR := Hid.mk' (show cmpI a b = 0 by unfold cmpI; rw [if_neg h1, if_neg h2])
      go_enter Tryz.func161, Tryz.ntmps161
      go_wp2_with (go_at_call 194; refine (isnan_any _ _).mono ?_; rintro e w1 ⟨rfl, rfl⟩)
      go_ret
      exact ⟨ret_int HR.out.symm, rfl⟩

def orI (a b : Int) : Int := if a ≠ 0 then a else b
set_option maxRecDepth 100000 in set_option maxHeartbeats 1600000 in
theorem cmpor_any (a b : Int) (B : Nat) (w : World) (h0 : w.cell? ⟨B, 0, none⟩ = some (.int .i64 a)) (h1 : w.cell? ⟨B, 1, none⟩ = some (.int .i64 b)) (_hB : B < w.heap.size) :
    Calls Tryz.prog 160 #[.slice (some ⟨B, 0, none⟩) 2 2] w fun e w' => e = .returned (.int .i64 (orI a b)) ∧ Ext w w' := by
  by_cases ha : a = 0
  · subst ha
    by_cases hb : b = 0
    · subst hb
      go_enter Tryz.func160, Tryz.ntmps160
      go_wp2
      go_loop [8] (fun i => i = .int .i64 0 ∨ i = .int .i64 1 ∨ i = .int .i64 2) (fun i => 2 - (intOf i).toNat)
      case atStart => exact .inl rfl
      case round =>
        rcases hrel with rfl | rfl | rfl
        · go_wp2
          go_round
          case rel => exact .inr (.inl rfl)
          case measure => simp [intOf]
        · go_wp2
          go_round
          case rel => exact .inr (.inr rfl)
          case measure => simp [intOf]
        · go_wp2
          go_ret
          exact ⟨ret_int (by unfold orI; simp), by exact eX⟩
    · have hb' : (b != 0) = true := by simpa using hb
      have HR := Hid.mk' (show orI 0 b = b by unfold orI; simp)
      clear hb
      go_enter Tryz.func160, Tryz.ntmps160
      go_wp2
      go_loop [8] (fun i => i = .int .i64 0 ∨ i = .int .i64 1) (fun i => 2 - (intOf i).toNat)
      case atStart => exact .inl rfl
      case round =>
        rcases hrel with rfl | rfl
        · go_wp2
          go_round
          case rel => exact .inr rfl
          case measure => simp [intOf]
        · go_wp2
          go_ret
          exact ⟨ret_int HR.out.symm, by exact eX⟩
  · have ha' : (a != 0) = true := by simpa using ha
    have HR := Hid.mk' (show orI a b = a by unfold orI; rw [if_pos ha])
    clear ha
    go_enter Tryz.func160, Tryz.ntmps160
    go_wp2
    go_loop [8] (fun i => i = .int .i64 0) (fun _ => 0)
    case atStart => rfl
    case round =>
      subst hrel
      go_wp2
      go_ret
      exact ⟨ret_int HR.out.symm, by exact eX⟩

set_option maxRecDepth 100000 in set_option maxHeartbeats 4000000 in
theorem compare_any (o1 v1 o2 v2 : Int) (w : World) :
    Calls Tryz.prog 123 #[.agg #[.int .u32 o1, .int .u32 v1], .agg #[.int .u32 o2, .int .u32 v2]] w fun e w' => e = .returned (.int .i64 (cmpR o1 v1 o2 v2)) ∧ Ext w w' := by
  have HC := Hid.mk' (fun w => cmpu_any o1 o2 w)
  have HD := Hid.mk' (fun w => cmpu_any v1 v2 w)
  have HR := Hid.mk' (show orI (cmpI o1 o2) (cmpI v1 v2) = cmpR o1 v1 o2 v2 from rfl)
  obtain ⟨A, hA⟩ : ∃ A, A = cmpI o1 o2 := ⟨_, rfl⟩
  obtain ⟨B, hB⟩ : ∃ B, B = cmpI v1 v2 := ⟨_, rfl⟩
  rw [← hA] at HC HR
  rw [← hB] at HD HR
  clear hA hB
  go_enter Tryz.func123, Tryz.ntmps123
  go_wp2
  go_region_held3 (fun w' => Ext ((w.alloc (.cells #[.int .u32 o1, .int .u32 v1] 45)).alloc (.cells #[.int .u32 o2, .int .u32 v2] 45)) w' ∧ (∀ b o, b < ((w.alloc (.cells #[.int .u32 o1, .int .u32 v1] 45)).alloc (.cells #[.int .u32 o2, .int .u32 v2] 45)).heap.size → w'.cell? ⟨b, o, none⟩ = ((w.alloc (.cells #[.int .u32 o1, .int .u32 v1] 45)).alloc (.cells #[.int .u32 o2, .int .u32 v2] 45)).cell? ⟨b, o, none⟩) ∧ (∀ b o, b < ((w.alloc (.cells #[.int .u32 o1, .int .u32 v1] 45)).alloc (.cells #[.int .u32 o2, .int .u32 v2] 45)).heap.size → w'.frozen? ⟨b, o, none⟩ = ((w.alloc (.cells #[.int .u32 o1, .int .u32 v1] 45)).alloc (.cells #[.int .u32 o2, .int .u32 v2] 45)).frozen? ⟨b, o, none⟩)) ((exact held_of (by exact eX))) (first
    | (go_at_call_of 161 (Value.int .u32 o1); refine (HC.out _).mono ?_; rintro e w1 ⟨rfl, rfl⟩)
    | (go_at_call_of 161 (Value.int .u32 v1); refine (HD.out _).mono ?_; rintro e w1 ⟨rfl, rfl⟩)
    | (go_at_call 160; refine (cmpor_any A B _ _ (by go_simp) (by go_simp) (by simp)).mono ?_; rintro e w1 ⟨rfl, hb1⟩))
  go_wp2
  go_ret
  exact ⟨ret_int HR.out, by exact eX⟩

set_option maxRecDepth 100000 in set_option maxHeartbeats 1600000 in
theorem find1_any (p : RR) (o v : Int) (w : World) :
    Calls Tryz.prog 133 #[p.agg, .agg #[.int .u32 o, .int .u32 v]] w fun e w' => e = .returned (.int .i64 (cmpR p.r.oid p.r.ver o v)) ∧ Ext w w' := by
  obtain ⟨⟨oid, ver, nm, id, cols⟩, a, c⟩ := p
  unfold RR.agg
  simp only
  have HC := Hid.mk' (fun w => compare_any oid ver o v w)
  obtain ⟨A, hA⟩ : ∃ A, A = cmpR oid ver o v := ⟨_, rfl⟩
  rw [← hA] at HC ⊢
  clear hA
  go_enter Tryz.func133, Tryz.ntmps133
  go_wp2_with (go_at_call 123; refine (HC.out _).mono ?_; rintro e w1 ⟨rfl, hb1⟩)
  go_ret
  exact ⟨rfl, by exact eX⟩

end Go.Proofs.YtlobghojjfkchaaGreat

/-
What is wrong with a relation, the reference's answer.
-/
namespace Go.Proofs.YtlobghojjfkchaaGreat
open Go.RowKit

theorem take_any_no {cols : List Col} {c : Col} {k : Nat} (h : ∀ i (hi : i < cols.length), i < k → cols[i].nm ≠ c.nm) : (cols.take k).any (fun o => decide (o.nm = c.nm)) = false := by
  refine any_none fun i hi => ?_
  rw [List.length_take] at hi
  rw [List.getElem_take]
  exact decide_eq_false (h i (by omega) (by omega))
theorem take_any_yes {cols : List Col} {c : Col} {k j : Nat} (hj : j < cols.length) (hk : j < k) (h : cols[j].nm = c.nm) : (cols.take k).any (fun o => decide (o.nm = c.nm)) = true := by
  have hl : j < (cols.take k).length := by rw [List.length_take]; omega
  refine any_at (k := j) hl ?_
  rw [List.getElem_take]
  exact decide_eq_true h
theorem take_key {cols : List Col} {k : Nat} (hk : k < cols.length) : (cols.take (k + 1)).any Col.key = ((cols.take k).any Col.key || cols[k].key) := by
  rw [List.take_succ_eq_append_getElem hk, List.any_append]; simp
theorem colE_un {c : Col} {l : List Col} (h : namedB c.nm = false) : colE c l = 3 := by unfold colE; rw [if_pos h]
theorem colE_ex {c : Col} {l : List Col} (h : namedB c.nm = true) (h2 : l.any (fun o => decide (o.nm = c.nm)) = true) : colE c l = 9 := by unfold colE; rw [if_neg (by rw [h]; simp), if_pos h2]
theorem colE_ty {c : Col} {l : List Col} (h : namedB c.nm = true) (h2 : l.any (fun o => decide (o.nm = c.nm)) = false) (h3 : c.ty < 1 ∨ 6 < c.ty) : colE c l = 11 := by unfold colE; rw [if_neg (by rw [h]; simp), if_neg (by rw [h2]; simp), if_pos h3]
theorem colE_ok {c : Col} {l : List Col} (h : namedB c.nm = true) (h2 : l.any (fun o => decide (o.nm = c.nm)) = false) (h3 : ¬ (c.ty < 1 ∨ 6 < c.ty)) : colE c l = 0 := by unfold colE; rw [if_neg (by rw [h]; simp), if_neg (by rw [h2]; simp), if_neg h3]

set_option maxRecDepth 100000 in set_option maxHeartbeats 4000000 in
theorem rright8_big (oid ver : Int) (nm : ByteArray) (id : Int) (cols : List Col) (a : Option Addr) (cap : Nat) (w : World) (hl : Sl w (.slice a cols.length cap) 3 (cols.map Col.cells)) (hlen : cols.length ≤ 9223372036854775807)
    (hnm : nm.size ≤ 9223372036854775807) (hcs : ∀ c ∈ cols, c.nm.size ≤ 9223372036854775807) :
    Calls Tryz.prog 118 #[.agg #[.int .u32 oid, .int .u32 ver, .string nm, .int .u8 id, .slice a cols.length cap]] w fun e w' => e = .returned (.int .i64 (⟨oid, ver, nm, id, cols⟩ : Rl).right) ∧ Ext w w' := by
  have HN := Hid.mk' (fun w => rnamed_any nm w hnm)
  have HL := Hid.mk' hl
  have HCS := Hid.mk' hcs
  clear hl hcs
  by_cases h1 : oid = 0
  · have HR := Hid.mk' (show (⟨oid, ver, nm, id, cols⟩ : Rl).right = 4 by unfold Rl.right; rw [if_pos (.inl h1)])
    have e1 : (oid == 0) = true := by simpa using h1
    clear h1
    go_enter Tryz.func118, Tryz.ntmps118
    go_wp2
    go_ret
    exact ⟨ret_int HR.out.symm, by exact eX⟩
  have e1 : (oid == 0) = false := by simpa using h1
  by_cases h2 : ver = 0
  · have HR := Hid.mk' (show (⟨oid, ver, nm, id, cols⟩ : Rl).right = 4 by unfold Rl.right; rw [if_pos (.inr h2)])
    have e2 : (ver == 0) = true := by simpa using h2
    clear h2 h1
    go_enter Tryz.func118, Tryz.ntmps118
    go_wp2
    go_ret
    exact ⟨ret_int HR.out.symm, by exact eX⟩
  have e2 : (ver == 0) = false := by simpa using h2
  cases h3 : namedB nm with
  | false =>
    have HR := Hid.mk' (show (⟨oid, ver, nm, id, cols⟩ : Rl).right = 3 by unfold Rl.right; rw [if_neg (by simp only; omega), if_pos h3])
    rw [h3] at HN
    clear h3 h2 h1
    go_enter Tryz.func118, Tryz.ntmps118
    go_wp2_with (go_at_call 157; refine (HN.out _).mono ?_; rintro e w1 ⟨rfl, rfl⟩)
    go_ret
    exact ⟨ret_int HR.out.symm, by exact eX⟩
  | true =>
  by_cases h4 : 2 < id
  · have HR := Hid.mk' (show (⟨oid, ver, nm, id, cols⟩ : Rl).right = 7 by unfold Rl.right; rw [if_neg (by simp only; omega), if_neg (by simp only [h3]; simp), if_pos h4])
    rw [h3] at HN
    clear h3 h2 h1
    go_enter Tryz.func118, Tryz.ntmps118
    go_wp2_with (go_at_call 157; refine (HN.out _).mono ?_; rintro e w1 ⟨rfl, rfl⟩)
    go_ret
    exact ⟨ret_int HR.out.symm, by exact eX⟩
  by_cases h5 : cols.length < 1
  · have HR := Hid.mk' (show (⟨oid, ver, nm, id, cols⟩ : Rl).right = 17 by unfold Rl.right; rw [if_neg (by simp only; omega), if_neg (by simp only [h3]; simp), if_neg (by simp only; omega), if_pos (.inl h5)])
    have h4' : id ≤ 2 := by omega
    have hz : (((cols.length : Nat) : Int) == 0) = true := by simp; exact List.length_eq_zero_iff.1 (by omega)
    rw [h3] at HN
    clear h3 h2 h1
    go_enter Tryz.func118, Tryz.ntmps118
    go_wp2_with (go_at_call 157; refine (HN.out _).mono ?_; rintro e w1 ⟨rfl, rfl⟩)
    go_ret
    exact ⟨ret_int HR.out.symm, by exact eX⟩
  have hz : (((cols.length : Nat) : Int) == 0) = false := by
    simp; rintro rfl; simp at h5
  by_cases h6 : 16 < cols.length
  · have HR := Hid.mk' (show (⟨oid, ver, nm, id, cols⟩ : Rl).right = 17 by unfold Rl.right; rw [if_neg (by simp only; omega), if_neg (by simp only [h3]; simp), if_neg (by simp only; omega), if_pos (.inr h6)])
    have h4' : id ≤ 2 := by omega
    rw [h3] at HN
    clear h3 h2 h1
    go_enter Tryz.func118, Tryz.ntmps118
    go_wp2_with (go_at_call 157; refine (HN.out _).mono ?_; rintro e w1 ⟨rfl, rfl⟩)
    go_ret
    exact ⟨ret_int HR.out.symm, by exact eX⟩
  have HR := Hid.mk' (Rl.right_cols (r := (⟨oid, ver, nm, id, cols⟩ : Rl)) h1 h2 h3 (by simp only; omega) (by simp only; omega) (by simp only; omega))
  simp only at HR
  rw [h3] at HN
  have h4' : id ≤ 2 := by omega
  have h6' : cols.length ≤ 16 := by omega
  clear h3 h2 h1 h4 h5 h6
  go_enter Tryz.func118, Tryz.ntmps118
  go_wp2_with (go_at_call 157; refine (HN.out _).mono ?_; rintro e w1 ⟨rfl, rfl⟩)
  go_loopw [3, 4] (fun q i wr => ∃ k : Nat, k ≤ cols.length ∧ i = .int .i64 k ∧ (∃ B : Bool, q = .bool B ∧ Hid ((cols.take k).any Col.key = B)) ∧ Hid (∀ j, j < k → colAt cols j = 0) ∧ Hid (Ext (w.alloc (.cells #[.int .u32 oid, .int .u32 ver, .string nm, .int .u8 id, .slice a cols.length cap] 101)) wr)) (fun _ i _ => cols.length - (intOf i).toNat)
  case atStart => exact ⟨0, Nat.zero_le _, rfl, ⟨false, rfl, by show List.any _ _ = _; simp⟩, fun j h => by omega, Ext.refl _⟩
  case round =>
    obtain ⟨k, hk, rfl, ⟨B, rfl, hKB⟩, hrel, hE⟩ := hrel
    have HRL := hrel
    have hBx := (Blk.new w #[.int .u32 oid, .int .u32 ver, .string nm, .int .u8 id, .slice a cols.length cap] 101).ext hE.out
    have g0 := hBx.cell
    have z0 := hBx.lt
    have HBx := Hid.mk' hBx
    clear hBx
    by_cases hlt : k < cols.length
    · obtain ⟨b, o, rfl, hb, hx⟩ := HL.out.at_ (i := k) (by simpa using hlt)
      have hEw : Hid (Ext w wr) := Hid.mk' (((Ext.refl w).alloc _).trans hE.out)
      obtain ⟨f0, f1, f2⟩ := Col.at_ hlt hx hb hEw.out
      have hbw : b < wr.heap.size := Nat.lt_of_lt_of_le hb hEw.out.size
      have hAt := colAt_lt hlt
      have HNC := Hid.mk' (fun w => rnamed_any cols[k].nm w (HCS.out _ (List.getElem_mem hlt)))
      have HTK := Hid.mk' (take_key hlt)
      obtain ⟨c, hc⟩ : ∃ c, c = cols[k] := ⟨_, rfl⟩
      rw [← hc] at f0 f1 f2 hAt HNC HTK
      have HAt := Hid.mk' hAt
      have HC := Hid.mk' hc
      clear hx hAt hc
      cases hnc : namedB c.nm with
      | false =>
        rw [hnc] at HNC
        have HR2 := Hid.mk' (show (⟨oid, ver, nm, id, cols⟩ : Rl).right = 3 by rw [HR.out, firstE_at hrel.out hlt (by rw [HAt.out, colE_un hnc]; decide), HAt.out, colE_un hnc]; simp)
        clear hnc
        go_wp2_with (go_at_call 157; refine (HNC.out _).mono ?_; rintro e w1 ⟨rfl, rfl⟩)
        go_ret
        exact ⟨ret_int HR2.out.symm, hEw.out.trans (by exact eX)⟩
      | true =>
        rw [hnc] at HNC
        have HNM := Hid.mk' hnc
        clear hnc
        go_wp2_with (go_at_call 157; refine (HNC.out _).mono ?_; rintro e w1 ⟨rfl, rfl⟩)
        obtain ⟨wo, rfl⟩ : ∃ wo : World, wo = wr := ⟨_, rfl⟩
        go_loopw [6] (fun m wr => ∃ j : Nat, j ≤ k ∧ m = .int .i64 j ∧ Hid (∀ i (hi : i < cols.length), i < j → cols[i].nm ≠ c.nm) ∧ Hid (Ext (wo.alloc (.cells #[.string c.nm, .int .u8 c.ty, .bool c.key] 171)) wr)) (fun m _ => k - (intOf m).toNat)
        case atStart => exact ⟨0, Nat.zero_le _, rfl, fun i _ h => by omega, Ext.refl _⟩
        case round =>
          obtain ⟨j, hj, rfl, hno, hEi⟩ := hrel
          have hEri : Hid (Ext wo wr) := Hid.mk' (((Ext.refl wo).alloc _).trans hEi.out)
          have hBi := HBx.out.ext hEri.out
          have gi := hBi.cell
          have zi := hBi.lt
          have hCi := (Blk.new wo #[.string c.nm, .int .u8 c.ty, .bool c.key] 171).ext hEi.out
          have ci := hCi.cell
          have yi := hCi.lt
          clear hBi hCi
          by_cases hjk : j < k
          · have hjl : j < cols.length := by omega
            obtain ⟨b2, o2, e2, hb2, hx2⟩ := HL.out.at_ (i := j) (by simpa using hjl)
            obtain ⟨rfl, rfl⟩ : b2 = b ∧ o2 = o := by simp at e2; exact ⟨e2.1.symm, e2.2.symm⟩
            obtain ⟨p0, p1, p2⟩ := Col.at_ hjl hx2 hb2 (hEw.out.trans hEri.out)
            have hbi : b2 < wr.heap.size := Nat.lt_of_lt_of_le hbw hEri.out.size
            clear e2 hx2
            by_cases hnn : cols[j].nm = c.nm
            · have hEq : (cols[j].nm.toList == c.nm.toList) = true := by rw [str_beq]; exact decide_eq_true hnn
              have hAl := take_any_yes hjl hjk hnn
              have HR2 := Hid.mk' (show (⟨oid, ver, nm, id, cols⟩ : Rl).right = 9 by rw [HR.out, firstE_at HRL.out hlt (by rw [HAt.out, colE_ex HNM.out hAl]; decide), HAt.out, colE_ex HNM.out hAl]; simp)
              clear hnn hAl
              go_wp2
              go_region_held3 (fun w' => Ext (wr) w' ∧ (∀ b o, b < (wr).heap.size → w'.cell? ⟨b, o, none⟩ = (wr).cell? ⟨b, o, none⟩) ∧ (∀ b o, b < (wr).heap.size → w'.frozen? ⟨b, o, none⟩ = (wr).frozen? ⟨b, o, none⟩)) ((exact held_of (by exact eX))) (fail)
              go_wp2
              go_ret
              exact ⟨ret_int HR2.out.symm, (hEw.out.trans hEri.out).trans (by exact eX)⟩
            · have hEq : (cols[j].nm.toList == c.nm.toList) = false := by rw [str_beq]; exact decide_eq_false hnn
              have HNN := Hid.mk' hnn
              clear hnn
              go_wp2
              go_region_held3 (fun w' => Ext (wr) w' ∧ (∀ b o, b < (wr).heap.size → w'.cell? ⟨b, o, none⟩ = (wr).cell? ⟨b, o, none⟩) ∧ (∀ b o, b < (wr).heap.size → w'.frozen? ⟨b, o, none⟩ = (wr).frozen? ⟨b, o, none⟩)) ((exact held_of (by exact eX))) (fail)
              go_wp2
              go_roundw
              case rel => exact ⟨j + 1, by omega, by go_num, fun i hi hij => by
                by_cases e : i = j
                · subst e; exact HNN.out
                · exact hno.out i hi (by omega), Hid.mk' (hEi.out.trans (by exact eX))⟩
              case measure => simp [intOf]; omega
          · obtain rfl : j = k := by omega
            have HNO := Hid.mk' (take_any_no hno.out)
            by_cases ht : c.ty < 1 ∨ 6 < c.ty
            · have HR2 := Hid.mk' (show (⟨oid, ver, nm, id, cols⟩ : Rl).right = 11 by rw [HR.out, firstE_at HRL.out hlt (by rw [HAt.out, colE_ty HNM.out HNO.out ht]; decide), HAt.out, colE_ty HNM.out HNO.out ht]; simp)
              rcases ht with ht | ht
              all_goals
                (try have ht1 : 1 ≤ c.ty := by omega)
                go_wp2
                go_ret
                exact ⟨ret_int HR2.out.symm, (hEw.out.trans hEri.out).trans (by exact eX)⟩
            · have ht1 : 1 ≤ c.ty := by omega
              have ht2 : c.ty ≤ 6 := by omega
              have HA0 := Hid.mk' (HAt.out.trans (colE_ok HNM.out HNO.out ht))
              clear ht
              cases B
              all_goals
                go_wp2
                go_roundw
                case rel => exact ⟨j + 1, by omega, by go_num, ⟨_, rfl, by show List.any _ _ = _; rw [HTK.out, hKB.out]; simp⟩, fun i hi => by
                  by_cases e : i = j
                  · subst e; exact HA0.out
                  · exact HRL.out i (by omega), Hid.mk' ((hE.out.trans hEri.out).trans (by exact eX))⟩
                case measure => simp [intOf]; omega
    · have hkk : k = cols.length := by omega
      have hEw : Hid (Ext w wr) := Hid.mk' (((Ext.refl w).alloc _).trans hE.out)
      have HR2 := Hid.mk' (show (⟨oid, ver, nm, id, cols⟩ : Rl).right = if id = 1 ∧ cols.any Col.key = false then 13 else 0 by rw [HR.out, firstE_zero (fun i hi => hrel.out i (by omega)), if_neg (by simp)])
      subst hkk
      rw [List.take_length] at hKB
      rw [hKB.out] at HR2
      clear hrel HR
      by_cases h7 : id = 1
      · subst h7
        cases B
        all_goals
          go_wp2
          go_ret
          exact ⟨ret_int (by rw [HR2.out]; simp), hEw.out⟩
      · have e7 : (id == 1) = false := by simpa using h7
        have HR3 := Hid.mk' (HR2.out.trans (if_neg (fun h => h7 h.1)))
        clear h7 HR2
        go_wp2
        go_ret
        exact ⟨ret_int HR3.out.symm, hEw.out⟩

end Go.Proofs.YtlobghojjfkchaaGreat

/-
Catalogs, the reference's: Ahead, Get.
-/
namespace Go.Proofs.YtlobghojjfkchaaGreat
open Go.RowKit

theorem wpHd_takeD {P : Program} {ops : Array Oper} {Q : Exit → Act → World → Prop} {md : Region.Mode} {S : World → Prop} {n i : Nat} {oi : Oper} {d : Option Tmp} {v : Value} {f : Nat} {listed : Array Bool} {a : Act} {w : World} (hi : ops[i]? = some oi) (hd : oi.dst = d)
    (hB : headB md ops n listed = true) (hf : Region.free md ops listed i = true) (hr : ((Region.ready md ops listed).contains i && decide (i < n)) = true)
    (hQ : ∀ c a w, Q (.panic c) (a.put d v) w → Q (.panic c) a w) (hy : YieldsIf P ops S oi v a) (hS : S w)
    (h : wpHd P md ops Q S n f (listed.setIfInBounds i true) (a.put d v) w) : wpHd P md ops Q S n (f + 1) listed a w := by
  subst hd
  exact wpHd_take hi hB hf hr hQ hy hS h

set_option maxRecDepth 100000 in set_option maxHeartbeats 1600000 in
theorem rahead_any (o1 v1 o2 v2 : Int) (w : World) :
    Calls Tryz.prog 96 #[.agg #[.int .u32 o1, .int .u32 v1], .agg #[.int .u32 o2, .int .u32 v2]] w fun e w' => e = .returned (.bool (aheadB o1 v1 o2 v2)) ∧ Ext w w' := by
  by_cases h1 : o1 < o2
  · have HR := Hid.mk' (show aheadB o1 v1 o2 v2 = true from decide_eq_true (.inl h1))
    go_enter Tryz.func96, Tryz.ntmps96
    go_wp2
    go_ret
    exact ⟨ret_bool HR.out.symm, by exact eX⟩
  by_cases h2 : o1 = o2
  · subst h2
    by_cases h3 : v1 < v2
    · have HR := Hid.mk' (show aheadB o1 v1 o1 v2 = true from decide_eq_true (.inr ⟨rfl, h3⟩))
      go_enter Tryz.func96, Tryz.ntmps96
      go_wp2
      go_ret
      exact ⟨ret_bool HR.out.symm, by exact eX⟩
    · have HR := Hid.mk' (show aheadB o1 v1 o1 v2 = false from decide_eq_false (by unfold aheadP; omega))
      go_enter Tryz.func96, Tryz.ntmps96
      go_wp2
      go_ret
      exact ⟨ret_bool HR.out.symm, by exact eX⟩
  · have HR := Hid.mk' (show aheadB o1 v1 o2 v2 = false from decide_eq_false (by unfold aheadP; omega))
    have h2' : (o1 == o2) = false := by simpa using h2
    clear h2
    go_enter Tryz.func96, Tryz.ntmps96
    go_wp2
    go_ret
    exact ⟨ret_bool HR.out.symm, by exact eX⟩

set_option maxRecDepth 100000 in set_option maxHeartbeats 2000000 in
theorem rget_any (ps : List RR) (a : Option Addr) (cap : Nat) (o v : Int) (w : World) (hl : RL w (.slice a ps.length cap) ps) (hlen : ps.length ≤ 1000) :
    Calls Tryz.prog 52 #[.slice a ps.length cap, .agg #[.int .u32 o, .int .u32 v]] w fun e w' => e = .returned (.tuple #[((getP o v ps).getD RR.zero).agg, .bool (getP o v ps).isSome]) ∧ Ext w w' := by
  have HL := Hid.mk' hl.row
  clear hl
  go_enter Tryz.func52, Tryz.ntmps52
  go_wp2
  go_loopw [6] (fun i wr => ∃ k : Nat, k ≤ ps.length ∧ i = .int .i64 k ∧ Hid (∀ j (hj : j < ps.length), j < k → ¬ (ps[j].r.oid = o ∧ ps[j].r.ver = v)) ∧ Hid (Ext ((w.alloc (.cells #[.int .u32 o, .int .u32 v] 25)).alloc (.cells #[.int .u32 0, .int .u32 0, .string ⟨#[]⟩, .int .u8 0, .slice none 0 0] 101)) wr)) (fun i _ => ps.length - (intOf i).toNat)
  case atStart => exact ⟨0, Nat.zero_le _, rfl, Hid.mk' (fun j hj h => by omega), Hid.mk' (Ext.refl _)⟩
  case round =>
    obtain ⟨k, hk, rfl, hrel, hE⟩ := hrel
    have hEw : Ext w wr := (((Ext.refl w).alloc _).alloc _).trans hE.out
    have HB0 := Hid.mk' (((Blk.new w #[.int .u32 o, .int .u32 v] 25).alloc (.cells #[.int .u32 0, .int .u32 0, .string ⟨#[]⟩, .int .u8 0, .slice none 0 0] 101)).ext hE.out)
    have HB1 := Hid.mk' ((Blk.new' (w := w.alloc (.cells #[.int .u32 o, .int .u32 v] 25)) (b := w.heap.size + 1) #[.int .u32 0, .int .u32 0, .string ⟨#[]⟩, .int .u8 0, .slice none 0 0] 101 (by simp)).ext hE.out)
    have g0 := HB0.out.cell
    have z0 := HB0.out.lt
    have g1 := HB1.out.cell
    have g1f := HB1.out.frozen
    have z1 := HB1.out.lt
    by_cases hlt : k < ps.length
    · obtain ⟨b, q, rfl, hb, hx⟩ := HL.out.at_ (i := k) (by simpa using hlt)
      obtain ⟨f0, f1, f2, f3, f4⟩ := RR.at_ hlt hx hb hEw
      have hbw : b < wr.heap.size := Nat.lt_of_lt_of_le hb hEw.size
      have HGP := Hid.mk' (fun h => getP_at (o := o) (v := v) hlt h hrel.out)
      obtain ⟨p, hp⟩ : ∃ p, p = ps[k] := ⟨_, rfl⟩
      rw [← hp] at f0 f1 f2 f3 f4 HGP
      have HP := Hid.mk' hp
      clear hx hp
      have HEW := Hid.mk' hEw
      clear hEw
      by_cases h1 : p.r.oid = o ∧ p.r.ver = v
      · have HG := Hid.mk' (HGP.out h1)
        obtain ⟨e1, e2⟩ := h1
        rw [e1] at f0
        rw [e2] at f1
        clear HGP
        go_wp2
        go_region_held3 (fun w' => Ext (wr) w' ∧ (∀ b o, b < (wr).heap.size → w'.cell? ⟨b, o, none⟩ = (wr).cell? ⟨b, o, none⟩) ∧ (∀ b o, b < (wr).heap.size → w'.frozen? ⟨b, o, none⟩ = (wr).frozen? ⟨b, o, none⟩)) ((exact held_of (by exact eX))) (fail)
        go_wp2
        simp [bodyPost, results, Tryz.results52, go_sem, *]
        have hEw := HEW.out
        exact ⟨⟨by rw [HG.out]; show _ = RR.agg p; unfold RR.agg; rw [e1, e2], by rw [HG.out]; rfl⟩, by exact eX⟩
      · have HNO := Hid.mk' h1
        by_cases h2 : p.r.oid = o
        · have h3 : (p.r.ver == v) = false := by simpa using (fun h => h1 ⟨h2, h⟩)
          rw [h2] at f0
          clear HGP h1
          go_wp2
          go_region_held3 (fun w' => Ext (wr) w' ∧ (∀ b o, b < (wr).heap.size → w'.cell? ⟨b, o, none⟩ = (wr).cell? ⟨b, o, none⟩) ∧ (∀ b o, b < (wr).heap.size → w'.frozen? ⟨b, o, none⟩ = (wr).frozen? ⟨b, o, none⟩)) ((exact held_of (by exact eX))) (fail)
          go_wp2
          go_roundw
          case rel => exact ⟨k + 1, by omega, by go_num, Hid.mk' (fun j hj hjk => by
            by_cases e : j = k
            · subst e; rw [← HP.out]; exact HNO.out
            · exact hrel.out j hj (by omega)), Hid.mk' (by have hE := hE.out; exact eX)⟩
          case measure => simp [intOf]; omega
        · have h3 : (p.r.oid == o) = false := by simpa using h2
          clear HGP h1 h2
          go_wp2
          go_region_held3 (fun w' => Ext (wr) w' ∧ (∀ b o, b < (wr).heap.size → w'.cell? ⟨b, o, none⟩ = (wr).cell? ⟨b, o, none⟩) ∧ (∀ b o, b < (wr).heap.size → w'.frozen? ⟨b, o, none⟩ = (wr).frozen? ⟨b, o, none⟩)) ((exact held_of (by exact eX))) (fail)
          go_wp2
          go_roundw
          case rel => exact ⟨k + 1, by omega, by go_num, Hid.mk' (fun j hj hjk => by
            by_cases e : j = k
            · subst e; rw [← HP.out]; exact HNO.out
            · exact hrel.out j hj (by omega)), Hid.mk' (by have hE := hE.out; exact eX)⟩
          case measure => simp [intOf]; omega
    · have HN := Hid.mk' (getP_none (o := o) (v := v) (ps := ps) (fun j hj => hrel.out j hj (by omega)))
      have HEW := Hid.mk' hEw
      clear hEw
      go_wp2
      simp [bodyPost, results, Tryz.results52, go_sem, *]
      have hEw := HEW.out
      exact ⟨⟨by rw [HN.out]; rfl, by rw [HN.out]⟩, by exact eX⟩

end Go.Proofs.YtlobghojjfkchaaGreat

/-
The place of a ref in a catalog.
-/
namespace Go.Proofs.YtlobghojjfkchaaGreat
open Go.RowKit

theorem posR_in {ro rv : Int} {ps : List RR} {i : Nat} (hi : i ≤ ps.length) (h1 : ∀ m (h : m < ps.length), m < i → aheadP ps[m].r.oid ps[m].r.ver ro rv) (h2 : ∀ m (h : m < ps.length), i ≤ m → ¬ aheadP ps[m].r.oid ps[m].r.ver ro rv) : posR ro rv (ps.map RR.r) = i := by
  refine posR_of (by rw [List.length_map]; exact hi) (fun j hj hji => ?_) (fun hj => ?_)
  · rw [List.getElem_map]; exact h1 j (by rwa [List.length_map] at hj) hji
  · rw [List.getElem_map]; exact h2 i (by rwa [List.length_map] at hj) (Nat.le_refl _)

set_option maxRecDepth 100000 in set_option maxHeartbeats 4000000 in
theorem bs_any (ps : List RR) (a : Option Addr) (cap : Nat) (ro rv : Int) (w : World) (hl : RL w (.slice a ps.length cap) ps) (hlen : ps.length ≤ 1000) (hs : Srt (ps.map RR.r)) :
    Calls Tryz.prog 132 #[.slice a ps.length cap, .agg #[.int .u32 ro, .int .u32 rv], .func (.func 133) #[] #[]] w fun e w' => e = .returned (.tuple #[.int .i64 (posR ro rv (ps.map RR.r) : Nat), .bool (hasR ro rv (ps.map RR.r))]) ∧ Ext w w' := by
  have HL := Hid.mk' hl.row
  have HS := Hid.mk' hs
  have HF := Hid.mk' (fun p W => find1_any p ro rv W)
  unfold RR.agg at HF
  clear hl hs
  go_enter Tryz.func132, Tryz.ntmps132
  go_wp2
  go_loopw [9, 10] (fun i j wr => ∃ x y : Nat, x ≤ y ∧ y ≤ ps.length ∧ i = .int .i64 x ∧ j = .int .i64 y ∧ Hid (∀ m (h : m < ps.length), m < x → aheadP ps[m].r.oid ps[m].r.ver ro rv) ∧ Hid (∀ m (h : m < ps.length), y ≤ m → ¬ aheadP ps[m].r.oid ps[m].r.ver ro rv) ∧ Hid (Ext (w.alloc (.cells #[.int .u32 ro, .int .u32 rv] 45)) wr)) (fun i j _ => (intOf j).toNat - (intOf i).toNat)
  case atStart => exact ⟨0, ps.length, Nat.zero_le _, Nat.le_refl _, rfl, rfl, Hid.mk' (fun m h h2 => by omega), Hid.mk' (fun m h h2 => by omega), Hid.mk' (Ext.refl _)⟩
  case round =>
    obtain ⟨x, y, hxy, hy, rfl, rfl, hlo, hhi, hE⟩ := hrel
    have hEw : Ext w wr := ((Ext.refl w).alloc _).trans hE.out
    have HB0 := Hid.mk' ((Blk.new w #[.int .u32 ro, .int .u32 rv] 45).ext hE.out)
    have g0 := HB0.out.cell
    have z0 := HB0.out.lt
    have HEW := Hid.mk' hEw
    by_cases hlt : x < y
    · obtain ⟨h, hh⟩ : ∃ h : Nat, h = (x + y) / 2 := ⟨_, rfl⟩
      have hhp : h < ps.length := by omega
      obtain ⟨b, q, rfl, hb, hx⟩ := HL.out.at_ (i := h) (by simpa using hhp)
      obtain ⟨f0, f1, f2, f3, f4⟩ := RR.at_ hhp hx hb hEw
      have hbw : b < wr.heap.size := Nat.lt_of_lt_of_le hb hEw.size
      have HHI := Hid.mk' (hhi.out)
      have HLO := Hid.mk' (hlo.out)
      have hsx : ∀ m (hm : m < ps.length), m ≤ h → aheadP ps[h].r.oid ps[h].r.ver ro rv → aheadP ps[m].r.oid ps[m].r.ver ro rv := fun m hm hmh hq => by
        rcases Nat.eq_or_lt_of_le hmh with e | e
        · subst e; exact hq
        · have := HS.out.at_ (i := m) (j := h) (by simpa using hm) (by simpa using hhp) e
          unfold Rl.lt at this
          simp only [List.getElem_map] at this
          exact ahead_trans this hq
      have hsy : ∀ m (hm : m < ps.length), h ≤ m → ¬ aheadP ps[h].r.oid ps[h].r.ver ro rv → ¬ aheadP ps[m].r.oid ps[m].r.ver ro rv := fun m hm hmh hq hq2 => by
        rcases Nat.eq_or_lt_of_le hmh with e | e
        · subst e; exact hq hq2
        · have := HS.out.at_ (i := h) (j := m) (by simpa using hhp) (by simpa using hm) e
          unfold Rl.lt at this
          simp only [List.getElem_map] at this
          exact hq (ahead_trans this hq2)
      have HSX := Hid.mk' hsx
      have HSY := Hid.mk' hsy
      have HCN := Hid.mk' (cmpR_neg (o1 := ps[h].r.oid) (v1 := ps[h].r.ver) (o2 := ro) (v2 := rv))
      have HFW := Hid.mk' (fun W => HF.out ps[h] W)
      obtain ⟨p, hp⟩ : ∃ p, p = ps[h] := ⟨_, rfl⟩
      rw [← hp] at f0 f1 f2 f3 f4 HSX HSY HCN HFW
      obtain ⟨A, hA⟩ : ∃ A, A = cmpR p.r.oid p.r.ver ro rv := ⟨_, rfl⟩
      rw [← hA] at HCN HFW
      have e1 : IntKind.i64.wrap ((x : Int) + (y : Int)) = (x : Int) + (y : Int) := by rw [IntKind.wrap_i64]; omega
      have e2 : IntKind.u64.wrap ((x : Int) + (y : Int)) = (x : Int) + (y : Int) := by rw [IntKind.wrap_u64]; omega
      have e3 : ((x : Int) + (y : Int)) / 2 = (h : Int) := by omega
      have HH := Hid.mk' hh
      clear hx hp hA hsx hsy hhi hlo hEw hh
      by_cases hA : A < 0
      · have HA := Hid.mk' (HCN.out.1 hA)
        go_wp2
        go_region_held3 (fun w' => Ext (wr) w' ∧ (∀ b o, b < (wr).heap.size → w'.cell? ⟨b, o, none⟩ = (wr).cell? ⟨b, o, none⟩) ∧ (∀ b o, b < (wr).heap.size → w'.frozen? ⟨b, o, none⟩ = (wr).frozen? ⟨b, o, none⟩)) ((exact held_of (by exact eX))) (first | (go_at_call 133; refine (HFW.out _).mono ?_; rintro e w2 ⟨rfl, hb2⟩; have HE2 := Hid.mk' (show Ext wr w2 by exact eX)))
        clear hb2
        go_wp2
        go_roundw
        case rel => exact ⟨h + 1, y, by have := HH.out; omega, hy, by go_num, rfl, Hid.mk' (fun m hm hmh => HSX.out m hm (by omega) HA.out), HHI, Hid.mk' (hE.out.trans (by have := HE2.out; exact eX))⟩
        case measure => have := HH.out; simp [intOf]; omega
      · have HA := Hid.mk' (fun q => hA (HCN.out.2 q))
        go_wp2
        go_region_held3 (fun w' => Ext (wr) w' ∧ (∀ b o, b < (wr).heap.size → w'.cell? ⟨b, o, none⟩ = (wr).cell? ⟨b, o, none⟩) ∧ (∀ b o, b < (wr).heap.size → w'.frozen? ⟨b, o, none⟩ = (wr).frozen? ⟨b, o, none⟩)) ((exact held_of (by exact eX))) (first | (go_at_call 133; refine (HFW.out _).mono ?_; rintro e w2 ⟨rfl, hb2⟩; have HE2 := Hid.mk' (show Ext wr w2 by exact eX)))
        clear hb2
        go_wp2
        go_roundw
        case rel => exact ⟨x, h, by have := HH.out; omega, by omega, rfl, rfl, HLO, Hid.mk' (fun m hm hmh => HSY.out m hm hmh HA.out), Hid.mk' (hE.out.trans (by have := HE2.out; exact eX))⟩
        case measure => have := HH.out; simp [intOf]; omega
    · obtain rfl : x = y := by omega
      have HP := Hid.mk' (posR_in (ro := ro) (rv := rv) hy hlo.out hhi.out)
      have HHS := Hid.mk' (HS.out.has ro rv)
      by_cases hlt2 : x < ps.length
      · obtain ⟨b, q, rfl, hb, hx⟩ := HL.out.at_ (i := x) (by simpa using hlt2)
        obtain ⟨f0, f1, f2, f3, f4⟩ := RR.at_ hlt2 hx hb hEw
        have hbw : b < wr.heap.size := Nat.lt_of_lt_of_le hb hEw.size
        have HH2 : Hid (hasR ro rv (ps.map RR.r) = decide (cmpR ps[x].r.oid ps[x].r.ver ro rv = 0)) := Hid.mk' (by
          rw [HHS.out]
          have hp := HP.out
          apply decide_eq_decide.2
          rw [cmpR_zero]
          constructor
          · rintro ⟨h1, h2⟩
            simp only [hp, List.getElem_map] at h2
            exact h2
          · intro h2
            refine ⟨by rw [hp, List.length_map]; exact hlt2, ?_⟩
            simp only [hp, List.getElem_map]
            exact h2)
        have HFW := Hid.mk' (fun W => HF.out ps[x] W)
        obtain ⟨p, hp⟩ : ∃ p, p = ps[x] := ⟨_, rfl⟩
        rw [← hp] at f0 f1 f2 f3 f4 HFW HH2
        obtain ⟨A, hA⟩ : ∃ A, A = cmpR p.r.oid p.r.ver ro rv := ⟨_, rfl⟩
        rw [← hA] at HFW HH2
        clear hx hp hA hEw hhi hlo hlt
        by_cases hA : A = 0
        · subst hA
          go_wp2
          go_region_held3 (fun w' => Ext (wr) w' ∧ (∀ b o, b < (wr).heap.size → w'.cell? ⟨b, o, none⟩ = (wr).cell? ⟨b, o, none⟩) ∧ (∀ b o, b < (wr).heap.size → w'.frozen? ⟨b, o, none⟩ = (wr).frozen? ⟨b, o, none⟩)) ((exact held_of (by exact eX))) (first | (go_at_call 133; refine (HFW.out _).mono ?_; rintro e w2 ⟨rfl, hb2⟩; have HE2 := Hid.mk' (show Ext wr w2 by exact eX)))
          clear hb2
          go_wp2
          go_ret2
          exact ⟨by rw [HP.out, HH2.out]; rfl, HEW.out.trans (by have := HE2.out; exact eX)⟩
        · have hA' : (A == 0) = false := by simpa using hA
          have HN := Hid.mk' (HH2.out.trans (decide_eq_false hA))
          clear hA
          go_wp2
          go_region_held3 (fun w' => Ext (wr) w' ∧ (∀ b o, b < (wr).heap.size → w'.cell? ⟨b, o, none⟩ = (wr).cell? ⟨b, o, none⟩) ∧ (∀ b o, b < (wr).heap.size → w'.frozen? ⟨b, o, none⟩ = (wr).frozen? ⟨b, o, none⟩)) ((exact held_of (by exact eX))) (first | (go_at_call 133; refine (HFW.out _).mono ?_; rintro e w2 ⟨rfl, hb2⟩; have HE2 := Hid.mk' (show Ext wr w2 by exact eX)))
          clear hb2
          go_wp2
          go_ret2
          exact ⟨by rw [HP.out, HN.out]; rfl, HEW.out.trans (by have := HE2.out; exact eX)⟩
      · obtain rfl : x = ps.length := by omega
        have HN : Hid (hasR ro rv (ps.map RR.r) = false) := Hid.mk' (by
          rw [HHS.out]
          apply decide_eq_false
          rintro ⟨h1, -⟩
          rw [HP.out, List.length_map] at h1
          omega)
        clear hEw hhi hlo hlt HHS
        go_wp2
        refine wp_region_head 15 (fun w' => Ext (wr) w' ∧ (∀ b o, b < (wr).heap.size → w'.cell? ⟨b, o, none⟩ = (wr).cell? ⟨b, o, none⟩) ∧ (∀ b o, b < (wr).heap.size → w'.frozen? ⟨b, o, none⟩ = (wr).frozen? ⟨b, o, none⟩)) (by kernel_rfl) (by decide) ?_
        have hA0 : Hid ((fun w' => Ext (wr) w' ∧ (∀ b o, b < (wr).heap.size → w'.cell? ⟨b, o, none⟩ = (wr).cell? ⟨b, o, none⟩) ∧ (∀ b o, b < (wr).heap.size → w'.frozen? ⟨b, o, none⟩ = (wr).frozen? ⟨b, o, none⟩)) wr.drew) := held_of (by exact eX)
        (refine wpHd_takeD (i := 0) (d := some 35) (v := ?_) rfl rfl (by kernel_rfl) (by kernel_rfl) (by kernel_rfl) (fun _ _ _ h => h) (Or.inl ⟨by rfl, ?_⟩) hA0.out ?_; rotate_left 1; (· (intro w' hS'; (obtain ⟨hEs', hcs', hfs'⟩ := hS'); go_simp; try with_reducible rfl)))
        try simp only [Act.put, List.setIfInBounds_toArray, List.set_cons_zero, List.set_cons_succ]
        (refine wpHd_takeD (i := 1) (d := some 36) (v := ?_) rfl rfl (by kernel_rfl) (by kernel_rfl) (by kernel_rfl) (fun _ _ _ h => h) (Or.inl ⟨by rfl, ?_⟩) hA0.out ?_; rotate_left 1; (· (intro w' hS'; (obtain ⟨hEs', hcs', hfs'⟩ := hS'); go_simp; try with_reducible rfl)))
        try simp only [Act.put, List.setIfInBounds_toArray, List.set_cons_zero, List.set_cons_succ]
        (refine wpHd_takeD (i := 2) (d := some 37) (v := ?_) rfl rfl (by kernel_rfl) (by kernel_rfl) (by kernel_rfl) (fun _ _ _ h => h) (Or.inl ⟨by rfl, ?_⟩) hA0.out ?_; rotate_left 1; (· (intro w' hS'; (obtain ⟨hEs', hcs', hfs'⟩ := hS'); go_simp; try with_reducible rfl)))
        try simp only [Act.put, List.setIfInBounds_toArray, List.set_cons_zero, List.set_cons_succ]
        (refine wpHd_takeD (i := 3) (d := some 38) (v := ?_) rfl rfl (by kernel_rfl) (by kernel_rfl) (by kernel_rfl) (fun _ _ _ h => h) (Or.inl ⟨by rfl, ?_⟩) hA0.out ?_; rotate_left 1; (· (intro w' hS'; (obtain ⟨hEs', hcs', hfs'⟩ := hS'); go_simp; try with_reducible rfl)))
        try simp only [Act.put, List.setIfInBounds_toArray, List.set_cons_zero, List.set_cons_succ]
        (refine wpHd_takeD (i := 4) (d := some 39) (v := ?_) rfl rfl (by kernel_rfl) (by kernel_rfl) (by kernel_rfl) (fun _ _ _ h => h) (Or.inl ⟨by rfl, ?_⟩) hA0.out ?_; rotate_left 1; (· (intro w' hS'; (obtain ⟨hEs', hcs', hfs'⟩ := hS'); go_simp; try with_reducible rfl)))
        try simp only [Act.put, List.setIfInBounds_toArray, List.set_cons_zero, List.set_cons_succ]
        refine wpHd_takeD (i := 5) (d := some 40) (v := undef) rfl rfl (by kernel_rfl) (by kernel_rfl) (by kernel_rfl) (fun _ _ _ h => h) (Or.inr ⟨by rfl, rfl⟩) hA0.out ?_
        try simp only [Act.put, List.setIfInBounds_toArray, List.set_cons_zero, List.set_cons_succ]
        refine wpHd_takeD (i := 6) (d := some 41) (v := undef) rfl rfl (by kernel_rfl) (by kernel_rfl) (by kernel_rfl) (fun _ _ _ h => h) (Or.inr ⟨by rfl, rfl⟩) hA0.out ?_
        try simp only [Act.put, List.setIfInBounds_toArray, List.set_cons_zero, List.set_cons_succ]
        refine wpHd_takeD (i := 7) (d := some 42) (v := undef) rfl rfl (by kernel_rfl) (by kernel_rfl) (by kernel_rfl) (fun _ _ _ h => h) (Or.inr ⟨by rfl, rfl⟩) hA0.out ?_
        try simp only [Act.put, List.setIfInBounds_toArray, List.set_cons_zero, List.set_cons_succ]
        refine wpHd_takeD (i := 8) (d := some 43) (v := undef) rfl rfl (by kernel_rfl) (by kernel_rfl) (by kernel_rfl) (fun _ _ _ h => h) (Or.inr ⟨by rfl, rfl⟩) hA0.out ?_
        try simp only [Act.put, List.setIfInBounds_toArray, List.set_cons_zero, List.set_cons_succ]
        refine wpHd_takeD (i := 9) (d := some 44) (v := undef) rfl rfl (by kernel_rfl) (by kernel_rfl) (by kernel_rfl) (fun _ _ _ h => h) (Or.inr ⟨by rfl, rfl⟩) hA0.out ?_
        try simp only [Act.put, List.setIfInBounds_toArray, List.set_cons_zero, List.set_cons_succ]
        refine wpHd_takeD (i := 10) (d := some 45) (v := undef) rfl rfl (by kernel_rfl) (by kernel_rfl) (by kernel_rfl) (fun _ _ _ h => h) (Or.inr ⟨by rfl, rfl⟩) hA0.out ?_
        try simp only [Act.put, List.setIfInBounds_toArray, List.set_cons_zero, List.set_cons_succ]
        refine wpHd_takeD (i := 11) (d := some 46) (v := undef) rfl rfl (by kernel_rfl) (by kernel_rfl) (by kernel_rfl) (fun _ _ _ h => h) (Or.inr ⟨by rfl, rfl⟩) hA0.out ?_
        try simp only [Act.put, List.setIfInBounds_toArray, List.set_cons_zero, List.set_cons_succ]
        refine wpHd_takeD (i := 12) (d := some 47) (v := undef) rfl rfl (by kernel_rfl) (by kernel_rfl) (by kernel_rfl) (fun _ _ _ h => h) (Or.inr ⟨by rfl, rfl⟩) hA0.out ?_
        try simp only [Act.put, List.setIfInBounds_toArray, List.set_cons_zero, List.set_cons_succ]
        (refine wpHd_takeD (i := 13) (d := some 48) (v := ?_) rfl rfl (by kernel_rfl) (by kernel_rfl) (by kernel_rfl) (fun _ _ _ h => h) (Or.inl ⟨by rfl, ?_⟩) hA0.out ?_; rotate_left 1; (· (intro w' hS'; (obtain ⟨hEs', hcs', hfs'⟩ := hS'); go_simp; try with_reducible rfl)))
        try simp only [Act.put, List.setIfInBounds_toArray, List.set_cons_zero, List.set_cons_succ]
        (refine wpHd_takeD (i := 14) (d := some 6) (v := ?_) rfl rfl (by kernel_rfl) (by kernel_rfl) (by kernel_rfl) (fun _ _ _ h => h) (Or.inl ⟨by rfl, ?_⟩) hA0.out ?_; rotate_left 1; (· (intro w' hS'; (obtain ⟨hEs', hcs', hfs'⟩ := hS'); go_simp; try with_reducible rfl)))
        try simp only [Act.put, List.setIfInBounds_toArray, List.set_cons_zero, List.set_cons_succ]
        refine wpHd_tail (by kernel_rfl) ?_
        simp only [List.drop_succ_cons, List.drop_zero]
        go_wp2
        go_ret2
        exact ⟨by rw [HP.out, HN.out]; rfl, HEW.out.trans (by exact eX)⟩

set_option maxRecDepth 100000 in set_option maxHeartbeats 2000000 in
theorem find_any (N g : Nat) (c : Value) (ps : List RR) (ro rv : Int) (w : World) (hc : Ca w N g c ps) :
    Calls Tryz.prog 90 #[.pointer (some ⟨g, 0, none⟩), .agg #[.int .u32 ro, .int .u32 rv]] w fun e w' => e = .returned (.tuple #[.int .i64 (posR ro rv (ps.map RR.r) : Nat), .bool (hasR ro rv (ps.map RR.r))]) ∧ Ext w w' := by
  obtain ⟨a, cap, rfl⟩ := hc.shape
  have HB := Hid.mk' (fun W (h : Ext w W) => bs_any ps a cap ro rv W (hc.rl.ext h) (by have := hc.n64; omega) hc.ok.srt)
  have g0 := hc.ptr.cell
  have z0 := hc.ptr.lt
  clear hc
  go_enter Tryz.func90, Tryz.ntmps90
  go_wp2
  go_region_held3 (fun w' => Ext (w.alloc (.cells #[.int .u32 ro, .int .u32 rv] 45)) w' ∧ (∀ b o, b < (w.alloc (.cells #[.int .u32 ro, .int .u32 rv] 45)).heap.size → w'.cell? ⟨b, o, none⟩ = (w.alloc (.cells #[.int .u32 ro, .int .u32 rv] 45)).cell? ⟨b, o, none⟩) ∧ (∀ b o, b < (w.alloc (.cells #[.int .u32 ro, .int .u32 rv] 45)).heap.size → w'.frozen? ⟨b, o, none⟩ = (w.alloc (.cells #[.int .u32 ro, .int .u32 rv] 45)).frozen? ⟨b, o, none⟩)) ((exact held_of (by exact eX))) (first | (go_at_call 132; refine (HB.out _ (by exact eX)).mono ?_; rintro e w2 ⟨rfl, hb2⟩))
  go_wp2
  go_ret2
  exact ⟨rfl, by exact eX⟩

end Go.Proofs.YtlobghojjfkchaaGreat

/-
slices.Insert of one relation into a row of the call's own.
-/
namespace Go.Proofs.YtlobghojjfkchaaGreat
open Go.RowKit Go.Lib Go.Shelf

theorem Tryz.infoRel : (Tryz.prog.info? 112).map (fun i => (i.zero, i.size, i.bytes)) = some (some (.agg #[.int .u32 0, .int .u32 0, .string ByteArray.empty, .int .u8 0, .slice none 0 0]), 5, 56) := by kernel_rfl

/-- copy of elements of k cells into a row that is known whole. -/
theorem run_copy_rowK {P : Program} (w : World) (dT sT ty elem : TypeId) (k g o dLen dCap : Nat) (a : Addr) (sLen sCap m : Nat) (cur : Array Value) (t : TypeId) (cs : List Value)
    (hu : P.underlying dT = some (.slice elem)) (hs : (P.info? elem).map (·.size) = some k)
    (hg : w.heap[g]? = some (.cells cur t (0, 0))) (hm : Nat.min sLen dLen = m) (hn : cs.length = m * k)
    (hsrc : ∀ j v, cs[j]? = some v → w.cell? (a.add j) = some v) (hfit : o + cs.length ≤ cur.size) (h1 : ∀ v ∈ cs, v.oneCell' = true) :
    (Builtin.copy_ #[dT, sT] ty #[.slice (some ⟨g, o, none⟩) dLen dCap, .slice (some a) sLen sCap]).run P w = .ok (goInt m) (w.setRow g (splice cur.toList o cs).toArray) := by
  have hl := run_loadCells_list (P := P) w a cs hsrc
  rw [hn] at hl
  have hst := run_storeCells_at P g o t cs 0 cur w hg (by simpa using hfit) h1
  cases hq : P.info? elem with
  | none => simp [hq] at hs
  | some i =>
    have hi : i.size = k := by simpa [hq] using hs
    simp [Builtin.copy_, run_underlying hu, Builtin.lenOf, Builtin.firstCells, sizeOf, typeInfo, hq, hi, hm, hl, hst, splice]

theorem owns_parts {w : World} {N n cap : Nat} {g o : Nat} {sp : Option _} {xs : List Value} (h : w.ownsRow N 112 5 (.slice (some ⟨g, o, sp⟩) n cap) n xs) :
    o = 0 ∧ sp = none ∧ xs.length = n * 5 ∧ N ≤ g ∧ n ≤ cap ∧ cap ≤ maxLen ∧ ∃ cur : Array Value, Blk w g cur 112 ∧ cur.size = cap * 5 ∧ cur.toList.take (n * 5) = xs := by
  obtain ⟨h1, h2 | ⟨g', cap', cur, hv, hg, hh, hn, hm, hs, ht⟩⟩ := h
  · cases h2.1
  · simp only [Value.slice.injEq, Option.some.injEq, Addr.mk.injEq] at hv
    obtain ⟨⟨rfl, rfl, rfl⟩, -, rfl⟩ := hv
    exact ⟨rfl, rfl, h1, hg, hn, hm, cur, hh, hs, ht⟩

theorem own_slice (a : Option Addr) (n c : Nat) : (Value.slice a n c).ownBlock = a.map Addr.block := by cases a <;> rfl
def InsPost (N n : Nat) (v : Value) (zs : List Value) (w : World) (e : Ending) (w' : World) : Prop :=
  ∃ v', e = .returned v' ∧ w'.ownsRow N 112 5 v' (n + 1) zs ∧ w.grownBy w' v.ownBlock ∧ (v'.ownBlock = v.ownBlock ∨ ∃ b, v'.ownBlock = some b ∧ w.heap.size ≤ b)

set_option maxRecDepth 100000 in set_option maxHeartbeats 4000000 in
theorem ins_end (N n : Nat) (a : Option Addr) (cap vb : Nat) (xs ys : List Value) (w : World) (hown : w.ownsRow N 112 5 (.slice a n cap) n xs) (hyl : ys.length = 5) (hy : ∀ j u, ys[j]? = some u → w.cell? ((⟨vb, 0, none⟩ : Addr).add j) = some u) (h1 : ∀ u ∈ ys, u.oneCell' = true) (hn : n ≤ 1000) (hN : N ≤ w.heap.size) :
    Calls Tryz.prog 131 #[.slice a n cap, .int .i64 n, .slice (some ⟨vb, 0, none⟩) 1 1] w (InsPost N n (.slice a n cap) (xs ++ ys) w) := by
  obtain ⟨i0, hi, hz0, hz1, hz2⟩ := info_parts Tryz.infoRel
  have HO := Hid.mk' hown
  have hcap : n ≤ cap := owns_cap hown
  clear hown
  go_enter Tryz.func131, Tryz.ntmps131
  go_wp2_with (at_builtin; refine wpList_append_own_at _ rfl _ _ 106 rfl N 112 i0 _ 5 56 Tryz.underlying106 hi hz0 hz1 hz2 rfl (by decide) (.slice a n cap) n xs rfl HO.out _ 1 1 ys rfl (by simpa using hyl) hy h1 (by unfold maxLen; omega) (by omega) hN ?_)
  all_goals
    intro v' w2 hown' hgrow _ hat
    rw [own_slice] at hgrow hat
    have H1 := Hid.mk' hown'
    have H2 := Hid.mk' hgrow
    have H3 := Hid.mk' hat
    clear hown' hgrow hat
    go_wp2
    go_ret
    exact ⟨v', rfl, H1.out, by rw [own_slice]; exact H2.out, by rw [own_slice]; exact H3.out.imp id (fun h => ⟨_, h, Nat.le_refl _⟩)⟩

/-- The row behind the insertion. -/
theorem splice_ins (cur : Array Value) (xs ys : List Value) (i n cap : Nat) (hc : cur.size = cap * 5) (hx : cur.toList.take (n * 5) = xs) (hyl : ys.length = 5) (hi : i < n) (hr : n + 1 ≤ cap) :
    (splice (splice cur.toList ((i + 1) * 5) (xs.drop (i * 5))) (i * 5) ys).take ((n + 1) * 5) = xs.take (i * 5) ++ (ys ++ xs.drop (i * 5)) ∧ (splice (splice cur.toList ((i + 1) * 5) (xs.drop (i * 5))) (i * 5) ys).length = cap * 5 := by
  have hcl : cur.toList.length = cap * 5 := by simpa using hc
  have hxl : xs.length = n * 5 := by rw [← hx, List.length_take, hcl]; omega
  have hdl : (xs.drop (i * 5)).length = (n - i) * 5 := by rw [List.length_drop, hxl]; omega
  have h1 : (splice cur.toList ((i + 1) * 5) (xs.drop (i * 5))).length = cap * 5 := by rw [length_splice _ _ _ (by rw [hdl, hcl]; omega), hcl]
  refine ⟨?_, by rw [length_splice _ _ _ (by rw [hyl, h1]; omega), h1]⟩
  have e1 : splice cur.toList ((i + 1) * 5) (xs.drop (i * 5)) = cur.toList.take ((i + 1) * 5) ++ (xs.drop (i * 5) ++ cur.toList.drop ((n + 1) * 5)) := by
    unfold splice; rw [hdl]; congr 3; omega
  have e2 : (cur.toList.take ((i + 1) * 5) ++ (xs.drop (i * 5) ++ cur.toList.drop ((n + 1) * 5))).take (i * 5) = xs.take (i * 5) := by
    rw [List.take_append_of_le_length (by rw [List.length_take]; omega), List.take_take, ← hx, List.take_take]
    congr 1; omega
  have e3 : (cur.toList.take ((i + 1) * 5) ++ (xs.drop (i * 5) ++ cur.toList.drop ((n + 1) * 5))).drop (i * 5 + ys.length) = xs.drop (i * 5) ++ cur.toList.drop ((n + 1) * 5) := by
    have : (cur.toList.take ((i + 1) * 5)).length = i * 5 + ys.length := by rw [List.length_take]; omega
    exact List.drop_left' this
  rw [e1]
  unfold splice
  rw [e2, e3, ← List.append_assoc, ← List.append_assoc, List.append_assoc (xs.take (i * 5)) ys, List.take_append_of_le_length (by simp only [List.length_append, List.length_take, hdl, hyl]; omega), List.take_of_length_le (by simp only [List.length_append, List.length_take, hdl, hyl]; omega)]

set_option maxRecDepth 100000 in set_option maxHeartbeats 4000000 in
theorem ins_mid (N n i g cap vb : Nat) (xs ys : List Value) (w : World) (hown : w.ownsRow N 112 5 (.slice (some ⟨g, 0, none⟩) n cap) n xs) (hyl : ys.length = 5) (hvb : Blk w vb ys.toArray 112) (h1 : ∀ u ∈ ys, u.oneCell' = true) (h1x : ∀ u ∈ xs, u.oneCell' = true)
    (hn : n ≤ 1000) (hi : i < n) (hne : vb ≠ g) (hr : n + 1 ≤ cap) :
    Calls Tryz.prog 131 #[.slice (some ⟨g, 0, none⟩) n cap, .int .i64 i, .slice (some ⟨vb, 0, none⟩) 1 1] w (InsPost N n (.slice (some ⟨g, 0, none⟩) n cap) (xs.take (i * 5) ++ (ys ++ xs.drop (i * 5))) w) := by
  obtain ⟨-, -, hxl, hNg, hnc, hcm, cur, hB, hcs, hct⟩ := owns_parts hown
  have hsz : (Tryz.prog.info? 112).map (·.size) = some 5 := by
    obtain ⟨i0, hi, hz0, hz1, hz2⟩ := info_parts Tryz.infoRel
    rw [hi]; simp [hz1]
  have hcap : cap ≤ 9223372036854775807 := by unfold maxLen at hcm; omega
  have hov : ∀ lb cb W o, Blk W g cur 112 → Blk W vb ys.toArray 112 → (callFunc 168 #[.slice (some ⟨vb, 0, none⟩) 1 1, .slice (some ⟨g, o, none⟩) lb cb]).run Tryz.prog W = .ok (.value (.bool false)) W := fun lb cb W o q1 q2 => by
    rw [run_callFunc_extern Tryz.func168 (by kernel_rfl) (by kernel_rfl) (by kernel_rfl) (e := Extern.SlicesOverlaps.overlaps #[106, 106] #[4]) (by kernel_rfl),
      Lib.run_overlaps_apart W 106 4 112 Tryz.underlying106 5 (fun w => by obtain ⟨i0, hi, hz0, hz1, hz2⟩ := info_parts Tryz.infoRel; simp [sizeOf, typeInfo, hi, hz1]) ⟨vb, 0, none⟩ ⟨g, o, none⟩ 1 1 lb cb hne 112 112 ys.toArray.size cur.size (by unfold World.shape?; rw [show W.heap[vb]? = _ from q2]) (by unfold World.shape?; rw [show W.heap[g]? = _ from q1]) (by omega) (q2.frozen _) (q2.frozen _)]
    rfl
  have hz1 : ¬ ((1 : Int) = 0) := by omega
  have hz2 : ((i : Int) == (n : Int)) = false := by simp; omega
  have hw1 : IntKind.i64.wrap ((i : Int) + 1) = (i : Int) + 1 := by rw [IntKind.wrap_i64]; omega
  have hw2 : IntKind.i64.wrap ((n : Int) + 1) = (n : Int) + 1 := by rw [IntKind.wrap_i64]; omega
  have hin : i ≤ n := by omega
  have htn : ((i : Int) + 1).toNat = i + 1 := by omega
  have htn2 : ((n : Int) + 1).toNat = n + 1 := by omega
  have hb1 : (0 : Int) ≤ (i : Int) + 1 := by omega
  have hb3 : (i : Int) ≤ (n : Int) + 1 := by omega
  have hb5 : (0 : Int) ≤ (n : Int) + 1 := by omega
  have hb2 : ¬ (cap = i + 1) := by omega
  have hb4 : ¬ (cap = i) := by omega
  have HB := Hid.mk' hB
  have HV := Hid.mk' hvb
  have HOV := Hid.mk' hov
  clear hB hvb hov hown
  have mixed : Tryz.prog.follows .mixedOrders = true := by kernel_rfl
  have hcl : cur.toList.length = cap * 5 := by simpa using hcs
  have hdl : (xs.drop (i * 5)).length = (n - i) * 5 := by rw [List.length_drop, hxl]; omega
  have HCP1 : Hid (∀ ty dc sc, (Builtin.copy_ #[106, 106] ty #[.slice (some ⟨g, (i + 1) * 5, none⟩) (n - i) dc, .slice (some ⟨g, i * 5, none⟩) (n + 1 - i) sc]).run Tryz.prog w.drew = .ok (goInt ((n - i : Nat) : Int)) (w.drew.setRow g (splice cur.toList ((i + 1) * 5) (xs.drop (i * 5))).toArray)) := Hid.mk' (fun ty dc sc =>
    run_copy_rowK w.drew 106 106 ty 112 5 g ((i + 1) * 5) (n - i) dc ⟨g, i * 5, none⟩ (n + 1 - i) sc (n - i) cur 112 (xs.drop (i * 5)) Tryz.underlying106 hsz HB.out.drew (by simp only [Nat.min_def]; split <;> omega) hdl
      (fun j v hj => by
        rw [Addr.add_lit]
        rw [List.getElem?_drop, ← hct, List.getElem?_take] at hj
        split at hj
        · rw [HB.out.drew.cell]; simpa using hj
        · cases hj)
      (by rw [hdl, hcs]; omega) (fun v hv => h1x v (List.mem_of_mem_drop hv)))
  go_enter Tryz.func131, Tryz.ntmps131
  go_upto_region 15 with (simp only [HOV.out _ _ _ _ HB.out HV.out])
  go_region_law_o (refine step_copy_runI rfl _ _ 106 106 rfl _ _ (by simp [Act.eval, Act.put]) (by simp [Act.eval, Act.put]) (HCP1.out _ (cap - (i + 1)) (cap - i)) ?_)
  obtain ⟨W1, hW1⟩ : ∃ W1, W1 = w.drew.setRow g (splice cur.toList ((i + 1) * 5) (xs.drop (i * 5))).toArray := ⟨_, rfl⟩
  rw [← hW1]
  obtain ⟨hsp1, hsp2⟩ := splice_ins cur xs ys i n cap hcs hct hyl hi hr
  have hl1 : (splice cur.toList ((i + 1) * 5) (xs.drop (i * 5))).length = cap * 5 := by rw [length_splice _ _ _ (by rw [hdl, hcl]; omega), hcl]
  have hl1s : (splice cur.toList ((i + 1) * 5) (xs.drop (i * 5))).toArray.size = cap * 5 := by simpa using hl1
  have hB1 : Blk W1 g (splice cur.toList ((i + 1) * 5) (xs.drop (i * 5))).toArray 112 := by rw [hW1]; exact setRow_heap w.drew g _ _ _ _ HB.out.drew
  have hV1 : Blk W1 vb ys.toArray 112 := by rw [hW1]; exact (setRow_other w.drew g vb _ hne).trans HV.out.drew
  have HK1 : Hid (w.grownBy W1 (some g)) := Hid.mk' ⟨by rw [hW1]; rfl, by rw [hW1]; rfl, by rw [hW1]; rfl, by rw [hW1]; simp, fun k hk hkg => by rw [hW1]; exact setRow_other w.drew g k _ (fun e => hkg (by rw [e]))⟩
  have HCP2 : Hid (∀ ty dc, (Builtin.copy_ #[106, 106] ty #[.slice (some ⟨g, i * 5, none⟩) (n + 1 - i) dc, .slice (some ⟨vb, 0, none⟩) 1 1]).run Tryz.prog W1 = .ok (goInt ((1 : Nat) : Int)) (W1.setRow g (splice (splice cur.toList ((i + 1) * 5) (xs.drop (i * 5))) (i * 5) ys).toArray)) := Hid.mk' (fun ty dc =>
    run_copy_rowK W1 106 106 ty 112 5 g (i * 5) (n + 1 - i) dc ⟨vb, 0, none⟩ 1 1 1 (splice cur.toList ((i + 1) * 5) (xs.drop (i * 5))).toArray 112 ys Tryz.underlying106 hsz hB1 (by simp only [Nat.min_def]; split <;> omega) (by rw [hyl])
      (fun j v hj => by rw [Addr.add_lit, hV1.cell]; simpa using hj) (by rw [hl1s, hyl]; omega) h1)
  obtain ⟨L2, hL2⟩ : ∃ L2, L2 = splice (splice cur.toList ((i + 1) * 5) (xs.drop (i * 5))) (i * 5) ys := ⟨_, rfl⟩
  rw [← hL2] at hsp1 hsp2 HCP2
  have HS1 := Hid.mk' hsp1
  have HS2 := Hid.mk' hsp2
  have HB1 := Hid.mk' hB1
  clear hW1 hB1 hV1 hsp1 hsp2 HCP1 hl1 hL2
  obtain ⟨W2, hW2⟩ : ∃ W2, W2 = W1.setRow g L2.toArray := ⟨_, rfl⟩
  have hcp2 := HCP2.out 3 (cap - i)
  rw [← hW2] at hcp2
  have HB2 : Hid (Blk W2 g L2.toArray 112) := Hid.mk' (by rw [hW2]; exact setRow_heap W1 g _ _ _ _ HB1.out)
  have HK2 : Hid (w.grownBy W2 (some g)) := Hid.mk' ⟨by rw [hW2]; exact HK1.out.os, by rw [hW2]; exact HK1.out.tape, by rw [hW2]; exact HK1.out.output, by rw [hW2]; simp; exact HK1.out.size, fun k hk hkg => by rw [hW2, setRow_other W1 g k _ (fun e => hkg (by rw [e]))]; exact HK1.out.block k hk hkg⟩
  clear hW2 HCP2
  go_wp2
  go_ret
  refine ⟨_, rfl, ⟨?_, .inr ⟨g, cap, L2.toArray, rfl, hNg, HB2.out, hr, hcm, by simpa using HS2.out, by simpa using HS1.out⟩⟩, HK2.out, .inl rfl⟩
  rw [List.length_append, List.length_append, List.length_take, List.length_drop, hxl, hyl]; omega

theorem splice_new (R xs ys : List Value) (i n G : Nat) (hR : R.length = G * 5) (hx : R.take (i * 5) = xs.take (i * 5)) (hxl : xs.length = n * 5) (hyl : ys.length = 5) (hi : i < n) (hr : n + 1 ≤ G) :
    (splice (splice R (i * 5) ys) ((i + 1) * 5) (xs.drop (i * 5))).take ((n + 1) * 5) = xs.take (i * 5) ++ (ys ++ xs.drop (i * 5)) ∧ (splice (splice R (i * 5) ys) ((i + 1) * 5) (xs.drop (i * 5))).length = G * 5 ∧ (splice R (i * 5) ys).length = G * 5 := by
  have hdl : (xs.drop (i * 5)).length = (n - i) * 5 := by rw [List.length_drop, hxl]; omega
  have h1 : (splice R (i * 5) ys).length = G * 5 := by rw [length_splice _ _ _ (by rw [hyl, hR]; omega), hR]
  refine ⟨?_, by rw [length_splice _ _ _ (by rw [hdl, h1]; omega), h1], h1⟩
  have e1 : (splice R (i * 5) ys).take ((i + 1) * 5) = xs.take (i * 5) ++ ys := by
    unfold splice
    rw [hx, ← List.append_assoc]
    have : (xs.take (i * 5) ++ ys).length = (i + 1) * 5 := by rw [List.length_append, List.length_take, hyl]; omega
    exact List.take_left' this
  unfold splice at e1 ⊢
  rw [e1, ← List.append_assoc, List.take_append_of_le_length (by simp only [List.length_append, List.length_take, hdl, hyl]; omega), List.take_of_length_le (by simp only [List.length_append, List.length_take, hdl, hyl]; omega), List.append_assoc]

set_option maxRecDepth 100000 in set_option maxHeartbeats 4000000 in
theorem ins_grow (N n i g cap vb : Nat) (xs ys : List Value) (w : World) (hown : w.ownsRow N 112 5 (.slice (some ⟨g, 0, none⟩) n cap) n xs) (hyl : ys.length = 5) (hvb : Blk w vb ys.toArray 112) (h1 : ∀ u ∈ ys, u.oneCell' = true) (h1x : ∀ u ∈ xs, u.oneCell' = true)
    (hn : n ≤ 1000) (hi : i < n) (hr : cap < n + 1) (hN : N ≤ w.heap.size) :
    Calls Tryz.prog 131 #[.slice (some ⟨g, 0, none⟩) n cap, .int .i64 i, .slice (some ⟨vb, 0, none⟩) 1 1] w (InsPost N n (.slice (some ⟨g, 0, none⟩) n cap) (xs.take (i * 5) ++ (ys ++ xs.drop (i * 5))) w) := by
  obtain ⟨-, -, hxl, hNg, hnc, hcm, cur, hB, hcs, hct⟩ := owns_parts hown
  obtain ⟨i0, hi0, hz0, hzs, hzb⟩ := info_parts Tryz.infoRel
  have hsz : (Tryz.prog.info? 112).map (·.size) = some 5 := by rw [hi0]; simp [hzs]
  have hcn : cap = n := by omega
  subst hcn
  have hbw := hB.lt
  have hvw := hvb.lt
  have hz1 : ¬ ((1 : Int) = 0) := by omega
  have hz2 : ((i : Int) == (cap : Int)) = false := by simp; omega
  have hw1 : IntKind.i64.wrap ((i : Int) + 1) = (i : Int) + 1 := by rw [IntKind.wrap_i64]; omega
  have hw2 : IntKind.i64.wrap ((cap : Int) + 1) = (cap : Int) + 1 := by rw [IntKind.wrap_i64]; omega
  have hw3 : IntKind.i64.wrap ((cap : Int) + 1 - (i : Int)) = ((cap + 1 - i : Nat) : Int) := by rw [IntKind.wrap_i64]; omega
  have hin : i ≤ cap := by omega
  have htn : ((i : Int) + 1).toNat = i + 1 := by omega
  have hb1 : (0 : Int) ≤ (i : Int) + 1 := by omega
  have hb3 : (i : Int) ≤ (cap : Int) + 1 := by omega
  have hb4 : ¬ (cap = i) := by omega
  have hik : i + (cap + 1 - i) = cap + 1 := by omega
  have mixed : Tryz.prog.follows .mixedOrders = true := by kernel_rfl
  have hold : (Builtin.firstCells i0.size i (.slice (some ⟨g, 0, none⟩) i cap)).run Tryz.prog w.drew = .ok (xs.take (i * 5)).toArray w.drew := by
    rw [hzs]
    exact run_firstCells_some w.drew 5 i ⟨g, 0, none⟩ i cap (xs.take (i * 5)) (by rw [List.length_take]; omega) (fun j v hj => by
      rw [Addr.add_lit, hB.drew.cell]
      rw [List.getElem?_take] at hj
      split at hj
      · rw [← hct, List.getElem?_take] at hj
        split at hj
        · simpa using hj
        · cases hj
      · cases hj)
  have hrz : ∀ ty, (Builtin.append_ #[106, 3] ty #[.slice (some ⟨g, 0, none⟩) i cap, .int .i64 ((cap + 1 - i : Nat) : Int)]).run Tryz.prog w =
      .ok (.slice (some ⟨w.heap.size, 0, none⟩) (cap + 1) (grownCap w (cap + 1) cap 112)) _ := fun ty => by
    have h := Lib.run_append_grow_zeros w 106 3 ty 112 i0 _ .i64 .i64 Tryz.underlying106 Tryz.underlying3 hi0 hz0 (some ⟨g, 0, none⟩) i cap (xs.take (i * 5)) hold (cap + 1 - i) (by omega) (by omega) (by omega) (by omega) (by rw [hzb]; omega) (by rw [hzb, hik]; exact growslice_fits hr (by omega))
    rw [hik] at h
    exact h
  obtain ⟨G, hG⟩ : ∃ G, G = grownCap w (cap + 1) cap 112 := ⟨_, rfl⟩
  have hG1 : cap + 1 ≤ G := by rw [hG]; exact grownCap_ge _ _ _ _
  have hG2 : G ≤ maxLen := by rw [hG]; exact grownCap_le_maxLen _ _ _ _ (by unfold maxLen; omega)
  have hG63 : G ≤ 9223372036854775807 := by unfold maxLen at hG2; omega
  rw [← hG] at hrz
  obtain ⟨ROW, hROW⟩ : ∃ ROW : Array Value, ROW = (xs.take (i * 5)).toArray ++ Builtin.zeroCells (Value.agg #[.int .u32 0, .int .u32 0, .string ByteArray.empty, .int .u8 0, .slice none 0 0]).cells (cap + 1 - i) ++ Builtin.zeroCells (Value.agg #[.int .u32 0, .int .u32 0, .string ByteArray.empty, .int .u8 0, .slice none 0 0]).cells (G - (cap + 1)) := ⟨_, rfl⟩
  rw [← hROW] at hrz
  have hRl : ROW.toList.length = G * 5 := by
    rw [hROW]
    simp [Builtin.zeroCells, Value.cells]
    omega
  have hRt : ROW.toList.take (i * 5) = xs.take (i * 5) := by
    rw [hROW]
    have e : (xs.take (i * 5)).length = i * 5 := by rw [List.length_take]; omega
    simp only [Array.toList_append, List.append_assoc]
    exact List.take_left' e
  obtain ⟨hsp1, hsp2, hsp3⟩ := splice_new ROW.toList xs ys i cap G hRl hRt hxl hyl hi hG1
  obtain ⟨W1, hW1⟩ : ∃ W1, W1 = w.drew.alloc (.cells ROW 112) := ⟨_, rfl⟩
  rw [← hW1] at hrz
  have hB1 : Blk W1 w.heap.size ROW 112 := by rw [hW1]; exact Blk.new' _ _ rfl
  have hV1 : Blk W1 vb ys.toArray 112 := by rw [hW1]; exact hvb.drew.alloc _
  have hG1B : Blk W1 g cur 112 := by rw [hW1]; exact hB.drew.alloc _
  have HX1 : Hid (Ext w W1) := Hid.mk' (by rw [hW1]; exact eX)
  obtain ⟨L1, hL1⟩ : ∃ L1, L1 = splice ROW.toList (i * 5) ys := ⟨_, rfl⟩
  obtain ⟨L2, hL2⟩ : ∃ L2, L2 = splice (splice ROW.toList (i * 5) ys) ((i + 1) * 5) (xs.drop (i * 5)) := ⟨_, rfl⟩
  rw [← hL2] at hsp1 hsp2
  rw [← hL1] at hsp3 hL2
  obtain ⟨W2, hW2⟩ : ∃ W2, W2 = W1.setRow w.heap.size L1.toArray := ⟨_, rfl⟩
  have hcpA : (Builtin.copy_ #[106, 106] 3 #[.slice (some ⟨w.heap.size, i * 5, none⟩) (cap + 1 - i) (G - i), .slice (some ⟨vb, 0, none⟩) 1 1]).run Tryz.prog W1 = .ok (goInt ((1 : Nat) : Int)) W2 := by
    rw [hW2, hL1]
    exact run_copy_rowK W1 106 106 _ 112 5 w.heap.size (i * 5) (cap + 1 - i) _ ⟨vb, 0, none⟩ 1 1 1 ROW 112 ys Tryz.underlying106 hsz hB1 (by simp only [Nat.min_def]; split <;> omega) (by rw [hyl])
      (fun j v hj => by rw [Addr.add_lit, hV1.cell]; simpa using hj) (by have h9 : ROW.size = G * 5 := (by simpa using hRl); rw [hyl]; omega) h1
  have hB2 : Blk W2 w.heap.size L1.toArray 112 := by rw [hW2]; exact setRow_heap W1 w.heap.size _ _ _ _ hB1
  have hG2B : Blk W2 g cur 112 := by rw [hW2]; exact (setRow_other W1 w.heap.size g _ (by omega)).trans hG1B
  have HX2 : Hid (Ext w W2) := Hid.mk' (by rw [hW2]; exact below_setRow HX1.out (Nat.le_refl _) _)
  obtain ⟨W3, hW3⟩ : ∃ W3, W3 = W2.drew.setRow w.heap.size L2.toArray := ⟨_, rfl⟩
  have hdl : (xs.drop (i * 5)).length = (cap - i) * 5 := by rw [List.length_drop, hxl]; omega
  have HCPB : Hid ((Builtin.copy_ #[106, 106] 3 #[.slice (some ⟨w.heap.size, (i + 1) * 5, none⟩) (cap - i) (G - (i + 1)), .slice (some ⟨g, i * 5, none⟩) (cap - i) (cap - i)]).run Tryz.prog W2.drew = .ok (goInt ((cap - i : Nat) : Int)) W3) := Hid.mk' (by
    rw [hW3, hL2]
    exact run_copy_rowK W2.drew 106 106 _ 112 5 w.heap.size ((i + 1) * 5) (cap - i) _ ⟨g, i * 5, none⟩ (cap - i) _ (cap - i) L1.toArray 112 (xs.drop (i * 5)) Tryz.underlying106 hsz hB2.drew (by simp only [Nat.min_def]; split <;> omega) hdl
      (fun j v hj => by
        rw [Addr.add_lit]
        rw [List.getElem?_drop, ← hct, List.getElem?_take] at hj
        split at hj
        · rw [hG2B.drew.cell]; simpa using hj
        · cases hj)
      (by rw [hdl]; have : L1.toArray.size = G * 5 := by simpa using hsp3
          omega) (fun v hv => h1x v (List.mem_of_mem_drop hv)))
  have hB3 : Blk W3 w.heap.size L2.toArray 112 := by rw [hW3]; exact setRow_heap W2.drew w.heap.size _ _ _ _ hB2.drew
  have HX3 : Hid (Ext w W3) := Hid.mk' (by rw [hW3]; exact below_setRow HX2.out.drew (Nat.le_refl _) _)
  have HR : Hid (w.grownBy W3 (some g)) := Hid.mk' ⟨HX3.out.os, HX3.out.tape, HX3.out.output, HX3.out.size, fun k hk _ => HX3.out.block k hk⟩
  have HB3 := Hid.mk' hB3
  have HS1 := Hid.mk' hsp1
  have HS2 := Hid.mk' hsp2
  have HRZ := Hid.mk' hrz
  have HCPA := Hid.mk' hcpA
  have hGi : ¬ (G = i) := by omega
  have hGim : ¬ (G = i + 1) := by omega
  clear hrz hW1 hW2 hW3 hL1 hL2 hROW hRl hRt hsp1 hsp2 hsp3 hB1 hB2 hB3 hV1 hG1B hG2B hold hvb hB hG hown hct hcs hcpA hik hi0 hz0 hzs hzb
  go_enter Tryz.func131, Tryz.ntmps131
  go_upto_region 10 with (at_builtin; refine Lib.wpList_append_run _ rfl _ _ _ _ rfl _ _ rfl rfl _ _ (HRZ.out _) ?_)
  have hcpA := HCPA.out
  go_upto_region 11 with (fail)
  clear hcpA
  go_region_law_o (refine step_copy_runI rfl _ _ 106 106 rfl (.slice (some ⟨w.heap.size, (i + 1) * 5, none⟩) (cap - i) (G - (i + 1))) (.slice (some ⟨g, i * 5, none⟩) (cap - i) (cap - i)) (by simp [Act.eval, Act.put]) (by simp [Act.eval, Act.put]) HCPB.out ?_)
  go_wp2
  go_ret
  refine ⟨_, rfl, ⟨?_, .inr ⟨w.heap.size, G, L2.toArray, rfl, hN, HB3.out, hG1, hG2, by simpa using HS2.out, by simpa using HS1.out⟩⟩, HR.out, .inr ⟨_, rfl, Nat.le_refl _⟩⟩
  rw [List.length_append, List.length_append, List.length_take, List.length_drop, hxl, hyl]; omega

/-- slices.Insert of one relation. -/
theorem ins_any (N n i cap vb : Nat) (a : Option Addr) (xs ys : List Value) (w : World) (hown : w.ownsRow N 112 5 (.slice a n cap) n xs) (hyl : ys.length = 5) (hvb : Blk w vb ys.toArray 112) (h1 : ∀ u ∈ ys, u.oneCell' = true) (h1x : ∀ u ∈ xs, u.oneCell' = true)
    (hn : n ≤ 1000) (hi : i ≤ n) (hne : (Value.slice a n cap).ownBlock ≠ some vb) (hN : N ≤ w.heap.size) :
    Calls Tryz.prog 131 #[.slice a n cap, .int .i64 i, .slice (some ⟨vb, 0, none⟩) 1 1] w (InsPost N n (.slice a n cap) (xs.take (i * 5) ++ (ys ++ xs.drop (i * 5))) w) := by
  have hy : ∀ j u, ys[j]? = some u → w.cell? ((⟨vb, 0, none⟩ : Addr).add j) = some u := fun j u hj => by
    have e : (⟨vb, 0, none⟩ : Addr).add j = ⟨vb, j, none⟩ := by rw [Addr.add_lit, Nat.zero_add]
    rw [e, hvb.cell]
    simpa using hj
  have hxl : xs.length = n * 5 := hown.1
  rcases Nat.eq_or_lt_of_le hi with e | hlt
  · subst e
    have := ins_end N i a cap vb xs ys w hown hyl hy h1 hn hN
    rw [List.take_of_length_le (by omega), List.drop_eq_nil_of_le (by omega), List.append_nil]
    exact this
  · rcases hown.2 with ⟨-, h0⟩ | ⟨g, cap', cur, hv, hrest⟩
    · omega
    · simp only [Value.slice.injEq] at hv
      obtain ⟨rfl, -, rfl⟩ := hv
      by_cases hr : n + 1 ≤ cap
      · exact ins_mid N n i g cap vb xs ys w hown hyl hvb h1 h1x hn hlt (fun e => hne (by rw [e]; rfl)) hr
      · exact ins_grow N n i g cap vb xs ys w hown hyl hvb h1 h1x hn hlt (by omega) hN

end Go.Proofs.YtlobghojjfkchaaGreat
