/-
Whether two rows are alike: the program's answer, the reference's.
-/
import Derived.Test.YtdbepkfblfhlhaaRowK
import Derived.Test.YtdbepkfblfhlhaaCell
namespace Go.Proofs.Ytdbepkfblfhlhaa
open Go.RowKit

theorem alikeK {c d : K} : alikeB c.k c.v.ty c.v.n c.v.x c.v.y c.v.s d.k d.v.ty d.v.n d.v.x d.v.y d.v.s = true ↔ c = d := by
  unfold alikeB
  rw [decide_eq_true_iff]
  constructor
  · obtain ⟨k, ty, n, x, y, s⟩ := c
    obtain ⟨k', ty', n', x', y', s'⟩ := d
    rintro ⟨rfl, rfl, rfl, rfl, rfl, rfl⟩
    rfl
  · rintro rfl; simp
/-- Are two rows alike? -/
noncomputable def rowB (l m : List K) : Bool := @decide (l = m) (Classical.propDecidable _)
theorem rowB_true {l m : List K} : rowB l m = true ↔ l = m := by unfold rowB; simp
theorem rowB_false {l m : List K} : rowB l m = false ↔ l ≠ m := by unfold rowB; simp
theorem rowB_at {l m : List K} {k : Nat} (h1 : k < l.length) (h2 : k < m.length) (h : l[k] ≠ m[k]) : rowB l m = false := rowB_false.2 (by rintro rfl; exact h rfl)
theorem rowB_len {l m : List K} (h : l.length ≠ m.length) : rowB l m = false := rowB_false.2 (by rintro rfl; exact h rfl)
theorem rowB_all {l m : List K} (h0 : l.length = m.length) (h : ∀ i (h1 : i < l.length) (h2 : i < m.length), l[i] = m[i]) : rowB l m = true := rowB_true.2 (List.ext_getElem h0 h)

set_option maxRecDepth 100000 in set_option maxHeartbeats 1600000 in
theorem neq_cell (k ty n : Int) (x y : Nat) (s : ByteArray) (k' ty' n' : Int) (x' y' : Nat) (s' : ByteArray) (w : World) :
    (binOp .neq 121 (.agg #[.int .u8 k, .int .u8 ty, .int .i64 n, .int .u64 x, .int .u64 y, .string s]) (.agg #[.int .u8 k', .int .u8 ty', .int .i64 n', .int .u64 x', .int .u64 y', .string s'])).run Try.prog w = .ok (.bool (!alikeB k ty n x y s k' ty' n' x' y' s')) w := by
  by_cases h0 : k = k' <;> by_cases h1 : ty = ty' <;> by_cases h2 : n = n' <;> by_cases h3 : x = x' <;> by_cases h4 : y = y' <;> by_cases h5 : s = s' <;> simp [go_sem, alikeB, h0, h1, h2, h3, h4, h5]
  all_goals first
    | (intro h; exact absurd (toList_inj' h) h5)
    | omega
    | (intros; omega)
    | (intros; intro h; exact absurd (toList_inj' h) h5)

set_option maxRecDepth 100000 in set_option maxHeartbeats 2000000 in
theorem eqf_any (l m : List K) (a b : Option Addr) (ca cb : Nat) (w : World) (hl : Sl w (.slice a l.length ca) 5 (l.map K.pc)) (hm : Sl w (.slice b m.length cb) 5 (m.map K.pc)) (hlen : l.length ≤ 1000) (hlen2 : m.length ≤ 1000) :
    Calls Try.prog 72 #[.slice a l.length ca, .slice b m.length cb, .func (.func 37) #[] #[]] w fun e w' => e = .returned (.bool (rowB l m)) ∧ Ext w w' := by
  have HL := Hid.mk' hl
  have HM := Hid.mk' hm
  clear hl hm
  by_cases hn : l.length = m.length
  case neg =>
    have hn' : (((l.length : Nat) : Int) != ((m.length : Nat) : Int)) = true := by simp; omega
    have HR := Hid.mk' (rowB_len hn)
    clear hn
    go_enter Try.func72, Try.ntmps72
    go_wp2
    go_ret
    exact ⟨ret_bool HR.out.symm, by (repeat (with_reducible (first | exact Ext.refl _ | assumption | exact held_left (by assumption) | apply Ext.drewN | apply Ext.drew | apply Ext.alloc | (refine Ext.setCell ?_ (by first | (simp; done) | (simp; omega) | omega) _) | (refine Ext.trans ?_ (by assumption)) | (refine Ext.trans ?_ (held_left (by assumption))))))⟩
  have hn' : (((l.length : Nat) : Int) != ((m.length : Nat) : Int)) = false := by simp; omega
  have HN := Hid.mk' hn
  clear hn
  go_enter Try.func72, Try.ntmps72
  go_wp2
  go_loopw [17] (fun i wr => ∃ k : Nat, k ≤ l.length ∧ i = .int .i64 k ∧ Hid (∀ j (h1 : j < l.length) (h2 : j < m.length), j < k → l[j] = m[j]) ∧ Hid (Ext w wr)) (fun i _ => l.length - (intOf i).toNat)
  case atStart => exact ⟨0, Nat.zero_le _, rfl, fun j _ _ h => by omega, Ext.refl _⟩
  case round =>
    obtain ⟨k, hk, rfl, hrel, hE⟩ := hrel
    by_cases hlt : k < l.length
    · have hlt2 : k < m.length := by have := HN.out; omega
      obtain ⟨b1, o1, rfl, hb1, hx1⟩ := HL.out.at_ (i := k) (by simpa using hlt)
      obtain ⟨f0, f1, f2, f3, f4⟩ := K.pcAt hlt hx1 hb1 hE.out
      obtain ⟨b2, o2, rfl, hb2, hx2⟩ := HM.out.at_ (i := k) (by simpa using hlt2)
      obtain ⟨p0, p1, p2, p3, p4⟩ := K.pcAt hlt2 hx2 hb2 hE.out
      have hbw : b1 < wr.heap.size := Nat.lt_of_lt_of_le hb1 hE.out.size
      have hbw2 : b2 < wr.heap.size := Nat.lt_of_lt_of_le hb2 hE.out.size
      have hbx2 : b2 < wr.heap.size + 1 := by omega
      have HC := Hid.mk' (fun w => calike_any l[k].k l[k].v.ty l[k].v.n l[k].v.x l[k].v.y l[k].v.s m[k].k m[k].v.ty m[k].v.n m[k].v.x m[k].v.y m[k].v.s w)
      cases hA : alikeB l[k].k l[k].v.ty l[k].v.n l[k].v.x l[k].v.y l[k].v.s m[k].k m[k].v.ty m[k].v.n m[k].v.x m[k].v.y m[k].v.s with
      | true =>
        rw [hA] at HC
        have HA := Hid.mk' (alikeK.1 hA)
        clear hA hx1 hx2
        go_wp2_with (go_at_call 37; refine (HC.out _).mono ?_; rintro e w1 ⟨rfl, hb3⟩)
        go_roundw
        case rel => exact ⟨k + 1, by omega, by go_num, fun j h1 h2 hjk => by
          by_cases e : j = k
          · subst e; exact HA.out
          · exact hrel.out j h1 h2 (by omega), Hid.mk' (hE.out.trans (by (repeat (with_reducible (first | exact Ext.refl _ | assumption | exact held_left (by assumption) | apply Ext.drewN | apply Ext.drew | apply Ext.alloc | (refine Ext.setCell ?_ (by first | (simp; done) | (simp; omega) | omega) _) | (refine Ext.trans ?_ (by assumption)) | (refine Ext.trans ?_ (held_left (by assumption))))))))⟩
        case measure => simp [intOf]; omega
      | false =>
        rw [hA] at HC
        have HR := Hid.mk' (rowB_at hlt hlt2 (fun h => by rw [alikeK.2 h] at hA; cases hA))
        clear hA hx1 hx2
        go_wp2_with (go_at_call 37; refine (HC.out _).mono ?_; rintro e w1 ⟨rfl, hb3⟩)
        go_ret
        exact ⟨ret_bool HR.out.symm, hE.out.trans (by (repeat (with_reducible (first | exact Ext.refl _ | assumption | exact held_left (by assumption) | apply Ext.drewN | apply Ext.drew | apply Ext.alloc | (refine Ext.setCell ?_ (by first | (simp; done) | (simp; omega) | omega) _) | (refine Ext.trans ?_ (by assumption)) | (refine Ext.trans ?_ (held_left (by assumption)))))))⟩
    · have hkk : k = l.length := by omega
      have HR := Hid.mk' (rowB_all HN.out (fun i h1 h2 => hrel.out i h1 h2 (by omega)))
      subst hkk
      go_wp2
      go_ret
      exact ⟨ret_bool HR.out.symm, hE.out⟩

set_option maxRecDepth 20000 in set_option maxHeartbeats 400000 in
theorem alike_any (l m : List K) (a b : Option Addr) (ca cb : Nat) (w : World) (hl : Sl w (.slice a l.length ca) 5 (l.map K.pc)) (hm : Sl w (.slice b m.length cb) 5 (m.map K.pc)) (hlen : l.length ≤ 1000) (hlen2 : m.length ≤ 1000) :
    Calls Try.prog 32 #[.slice a l.length ca, .slice b m.length cb] w fun e w' => e = .returned (.bool (rowB l m)) ∧ Ext w w' := by
  have HI := Hid.mk' (eqf_any l m a b ca cb w hl hm hlen hlen2)
  clear hl hm
  go_enter Try.func32, Try.ntmps32
  go_wp2_with (go_at_call 72; refine HI.out.mono ?_; rintro e w1 ⟨rfl, hb1⟩)
  go_ret
  exact ⟨rfl, hb1⟩

set_option maxRecDepth 100000 in set_option maxHeartbeats 2000000 in
theorem rsame_any (l m : List K) (a b : Option Addr) (ca cb : Nat) (w : World) (hl : Sl w (.slice a l.length ca) 6 (l.map K.rc)) (hm : Sl w (.slice b m.length cb) 6 (m.map K.rc)) (hlen : l.length ≤ 1000) (hlen2 : m.length ≤ 1000) :
    Calls Try.prog 23 #[.slice a l.length ca, .slice b m.length cb] w fun e w' => e = .returned (.bool (rowB l m)) ∧ Ext w w' := by
  have HL := Hid.mk' hl
  have HM := Hid.mk' hm
  clear hl hm
  by_cases hn : l.length = m.length
  case neg =>
    have hn' : (((l.length : Nat) : Int) != ((m.length : Nat) : Int)) = true := by simp; omega
    have HR := Hid.mk' (rowB_len hn)
    clear hn
    go_enter Try.func23, Try.ntmps23
    go_wp2
    go_ret
    exact ⟨ret_bool HR.out.symm, by (repeat (with_reducible (first | exact Ext.refl _ | assumption | exact held_left (by assumption) | apply Ext.drewN | apply Ext.drew | apply Ext.alloc | (refine Ext.setCell ?_ (by first | (simp; done) | (simp; omega) | omega) _) | (refine Ext.trans ?_ (by assumption)) | (refine Ext.trans ?_ (held_left (by assumption))))))⟩
  have hn' : (((l.length : Nat) : Int) != ((m.length : Nat) : Int)) = false := by simp; omega
  have HN := Hid.mk' hn
  clear hn
  go_enter Try.func23, Try.ntmps23
  go_wp2
  go_loopw [5] (fun i wr => ∃ k : Nat, k ≤ l.length ∧ i = .int .i64 k ∧ Hid (∀ j (h1 : j < l.length) (h2 : j < m.length), j < k → l[j] = m[j]) ∧ Hid (Ext w wr)) (fun i _ => l.length - (intOf i).toNat)
  case atStart => exact ⟨0, Nat.zero_le _, rfl, fun j _ _ h => by omega, Ext.refl _⟩
  case round =>
    obtain ⟨k, hk, rfl, hrel, hE⟩ := hrel
    by_cases hlt : k < l.length
    · have hlt2 : k < m.length := by have := HN.out; omega
      obtain ⟨b1, o1, rfl, hb1, hx1⟩ := HL.out.at_ (i := k) (by simpa using hlt)
      obtain ⟨f0, f1, f2, f3, f4, f5⟩ := K.rcAt hlt hx1 hb1 hE.out
      obtain ⟨b2, o2, rfl, hb2, hx2⟩ := HM.out.at_ (i := k) (by simpa using hlt2)
      obtain ⟨p0, p1, p2, p3, p4, p5⟩ := K.rcAt hlt2 hx2 hb2 hE.out
      have hbw : b1 < wr.heap.size := Nat.lt_of_lt_of_le hb1 hE.out.size
      have hbw2 : b2 < wr.heap.size := Nat.lt_of_lt_of_le hb2 hE.out.size
      have hNq := fun w => neq_cell l[k].k l[k].v.ty l[k].v.n l[k].v.x l[k].v.y l[k].v.s m[k].k m[k].v.ty m[k].v.n m[k].v.x m[k].v.y m[k].v.s w
      cases hA : alikeB l[k].k l[k].v.ty l[k].v.n l[k].v.x l[k].v.y l[k].v.s m[k].k m[k].v.ty m[k].v.n m[k].v.x m[k].v.y m[k].v.s with
      | true =>
        rw [hA] at hNq
        have HA := Hid.mk' (alikeK.1 hA)
        clear hA hx1 hx2
        go_wp2
        go_region_held3 (fun w' => Ext (wr) w' ∧ (∀ b o, b < (wr).heap.size → w'.cell? ⟨b, o, none⟩ = (wr).cell? ⟨b, o, none⟩) ∧ (∀ b o, b < (wr).heap.size → w'.frozen? ⟨b, o, none⟩ = (wr).frozen? ⟨b, o, none⟩)) ((exact held_of (by (repeat (with_reducible (first | exact Ext.refl _ | assumption | exact held_left (by assumption) | apply Ext.drewN | apply Ext.drew | apply Ext.alloc | (refine Ext.setCell ?_ (by first | (simp; done) | (simp; omega) | omega) _) | (refine Ext.trans ?_ (by assumption)) | (refine Ext.trans ?_ (held_left (by assumption))))))))) (fail)
        go_wp2
        go_roundw
        case rel => exact ⟨k + 1, by omega, by go_num, fun j h1 h2 hjk => by
          by_cases e : j = k
          · subst e; exact HA.out
          · exact hrel.out j h1 h2 (by omega), Hid.mk' (hE.out.trans (by (repeat (with_reducible (first | exact Ext.refl _ | assumption | exact held_left (by assumption) | apply Ext.drewN | apply Ext.drew | apply Ext.alloc | (refine Ext.setCell ?_ (by first | (simp; done) | (simp; omega) | omega) _) | (refine Ext.trans ?_ (by assumption)) | (refine Ext.trans ?_ (held_left (by assumption))))))))⟩
        case measure => simp [intOf]; omega
      | false =>
        rw [hA] at hNq
        have HR := Hid.mk' (rowB_at hlt hlt2 (fun h => by rw [alikeK.2 h] at hA; cases hA))
        clear hA hx1 hx2
        go_wp2
        go_region_held3 (fun w' => Ext (wr) w' ∧ (∀ b o, b < (wr).heap.size → w'.cell? ⟨b, o, none⟩ = (wr).cell? ⟨b, o, none⟩) ∧ (∀ b o, b < (wr).heap.size → w'.frozen? ⟨b, o, none⟩ = (wr).frozen? ⟨b, o, none⟩)) ((exact held_of (by (repeat (with_reducible (first | exact Ext.refl _ | assumption | exact held_left (by assumption) | apply Ext.drewN | apply Ext.drew | apply Ext.alloc | (refine Ext.setCell ?_ (by first | (simp; done) | (simp; omega) | omega) _) | (refine Ext.trans ?_ (by assumption)) | (refine Ext.trans ?_ (held_left (by assumption))))))))) (fail)
        go_wp2
        go_ret
        exact ⟨ret_bool HR.out.symm, hE.out.trans (by (repeat (with_reducible (first | exact Ext.refl _ | assumption | exact held_left (by assumption) | apply Ext.drewN | apply Ext.drew | apply Ext.alloc | (refine Ext.setCell ?_ (by first | (simp; done) | (simp; omega) | omega) _) | (refine Ext.trans ?_ (by assumption)) | (refine Ext.trans ?_ (held_left (by assumption)))))))⟩
    · have hkk : k = l.length := by omega
      have HR := Hid.mk' (rowB_all HN.out (fun i h1 h2 => hrel.out i h1 h2 (by omega)))
      subst hkk
      go_wp2
      go_ret
      exact ⟨ret_bool HR.out.symm, hE.out⟩

end Go.Proofs.Ytdbepkfblfhlhaa
