/-
Whether two rows are alike: the program's answer, the reference's.
-/
import Derived.Test.YtihldginolbooaaGreatDoorP5
import Derived.Test.YtihldginolbooaaGreatDoorP4
import Derived.Test.YtihldginolbooaaGreatDoorP2
import Derived.Test.YtihldginolbooaaGreatDoorP1
namespace Go.Proofs.YtihldginolbooaaGreatDoor
open Go.RowKit

theorem alikeK {c d : K} : alikeB c.k c.v.ty c.v.n c.v.x c.v.y c.v.s d.k d.v.ty d.v.n d.v.x d.v.y d.v.s = true ↔ c = d := by
  unfold alikeB
  rw [decide_eq_true_iff]
  constructor
  · obtain ⟨k, ty, n, x, y, s⟩ := c
    obtain ⟨k', ty', n', x', y', s'⟩ := d
    rintro ⟨rfl, rfl, rfl, rfl, rfl, rfl⟩
    rfl
  · rintro rfl; simp
/-- Are two rows alike? -/
noncomputable def rowB (l m : List K) : Bool := @decide (l = m) (Classical.propDecidable _)
theorem rowB_true {l m : List K} : rowB l m = true ↔ l = m := by unfold rowB; simp
theorem rowB_false {l m : List K} : rowB l m = false ↔ l ≠ m := by unfold rowB; simp
theorem rowB_at {l m : List K} {k : Nat} (h1 : k < l.length) (h2 : k < m.length) (h : l[k] ≠ m[k]) : rowB l m = false := rowB_false.2 (by rintro rfl; exact h rfl)
theorem rowB_len {l m : List K} (h : l.length ≠ m.length) : rowB l m = false := rowB_false.2 (by rintro rfl; exact h rfl)
theorem rowB_all {l m : List K} (h0 : l.length = m.length) (h : ∀ i (h1 : i < l.length) (h2 : i < m.length), l[i] = m[i]) : rowB l m = true := rowB_true.2 (List.ext_getElem h0 h)

set_option maxRecDepth 100000 in set_option maxHeartbeats 1600000 in
theorem neq_cell (k ty n : Int) (x y : Nat) (s : ByteArray) (k' ty' n' : Int) (x' y' : Nat) (s' : ByteArray) (w : World) :
    (binOp .neq 123 (.agg #[.int .u8 k, .int .u8 ty, .int .i64 n, .int .u64 x, .int .u64 y, .string s]) (.agg #[.int .u8 k', .int .u8 ty', .int .i64 n', .int .u64 x', .int .u64 y', .string s'])).run Tryz.prog w = .ok (.bool (!alikeB k ty n x y s k' ty' n' x' y' s')) w := by
  by_cases h0 : k = k' <;> by_cases h1 : ty = ty' <;> by_cases h2 : n = n' <;> by_cases h3 : x = x' <;> by_cases h4 : y = y' <;> by_cases h5 : s = s' <;> simp [go_sem, alikeB, h0, h1, h2, h3, h4, h5]
  all_goals first
    | (intro h; exact absurd (toList_inj' h) h5)
    | omega
    | (intros; omega)
    | (intros; intro h; exact absurd (toList_inj' h) h5)

set_option maxRecDepth 100000 in set_option maxHeartbeats 2000000 in
theorem eqf_any (l m : List K) (a b : Option Addr) (ca cb : Nat) (w : World) (hl : Sl w (.slice a l.length ca) 5 (l.map K.pc)) (hm : Sl w (.slice b m.length cb) 5 (m.map K.pc)) (hlen : l.length ≤ 1000) (_hlen2 : m.length ≤ 1000) :
    Calls Tryz.prog 96 #[.slice a l.length ca, .slice b m.length cb, .func (.func 97) #[] #[]] w fun e w' => e = .returned (.bool (rowB l m)) ∧ Ext w w' := by
  have HL := Hid.mk' hl
  have HM := Hid.mk' hm
  clear hl hm
  by_cases hn : l.length = m.length
  case neg =>
    have hn' : (((l.length : Nat) : Int) != ((m.length : Nat) : Int)) = true := by simp; omega
    have HR := Hid.mk' (rowB_len hn)
    clear hn
    go_enter Tryz.func96, Tryz.ntmps96
    go_wp2
    go_ret
    exact ⟨ret_bool HR.out.symm, by exact eX⟩
  have hn' : (((l.length : Nat) : Int) != ((m.length : Nat) : Int)) = false := by simp; omega
  have HN := Hid.mk' hn
  clear hn
  go_enter Tryz.func96, Tryz.ntmps96
  go_wp2
  go_loopw [17] (fun i wr => ∃ k : Nat, k ≤ l.length ∧ i = .int .i64 k ∧ Hid (∀ j (h1 : j < l.length) (h2 : j < m.length), j < k → l[j] = m[j]) ∧ Hid (Ext w wr)) (fun i _ => l.length - (intOf i).toNat)
  case atStart => exact ⟨0, Nat.zero_le _, rfl, fun j _ _ h => by omega, Ext.refl _⟩
  case round =>
    obtain ⟨k, hk, rfl, hrel, hE⟩ := hrel
    by_cases hlt : k < l.length
    · have hlt2 : k < m.length := by have := HN.out; omega
      obtain ⟨b1, o1, rfl, hb1, hx1⟩ := HL.out.at_ (i := k) (by simpa using hlt)
      obtain ⟨f0, f1, f2, f3, f4⟩ := K.pcAt hlt hx1 hb1 hE.out
      obtain ⟨b2, o2, rfl, hb2, hx2⟩ := HM.out.at_ (i := k) (by simpa using hlt2)
      obtain ⟨p0, p1, p2, p3, p4⟩ := K.pcAt hlt2 hx2 hb2 hE.out
      have hbw : b1 < wr.heap.size := Nat.lt_of_lt_of_le hb1 hE.out.size
      have hbw2 : b2 < wr.heap.size := Nat.lt_of_lt_of_le hb2 hE.out.size
      have hbx2 : b2 < wr.heap.size + 1 := by omega
      have HC := Hid.mk' (fun w => calike_any l[k].k l[k].v.ty l[k].v.n l[k].v.x l[k].v.y l[k].v.s m[k].k m[k].v.ty m[k].v.n m[k].v.x m[k].v.y m[k].v.s w)
      cases hA : alikeB l[k].k l[k].v.ty l[k].v.n l[k].v.x l[k].v.y l[k].v.s m[k].k m[k].v.ty m[k].v.n m[k].v.x m[k].v.y m[k].v.s with
      | true =>
        rw [hA] at HC
        have HA := Hid.mk' (alikeK.1 hA)
        clear hA hx1 hx2
        go_wp2_with (go_at_call 97; refine (HC.out _).mono ?_; rintro e w1 ⟨rfl, hb3⟩)
        go_roundw
        case rel => exact ⟨k + 1, by omega, by go_num, fun j h1 h2 hjk => by
          by_cases e : j = k
          · subst e; exact HA.out
          · exact hrel.out j h1 h2 (by omega), Hid.mk' (hE.out.trans (by exact eX))⟩
        case measure => simp [intOf]; omega
      | false =>
        rw [hA] at HC
        have HR := Hid.mk' (rowB_at hlt hlt2 (fun h => by rw [alikeK.2 h] at hA; cases hA))
        clear hA hx1 hx2
        go_wp2_with (go_at_call 97; refine (HC.out _).mono ?_; rintro e w1 ⟨rfl, hb3⟩)
        go_ret
        exact ⟨ret_bool HR.out.symm, hE.out.trans (by exact eX)⟩
    · have hkk : k = l.length := by omega
      have HR := Hid.mk' (rowB_all HN.out (fun i h1 h2 => hrel.out i h1 h2 (by omega)))
      subst hkk
      go_wp2
      go_ret
      exact ⟨ret_bool HR.out.symm, hE.out⟩

set_option maxRecDepth 20000 in set_option maxHeartbeats 400000 in
theorem alike_any (l m : List K) (a b : Option Addr) (ca cb : Nat) (w : World) (hl : Sl w (.slice a l.length ca) 5 (l.map K.pc)) (hm : Sl w (.slice b m.length cb) 5 (m.map K.pc)) (hlen : l.length ≤ 1000) (hlen2 : m.length ≤ 1000) :
    Calls Tryz.prog 70 #[.slice a l.length ca, .slice b m.length cb] w fun e w' => e = .returned (.bool (rowB l m)) ∧ Ext w w' := by
  have HI := Hid.mk' (eqf_any l m a b ca cb w hl hm hlen hlen2)
  clear hl hm
  go_enter Tryz.func70, Tryz.ntmps70
  go_wp2_with (go_at_call 96; refine HI.out.mono ?_; rintro e w1 ⟨rfl, hb1⟩)
  go_ret
  exact ⟨rfl, hb1⟩

set_option maxRecDepth 100000 in set_option maxHeartbeats 2000000 in
theorem rsame_any (l m : List K) (a b : Option Addr) (ca cb : Nat) (w : World) (hl : Sl w (.slice a l.length ca) 6 (l.map K.rc)) (hm : Sl w (.slice b m.length cb) 6 (m.map K.rc)) (hlen : l.length ≤ 1000) (_hlen2 : m.length ≤ 1000) :
    Calls Tryz.prog 72 #[.slice a l.length ca, .slice b m.length cb] w fun e w' => e = .returned (.bool (rowB l m)) ∧ Ext w w' := by
  have HL := Hid.mk' hl
  have HM := Hid.mk' hm
  clear hl hm
  by_cases hn : l.length = m.length
  case neg =>
    have hn' : (((l.length : Nat) : Int) != ((m.length : Nat) : Int)) = true := by simp; omega
    have HR := Hid.mk' (rowB_len hn)
    clear hn
    go_enter Tryz.func72, Tryz.ntmps72
    go_wp2
    go_ret
    exact ⟨ret_bool HR.out.symm, by exact eX⟩
  have hn' : (((l.length : Nat) : Int) != ((m.length : Nat) : Int)) = false := by simp; omega
  have HN := Hid.mk' hn
  clear hn
  go_enter Tryz.func72, Tryz.ntmps72
  go_wp2
  go_loopw [5] (fun i wr => ∃ k : Nat, k ≤ l.length ∧ i = .int .i64 k ∧ Hid (∀ j (h1 : j < l.length) (h2 : j < m.length), j < k → l[j] = m[j]) ∧ Hid (Ext w wr)) (fun i _ => l.length - (intOf i).toNat)
  case atStart => exact ⟨0, Nat.zero_le _, rfl, fun j _ _ h => by omega, Ext.refl _⟩
  case round =>
    obtain ⟨k, hk, rfl, hrel, hE⟩ := hrel
    by_cases hlt : k < l.length
    · have hlt2 : k < m.length := by have := HN.out; omega
      obtain ⟨b1, o1, rfl, hb1, hx1⟩ := HL.out.at_ (i := k) (by simpa using hlt)
      obtain ⟨f0, f1, f2, f3, f4, f5⟩ := K.rcAt hlt hx1 hb1 hE.out
      obtain ⟨b2, o2, rfl, hb2, hx2⟩ := HM.out.at_ (i := k) (by simpa using hlt2)
      obtain ⟨p0, p1, p2, p3, p4, p5⟩ := K.rcAt hlt2 hx2 hb2 hE.out
      have hbw : b1 < wr.heap.size := Nat.lt_of_lt_of_le hb1 hE.out.size
      have hbw2 : b2 < wr.heap.size := Nat.lt_of_lt_of_le hb2 hE.out.size
      have hNq := fun w => neq_cell l[k].k l[k].v.ty l[k].v.n l[k].v.x l[k].v.y l[k].v.s m[k].k m[k].v.ty m[k].v.n m[k].v.x m[k].v.y m[k].v.s w
      cases hA : alikeB l[k].k l[k].v.ty l[k].v.n l[k].v.x l[k].v.y l[k].v.s m[k].k m[k].v.ty m[k].v.n m[k].v.x m[k].v.y m[k].v.s with
      | true =>
        rw [hA] at hNq
        have HA := Hid.mk' (alikeK.1 hA)
        clear hA hx1 hx2
        go_wp2
        go_region_held3 (fun w' => Ext (wr) w' ∧ (∀ b o, b < (wr).heap.size → w'.cell? ⟨b, o, none⟩ = (wr).cell? ⟨b, o, none⟩) ∧ (∀ b o, b < (wr).heap.size → w'.frozen? ⟨b, o, none⟩ = (wr).frozen? ⟨b, o, none⟩)) ((exact held_of (by exact eX))) (fail)
        go_wp2
        go_roundw
        case rel => exact ⟨k + 1, by omega, by go_num, fun j h1 h2 hjk => by
          by_cases e : j = k
          · subst e; exact HA.out
          · exact hrel.out j h1 h2 (by omega), Hid.mk' (hE.out.trans (by exact eX))⟩
        case measure => simp [intOf]; omega
      | false =>
        rw [hA] at hNq
        have HR := Hid.mk' (rowB_at hlt hlt2 (fun h => by rw [alikeK.2 h] at hA; cases hA))
        clear hA hx1 hx2
        go_wp2
        go_region_held3 (fun w' => Ext (wr) w' ∧ (∀ b o, b < (wr).heap.size → w'.cell? ⟨b, o, none⟩ = (wr).cell? ⟨b, o, none⟩) ∧ (∀ b o, b < (wr).heap.size → w'.frozen? ⟨b, o, none⟩ = (wr).frozen? ⟨b, o, none⟩)) ((exact held_of (by exact eX))) (fail)
        go_wp2
        go_ret
        exact ⟨ret_bool HR.out.symm, hE.out.trans (by exact eX)⟩
    · have hkk : k = l.length := by omega
      have HR := Hid.mk' (rowB_all HN.out (fun i h1 h2 => hrel.out i h1 h2 (by omega)))
      subst hkk
      go_wp2
      go_ret
      exact ⟨ret_bool HR.out.symm, hE.out⟩

end Go.Proofs.YtihldginolbooaaGreatDoor

/-
Events, in plain words and in memory; blocks of eight cells.
-/
namespace Go.Proofs.YtihldginolbooaaGreatDoor
open Go.RowKit

/-- An event. -/
structure Ev where
  kind : Int
  ao : Int
  av : Int
  old : Int
  b : List K
  a : List K
  rs : List Rf
  fl : Int
theorem Blk.eight {W : World} {b : Nat} {u0 u1 u2 u3 u4 u5 u6 u7 v0 v1 v2 v3 v4 v5 v6 v7 : Value} {T : TypeId} (h : Blk W b #[u0, u1, u2, u3, u4, u5, u6, u7] T) :
    Blk ((((((((W.setCell ⟨b, 0, none⟩ v0).setCell ⟨b, 1, none⟩ v1).setCell ⟨b, 2, none⟩ v2).setCell ⟨b, 3, none⟩ v3).setCell ⟨b, 4, none⟩ v4).setCell ⟨b, 5, none⟩ v5).setCell ⟨b, 6, none⟩ v6).setCell ⟨b, 7, none⟩ v7) b #[v0, v1, v2, v3, v4, v5, v6, v7] T := by
  have h1 := (((((((h.set 0 v0).set 1 v1).set 2 v2).set 3 v3).set 4 v4).set 5 v5).set 6 v6).set 7 v7
  simpa only [List.setIfInBounds_toArray, List.set_cons_zero, List.set_cons_succ] using h1
theorem Fr.eight {W : World} {N M k X : Nat} {v : Value} {xss : List (List Value)} {v0 v1 v2 v3 v4 v5 v6 v7 : Value} (h : Fr W N M v k xss) (hp : X < N ∨ M ≤ X) :
    Fr ((((((((W.setCell ⟨X, 0, none⟩ v0).setCell ⟨X, 1, none⟩ v1).setCell ⟨X, 2, none⟩ v2).setCell ⟨X, 3, none⟩ v3).setCell ⟨X, 4, none⟩ v4).setCell ⟨X, 5, none⟩ v5).setCell ⟨X, 6, none⟩ v6).setCell ⟨X, 7, none⟩ v7) N M v k xss := by
  repeat refine Fr.set ?_ hp _
  exact h
theorem Fr.ne {W : World} {N M k X : Nat} {a : Option Addr} {n c : Nat} {xss : List (List Value)} (h : Fr W N M (.slice a n c) k xss) (hp : X < N ∨ M ≤ X) (h0 : xss ≠ []) : ∀ b o, a = some ⟨b, o, none⟩ → b ≠ X := fun b o e => by
  have h1 := h.2 b o n c (by rw [e])
  have h2 := h1.2 h0
  omega
theorem Fr.ne2 {W : World} {N M k X m : Nat} {a : Option Addr} {n c : Nat} {xss : List (List Value)} (h : Fr W N M (.slice a n c) k xss) (hp : X < N ∨ M ≤ X) (hm : m < N) (h0 : xss ≠ []) : ∀ b o, a = some ⟨b, o, none⟩ → b ≠ X ∧ m < b := fun b o e => by
  have h1 := h.2 b o n c (by rw [e])
  have h2 := h1.2 h0
  omega
theorem Kp.eight {W : World} {X : Nat} {v0 v1 v2 v3 v4 v5 v6 v7 : Value} :
    Kp (fun x => x = X) W ((((((((W.setCell ⟨X, 0, none⟩ v0).setCell ⟨X, 1, none⟩ v1).setCell ⟨X, 2, none⟩ v2).setCell ⟨X, 3, none⟩ v3).setCell ⟨X, 4, none⟩ v4).setCell ⟨X, 5, none⟩ v5).setCell ⟨X, 6, none⟩ v6).setCell ⟨X, 7, none⟩ v7) := by
  have hs : ∀ (W : World) i v, Kp (fun x => x = X) W (W.setCell ⟨X, i, none⟩ v) := fun W i v => Kp.set (S := fun x => x = X) ⟨X, i, none⟩ v rfl
  have ht : ∀ {A B C : World}, Kp (fun x => x = X) A B → Kp (fun x => x = X) B C → Kp (fun x => x = X) A C := fun h k => h.trans k (fun x hx _ => hx)
  exact ht (ht (ht (ht (ht (ht (ht (hs _ _ _) (hs _ _ _)) (hs _ _ _)) (hs _ _ _)) (hs _ _ _)) (hs _ _ _)) (hs _ _ _)) (hs _ _ _)
end Go.Proofs.YtihldginolbooaaGreatDoor

/-
Names: the program's, the reference's.
-/
namespace Go.Proofs.YtihldginolbooaaGreatDoor
open Go.RowKit

set_option maxRecDepth 20000 in set_option maxHeartbeats 400000 in
theorem named_any (s : ByteArray) (w : World) (hs : s.size ≤ 9223372036854775807) :
    Calls Tryz.prog 61 #[.string s] w fun e w' => e = .returned (.bool (namedB s)) ∧ w = w' := by
  go_enter Tryz.func61, Tryz.ntmps61
  go_wp2
  go_loop [8] (fun i => ∃ k : Nat, k ≤ s.size ∧ i = .int .i64 k ∧ Hid (∀ j, j < k → nameAt s j = true)) (fun i => s.size - (intOf i).toNat)
  case atStart => exact ⟨0, Nat.zero_le _, rfl, fun j h => by omega⟩
  case round =>
    obtain ⟨k, hk, rfl, hrel⟩ := hrel
    by_cases hlt : k < s.size
    · rcases name_cases hlt with ⟨hn, hc⟩ | ⟨hn, hc⟩
      · have HN := Hid.mk' hn
        clear hn
        have HC := Hid.mk' hc
        clear hc
        rcases HC.out with ⟨h1, h2⟩ | ⟨h0, h1, h2⟩ | ⟨h0, h1⟩
        · clear HC
          go_wp2
          go_round
          case rel => exact ⟨k + 1, by omega, by go_num, fun j hj => by
            by_cases e : j = k
            · subst e; exact HN.out
            · exact hrel.out j (by omega)⟩
          case measure => simp [intOf]; omega
        · clear HC
          (try first | (have a1 : 97 ≤ (s[k].toNat : Int) := by omega) | (have a1 : (s[k].toNat : Int) < 97 := by omega)); (try first | (have a2 : (s[k].toNat : Int) ≤ 122 := by omega) | (have a2 : 122 < (s[k].toNat : Int) := by omega)); (try first | (have a3 : 48 ≤ (s[k].toNat : Int) := by omega) | (have a3 : (s[k].toNat : Int) < 48 := by omega)); (try first | (have a4 : (s[k].toNat : Int) ≤ 57 := by omega) | (have a4 : 57 < (s[k].toNat : Int) := by omega)); (try first | (have a1d : decide (97 ≤ (s[k].toNat : Int)) = true := decide_eq_true (by omega)) | (have a1d : decide (97 ≤ (s[k].toNat : Int)) = false := decide_eq_false (by omega))); (try first | (have a2d : decide ((s[k].toNat : Int) ≤ 122) = true := decide_eq_true (by omega)) | (have a2d : decide ((s[k].toNat : Int) ≤ 122) = false := decide_eq_false (by omega))); (try first | (have a3d : decide (48 ≤ (s[k].toNat : Int)) = true := decide_eq_true (by omega)) | (have a3d : decide (48 ≤ (s[k].toNat : Int)) = false := decide_eq_false (by omega))); (try first | (have a4d : decide ((s[k].toNat : Int) ≤ 57) = true := decide_eq_true (by omega)) | (have a4d : decide ((s[k].toNat : Int) ≤ 57) = false := decide_eq_false (by omega)))
          have e0 : ((k : Int) == 0) = false := by simp; omega
          have h3 : (s[k].toNat : Int) < 97 := by omega
          go_wp2
          go_round
          case rel => exact ⟨k + 1, by omega, by go_num, fun j hj => by
            by_cases e : j = k
            · subst e; exact HN.out
            · exact hrel.out j (by omega)⟩
          case measure => simp [intOf]; omega
        · clear HC
          have e0 : ((k : Int) == 0) = false := by simp; omega
          have e1 : ((s[k].toNat : Int) != 95) = false := by simp; omega
          have h3 : (s[k].toNat : Int) < 97 := by omega
          have h4 : 57 < (s[k].toNat : Int) := by omega
          clear h1
          go_wp2
          go_round
          case rel => exact ⟨k + 1, by omega, by go_num, fun j hj => by
            by_cases e : j = k
            · subst e; exact HN.out
            · exact hrel.out j (by omega)⟩
          case measure => simp [intOf]; omega
      · have HF := Hid.mk' (named_no hlt hn)
        clear hn
        rcases hc with ⟨rfl, h1⟩ | ⟨rfl, h1⟩ | ⟨h0, h1⟩ | ⟨h0, h1, h2⟩ | ⟨h0, h1, h2⟩ | ⟨h0, h1⟩
        · (try first | (have a1 : 97 ≤ (s[0].toNat : Int) := by omega) | (have a1 : (s[0].toNat : Int) < 97 := by omega)); (try first | (have a2 : (s[0].toNat : Int) ≤ 122 := by omega) | (have a2 : 122 < (s[0].toNat : Int) := by omega)); (try first | (have a3 : 48 ≤ (s[0].toNat : Int) := by omega) | (have a3 : (s[0].toNat : Int) < 48 := by omega)); (try first | (have a4 : (s[0].toNat : Int) ≤ 57 := by omega) | (have a4 : 57 < (s[0].toNat : Int) := by omega)); (try first | (have a1d : decide (97 ≤ (s[0].toNat : Int)) = true := decide_eq_true (by omega)) | (have a1d : decide (97 ≤ (s[0].toNat : Int)) = false := decide_eq_false (by omega))); (try first | (have a2d : decide ((s[0].toNat : Int) ≤ 122) = true := decide_eq_true (by omega)) | (have a2d : decide ((s[0].toNat : Int) ≤ 122) = false := decide_eq_false (by omega))); (try first | (have a3d : decide (48 ≤ (s[0].toNat : Int)) = true := decide_eq_true (by omega)) | (have a3d : decide (48 ≤ (s[0].toNat : Int)) = false := decide_eq_false (by omega))); (try first | (have a4d : decide ((s[0].toNat : Int) ≤ 57) = true := decide_eq_true (by omega)) | (have a4d : decide ((s[0].toNat : Int) ≤ 57) = false := decide_eq_false (by omega)))
          go_wp2
          all_goals
            go_ret
            exact ⟨ret_bool HF.out.symm, rfl⟩
        · (try first | (have a1 : 97 ≤ (s[0].toNat : Int) := by omega) | (have a1 : (s[0].toNat : Int) < 97 := by omega)); (try first | (have a2 : (s[0].toNat : Int) ≤ 122 := by omega) | (have a2 : 122 < (s[0].toNat : Int) := by omega)); (try first | (have a3 : 48 ≤ (s[0].toNat : Int) := by omega) | (have a3 : (s[0].toNat : Int) < 48 := by omega)); (try first | (have a4 : (s[0].toNat : Int) ≤ 57 := by omega) | (have a4 : 57 < (s[0].toNat : Int) := by omega)); (try first | (have a1d : decide (97 ≤ (s[0].toNat : Int)) = true := decide_eq_true (by omega)) | (have a1d : decide (97 ≤ (s[0].toNat : Int)) = false := decide_eq_false (by omega))); (try first | (have a2d : decide ((s[0].toNat : Int) ≤ 122) = true := decide_eq_true (by omega)) | (have a2d : decide ((s[0].toNat : Int) ≤ 122) = false := decide_eq_false (by omega))); (try first | (have a3d : decide (48 ≤ (s[0].toNat : Int)) = true := decide_eq_true (by omega)) | (have a3d : decide (48 ≤ (s[0].toNat : Int)) = false := decide_eq_false (by omega))); (try first | (have a4d : decide ((s[0].toNat : Int) ≤ 57) = true := decide_eq_true (by omega)) | (have a4d : decide ((s[0].toNat : Int) ≤ 57) = false := decide_eq_false (by omega)))
          go_wp2
          all_goals
            go_ret
            exact ⟨ret_bool HF.out.symm, rfl⟩
        all_goals
          have e0 : ((k : Int) == 0) = false := by simp; omega
          have e1 : ((s[k].toNat : Int) != 95) = true := by simp; omega
          (try first | (have a1 : 97 ≤ (s[k].toNat : Int) := by omega) | (have a1 : (s[k].toNat : Int) < 97 := by omega)); (try first | (have a2 : (s[k].toNat : Int) ≤ 122 := by omega) | (have a2 : 122 < (s[k].toNat : Int) := by omega)); (try first | (have a3 : 48 ≤ (s[k].toNat : Int) := by omega) | (have a3 : (s[k].toNat : Int) < 48 := by omega)); (try first | (have a4 : (s[k].toNat : Int) ≤ 57 := by omega) | (have a4 : 57 < (s[k].toNat : Int) := by omega)); (try first | (have a1d : decide (97 ≤ (s[k].toNat : Int)) = true := decide_eq_true (by omega)) | (have a1d : decide (97 ≤ (s[k].toNat : Int)) = false := decide_eq_false (by omega))); (try first | (have a2d : decide ((s[k].toNat : Int) ≤ 122) = true := decide_eq_true (by omega)) | (have a2d : decide ((s[k].toNat : Int) ≤ 122) = false := decide_eq_false (by omega))); (try first | (have a3d : decide (48 ≤ (s[k].toNat : Int)) = true := decide_eq_true (by omega)) | (have a3d : decide (48 ≤ (s[k].toNat : Int)) = false := decide_eq_false (by omega))); (try first | (have a4d : decide ((s[k].toNat : Int) ≤ 57) = true := decide_eq_true (by omega)) | (have a4d : decide ((s[k].toNat : Int) ≤ 57) = false := decide_eq_false (by omega)))
          go_wp2
          all_goals
            go_ret
            exact ⟨ret_bool HF.out.symm, rfl⟩
    · have hkk : k = s.size := by omega
      have HF := Hid.mk' (named_yes (s := s) fun j hj => hrel.out j (by omega))
      subst hkk
      by_cases h1 : 1 ≤ s.size <;> by_cases h2 : s.size ≤ 31
      all_goals
        go_wp2
        all_goals go_ret
        all_goals exact ⟨ret_bool (by rw [HF.out] <;> first | (apply decide_eq_decide.2; omega) | (symm; rw [decide_eq_true_iff]; omega) | (symm; rw [decide_eq_false_iff_not]; omega)), rfl⟩

set_option maxRecDepth 20000 in set_option maxHeartbeats 400000 in
theorem rnamed_any (s : ByteArray) (w : World) (hs : s.size ≤ 9223372036854775807) :
    Calls Tryz.prog 80 #[.string s] w fun e w' => e = .returned (.bool (namedB s)) ∧ w = w' := by
  by_cases hl : 1 ≤ s.size ∧ s.size ≤ 31
  case neg =>
    have HF := Hid.mk' (named_len hl)
    by_cases h1 : s.size < 1
    · clear hl
      go_enter Tryz.func80, Tryz.ntmps80
      go_wp2
      go_ret
      exact ⟨ret_bool HF.out.symm, rfl⟩
    · have h2 : 31 < s.size := by omega
      clear hl
      go_enter Tryz.func80, Tryz.ntmps80
      go_wp2
      go_ret
      exact ⟨ret_bool HF.out.symm, rfl⟩
  obtain ⟨hl1, hl2⟩ := hl
  go_enter Tryz.func80, Tryz.ntmps80
  go_wp2
  go_loop [3] (fun i => ∃ k : Nat, k ≤ s.size ∧ i = .int .i64 k ∧ Hid (∀ j, j < k → nameAt s j = true)) (fun i => s.size - (intOf i).toNat)
  case atStart => exact ⟨0, Nat.zero_le _, rfl, fun j h => by omega⟩
  case round =>
    obtain ⟨k, hk, rfl, hrel⟩ := hrel
    by_cases hlt : k < s.size
    · rcases name_cases hlt with ⟨hn, hc⟩ | ⟨hn, hc⟩
      · have HN := Hid.mk' hn
        clear hn
        have HC := Hid.mk' hc
        clear hc
        rcases HC.out with ⟨h1, h2⟩ | ⟨h0, h1, h2⟩ | ⟨h0, h1⟩
        · clear HC
          go_wp2
          go_round
          case rel => exact ⟨k + 1, by omega, by go_num, fun j hj => by
            by_cases e : j = k
            · subst e; exact HN.out
            · exact hrel.out j (by omega)⟩
          case measure => simp [intOf]; omega
        · clear HC
          have h3 : (s[k].toNat : Int) < 97 := by omega
          go_wp2
          go_round
          case rel => exact ⟨k + 1, by omega, by go_num, fun j hj => by
            by_cases e : j = k
            · subst e; exact HN.out
            · exact hrel.out j (by omega)⟩
          case measure => simp [intOf]; omega
        · clear HC
          have e1 : ((s[k].toNat : Int) == 95) = true := by simp; omega
          have h3 : (s[k].toNat : Int) < 97 := by omega
          have h4 : 57 < (s[k].toNat : Int) := by omega
          clear h1
          go_wp2
          go_round
          case rel => exact ⟨k + 1, by omega, by go_num, fun j hj => by
            by_cases e : j = k
            · subst e; exact HN.out
            · exact hrel.out j (by omega)⟩
          case measure => simp [intOf]; omega
      · have HF := Hid.mk' (named_no hlt hn)
        clear hn
        rcases hc with ⟨rfl, h1⟩ | ⟨rfl, h1⟩ | ⟨h0, h1⟩ | ⟨h0, h1, h2⟩ | ⟨h0, h1, h2⟩ | ⟨h0, h1⟩
        · (try first | (have a1 : 97 ≤ (s[0].toNat : Int) := by omega) | (have a1 : (s[0].toNat : Int) < 97 := by omega)); (try first | (have a2 : (s[0].toNat : Int) ≤ 122 := by omega) | (have a2 : 122 < (s[0].toNat : Int) := by omega)); (try first | (have a3 : 48 ≤ (s[0].toNat : Int) := by omega) | (have a3 : (s[0].toNat : Int) < 48 := by omega)); (try first | (have a4 : (s[0].toNat : Int) ≤ 57 := by omega) | (have a4 : 57 < (s[0].toNat : Int) := by omega)); (try first | (have a1d : decide (97 ≤ (s[0].toNat : Int)) = true := decide_eq_true (by omega)) | (have a1d : decide (97 ≤ (s[0].toNat : Int)) = false := decide_eq_false (by omega))); (try first | (have a2d : decide ((s[0].toNat : Int) ≤ 122) = true := decide_eq_true (by omega)) | (have a2d : decide ((s[0].toNat : Int) ≤ 122) = false := decide_eq_false (by omega))); (try first | (have a3d : decide (48 ≤ (s[0].toNat : Int)) = true := decide_eq_true (by omega)) | (have a3d : decide (48 ≤ (s[0].toNat : Int)) = false := decide_eq_false (by omega))); (try first | (have a4d : decide ((s[0].toNat : Int) ≤ 57) = true := decide_eq_true (by omega)) | (have a4d : decide ((s[0].toNat : Int) ≤ 57) = false := decide_eq_false (by omega)))
          go_wp2
          all_goals
            go_ret
            exact ⟨ret_bool HF.out.symm, rfl⟩
        · (try first | (have a1 : 97 ≤ (s[0].toNat : Int) := by omega) | (have a1 : (s[0].toNat : Int) < 97 := by omega)); (try first | (have a2 : (s[0].toNat : Int) ≤ 122 := by omega) | (have a2 : 122 < (s[0].toNat : Int) := by omega)); (try first | (have a3 : 48 ≤ (s[0].toNat : Int) := by omega) | (have a3 : (s[0].toNat : Int) < 48 := by omega)); (try first | (have a4 : (s[0].toNat : Int) ≤ 57 := by omega) | (have a4 : 57 < (s[0].toNat : Int) := by omega)); (try first | (have a1d : decide (97 ≤ (s[0].toNat : Int)) = true := decide_eq_true (by omega)) | (have a1d : decide (97 ≤ (s[0].toNat : Int)) = false := decide_eq_false (by omega))); (try first | (have a2d : decide ((s[0].toNat : Int) ≤ 122) = true := decide_eq_true (by omega)) | (have a2d : decide ((s[0].toNat : Int) ≤ 122) = false := decide_eq_false (by omega))); (try first | (have a3d : decide (48 ≤ (s[0].toNat : Int)) = true := decide_eq_true (by omega)) | (have a3d : decide (48 ≤ (s[0].toNat : Int)) = false := decide_eq_false (by omega))); (try first | (have a4d : decide ((s[0].toNat : Int) ≤ 57) = true := decide_eq_true (by omega)) | (have a4d : decide ((s[0].toNat : Int) ≤ 57) = false := decide_eq_false (by omega)))
          go_wp2
          all_goals
            go_ret
            exact ⟨ret_bool HF.out.symm, rfl⟩
        all_goals
          have e1 : ((s[k].toNat : Int) == 95) = false := by simp; omega
          (try first | (have a1 : 97 ≤ (s[k].toNat : Int) := by omega) | (have a1 : (s[k].toNat : Int) < 97 := by omega)); (try first | (have a2 : (s[k].toNat : Int) ≤ 122 := by omega) | (have a2 : 122 < (s[k].toNat : Int) := by omega)); (try first | (have a3 : 48 ≤ (s[k].toNat : Int) := by omega) | (have a3 : (s[k].toNat : Int) < 48 := by omega)); (try first | (have a4 : (s[k].toNat : Int) ≤ 57 := by omega) | (have a4 : 57 < (s[k].toNat : Int) := by omega)); (try first | (have a1d : decide (97 ≤ (s[k].toNat : Int)) = true := decide_eq_true (by omega)) | (have a1d : decide (97 ≤ (s[k].toNat : Int)) = false := decide_eq_false (by omega))); (try first | (have a2d : decide ((s[k].toNat : Int) ≤ 122) = true := decide_eq_true (by omega)) | (have a2d : decide ((s[k].toNat : Int) ≤ 122) = false := decide_eq_false (by omega))); (try first | (have a3d : decide (48 ≤ (s[k].toNat : Int)) = true := decide_eq_true (by omega)) | (have a3d : decide (48 ≤ (s[k].toNat : Int)) = false := decide_eq_false (by omega))); (try first | (have a4d : decide ((s[k].toNat : Int) ≤ 57) = true := decide_eq_true (by omega)) | (have a4d : decide ((s[k].toNat : Int) ≤ 57) = false := decide_eq_false (by omega)))
          go_wp2
          all_goals
            go_ret
            exact ⟨ret_bool HF.out.symm, rfl⟩
    · have hkk : k = s.size := by omega
      have HF := Hid.mk' (named_yes (s := s) fun j hj => hrel.out j (by omega))
      subst hkk
      go_wp2
      go_ret
      exact ⟨ret_bool (by rw [HF.out]; symm; rw [decide_eq_true_iff]; omega), rfl⟩

end Go.Proofs.YtihldginolbooaaGreatDoor

/-
What is wrong with a column: the closure, the library's IndexFunc and ContainsFunc at it, rel.column.
-/
namespace Go.Proofs.YtihldginolbooaaGreatDoor
open Go.RowKit

def Col.agg (c : Col) : Value := .agg #[.string c.nm, .int .u8 c.ty, .bool c.key]
/-- A name is the captured column's. -/
def sameNm (c : Col) (o : Col) : Bool := decide (o.nm = c.nm)

set_option maxRecDepth 20000 in set_option maxHeartbeats 400000 in
theorem colf_any (o c : Col) (B : Nat) (w : World) (hc : w.cell? ⟨B, 0, none⟩ = some (.string c.nm)) (hB : B < w.heap.size) :
    Calls Tryz.prog 87 #[.agg #[.string o.nm, .int .u8 o.ty, .bool o.key], .pointer (some ⟨B, 0, none⟩)] w fun e w' => e = .returned (.bool (sameNm c o)) ∧ Ext w w' := by
  go_enter Tryz.func87, Tryz.ntmps87
  go_wp2
  go_ret
  exact ⟨ret_bool (str_beq _ _), by exact eX⟩

def IdxPost {α : Type} (l : List α) (p : α → Bool) (w : World) (e : Ending) (w' : World) : Prop := ∃ i : Int, e = .returned (.int .i64 i) ∧ decide (0 ≤ i) = l.any p ∧ Ext w w'
theorem any_at {α : Type} {l : List α} {p : α → Bool} {k : Nat} (hk : k < l.length) (h : p l[k] = true) : l.any p = true := List.any_eq_true.2 ⟨_, List.getElem_mem hk, h⟩
theorem any_none {α : Type} {l : List α} {p : α → Bool} (h : ∀ i (hi : i < l.length), p l[i] = false) : l.any p = false := by
  rw [List.any_eq_false]
  intro x hx
  obtain ⟨i, hi, rfl⟩ := List.getElem_of_mem hx
  simp [h i hi]

set_option maxRecDepth 100000 in set_option maxHeartbeats 1600000 in
theorem colidx_any (l : List Col) (a : Option Addr) (n cap : Nat) (c : Col) (B : Nat) (w : World) (hn : l.length = n) (hl : Sl w (.slice a n cap) 3 (l.map Col.cells)) (hc : w.cell? ⟨B, 0, none⟩ = some (.string c.nm)) (hB : B < w.heap.size) (hlen : l.length ≤ 1000) :
    Calls Tryz.prog 114 #[.slice a n cap, .func (.func 87) #[] #[.pointer (some ⟨B, 0, none⟩)]] w (IdxPost l (sameNm c) w) := by
  subst hn
  have HL := Hid.mk' hl
  have HC := Hid.mk' hc
  clear hl hc
  go_enter Tryz.func114, Tryz.ntmps114
  go_wp2
  go_loopw [8] (fun i wr => ∃ k : Nat, k ≤ l.length ∧ i = .int .i64 k ∧ Hid (∀ j (hj : j < l.length), j < k → sameNm c l[j] = false) ∧ Hid (Ext w wr)) (fun i _ => l.length - (intOf i).toNat)
  case atStart => exact ⟨0, Nat.zero_le _, rfl, fun j _ h => by omega, Ext.refl _⟩
  case round =>
    obtain ⟨k, hk, rfl, hrel, hE⟩ := hrel
    by_cases hlt : k < l.length
    · obtain ⟨b, o, rfl, hb, hx⟩ := HL.out.at_ (i := k) (by simpa using hlt)
      obtain ⟨f0, f1, f2⟩ := Col.at_ hlt hx hb hE.out
      have hbw : b < wr.heap.size := Nat.lt_of_lt_of_le hb hE.out.size
      have HF := Hid.mk' (fun W (h : Ext wr W) => colf_any l[k] c B W ((hE.out.trans h).cells.1 B _ hB |>.trans HC.out) (Nat.lt_of_lt_of_le hB (hE.out.trans h).size))
      cases hq : sameNm c l[k] with
      | true =>
        rw [hq] at HF
        have HQ := Hid.mk' (any_at hlt hq)
        clear hq hx
        go_wp2_with (go_at_call 87; refine (HF.out _ (by exact eX)).mono ?_; rintro e w1 ⟨rfl, hb1⟩)
        go_ret
        exact ⟨_, rfl, by rw [HQ.out]; simp, hE.out.trans (by exact eX)⟩
      | false =>
        rw [hq] at HF
        have HQ := Hid.mk' hq
        clear hq hx
        go_wp2_with (go_at_call 87; refine (HF.out _ (by exact eX)).mono ?_; rintro e w1 ⟨rfl, hb1⟩)
        go_roundw
        case rel => exact ⟨k + 1, by omega, by go_num, fun j hj hjk => by
          by_cases e : j = k
          · subst e; exact HQ.out
          · exact hrel.out j hj (by omega), Hid.mk' (hE.out.trans (by exact eX))⟩
        case measure => simp [intOf]; omega
    · have hkk : k = l.length := by omega
      have HQ := Hid.mk' (any_none (p := sameNm c) fun j hj => hrel.out j hj (by omega))
      subst hkk
      go_wp2
      go_ret
      exact ⟨_, rfl, by rw [HQ.out]; simp, hE.out⟩

set_option maxRecDepth 20000 in set_option maxHeartbeats 400000 in
theorem colhas_any (l : List Col) (a : Option Addr) (n cap : Nat) (c : Col) (B : Nat) (w : World) (hn : l.length = n) (hl : Sl w (.slice a n cap) 3 (l.map Col.cells)) (hc : w.cell? ⟨B, 0, none⟩ = some (.string c.nm)) (hB : B < w.heap.size) (hlen : l.length ≤ 1000) :
    Calls Tryz.prog 86 #[.slice a n cap, .func (.func 87) #[] #[.pointer (some ⟨B, 0, none⟩)]] w fun e w' => e = .returned (.bool (l.any (sameNm c))) ∧ Ext w w' := by
  have HI := Hid.mk' (colidx_any l a n cap c B w hn hl hc hB hlen)
  clear hl hc
  go_enter Tryz.func86, Tryz.ntmps86
  go_wp2_with (go_at_call 114; refine HI.out.mono ?_; rintro e w1 ⟨i, rfl, hi, hb1⟩; have HI2 := Hid.mk' hi; clear hi)
  go_ret
  exact ⟨ret_bool HI2.out, hb1⟩

set_option maxRecDepth 100000 in set_option maxHeartbeats 1600000 in
theorem column_any (c : Col) (l : List Col) (a : Option Addr) (n cap : Nat) (w : World) (hn : l.length = n) (hl : Sl w (.slice a n cap) 3 (l.map Col.cells)) (hlen : l.length ≤ 1000) (hs : c.nm.size ≤ 9223372036854775807) :
    Calls Tryz.prog 62 #[.agg #[.string c.nm, .int .u8 c.ty, .bool c.key], .slice a n cap] w fun e w' => e = .returned (.int .i64 (colE c l)) ∧ Ext w w' := by
  have HN := Hid.mk' (fun w => named_any c.nm w hs)
  have HH := Hid.mk' (fun W (h : Ext w W) (B : Nat) hc hB => colhas_any l a n cap c B W hn (hl.ext h) hc hB hlen)
  have HE := Hid.mk' (show colE c l = if namedB c.nm = false then 3 else if l.any (sameNm c) = true then 9 else if c.ty < 1 ∨ 6 < c.ty then 11 else 0 from rfl)
  clear hl
  cases h1 : namedB c.nm with
  | false =>
    rw [h1] at HN HE
    clear h1
    go_enter Tryz.func62, Tryz.ntmps62
    go_wp2_with (go_at_call 61; refine (HN.out _).mono ?_; rintro e w1 ⟨rfl, rfl⟩)
    go_ret
    exact ⟨ret_int (by rw [HE.out]; simp), by exact eX⟩
  | true =>
    rw [h1] at HN HE
    clear h1
    cases h2 : l.any (sameNm c) with
    | true =>
      rw [h2] at HH HE
      clear h2
      go_enter Tryz.func62, Tryz.ntmps62
      go_wp2_with (first
        | (go_at_call 61; refine (HN.out _).mono ?_; rintro e w1 ⟨rfl, rfl⟩)
        | (go_at_call 86; refine (HH.out _ (by exact eX) _ (by simp) (by simp)).mono ?_; rintro e w2 ⟨rfl, hb2⟩; have hE2 : Ext w w2 := (by exact eX)))
      go_ret
      exact ⟨ret_int (by rw [HE.out]; simp), hE2⟩
    | false =>
      rw [h2] at HH HE
      clear h2
      by_cases h3 : c.ty < 1
      · have HR := Hid.mk' (HE.out.trans (by rw [if_neg (by simp), if_neg (by simp), if_pos (.inl h3)]))
        clear HE
        go_enter Tryz.func62, Tryz.ntmps62
        go_wp2_with (first
          | (go_at_call 61; refine (HN.out _).mono ?_; rintro e w1 ⟨rfl, rfl⟩)
          | (go_at_call 86; refine (HH.out _ (by exact eX) _ (by simp) (by simp)).mono ?_; rintro e w2 ⟨rfl, hb2⟩; have hE2 : Ext w w2 := (by exact eX); have hk := ((Blk.new w #[.string c.nm, .int .u8 c.ty, .bool c.key] 116).ext hb2).cell))
        go_ret
        exact ⟨ret_int HR.out.symm, hE2⟩
      · by_cases h4 : 6 < c.ty
        · have HR := Hid.mk' (HE.out.trans (by rw [if_neg (by simp), if_neg (by simp), if_pos (.inr h4)]))
          clear HE
          go_enter Tryz.func62, Tryz.ntmps62
          go_wp2_with (first
            | (go_at_call 61; refine (HN.out _).mono ?_; rintro e w1 ⟨rfl, rfl⟩)
            | (go_at_call 86; refine (HH.out _ (by exact eX) _ (by simp) (by simp)).mono ?_; rintro e w2 ⟨rfl, hb2⟩; have hE2 : Ext w w2 := (by exact eX); have hk := ((Blk.new w #[.string c.nm, .int .u8 c.ty, .bool c.key] 116).ext hb2).cell))
          go_ret
          exact ⟨ret_int HR.out.symm, hE2⟩
        · have HR := Hid.mk' (HE.out.trans (by rw [if_neg (by simp), if_neg (by simp), if_neg (by omega)]))
          clear HE
          go_enter Tryz.func62, Tryz.ntmps62
          go_wp2_with (first
            | (go_at_call 61; refine (HN.out _).mono ?_; rintro e w1 ⟨rfl, rfl⟩)
            | (go_at_call 86; refine (HH.out _ (by exact eX) _ (by simp) (by simp)).mono ?_; rintro e w2 ⟨rfl, hb2⟩; have hE2 : Ext w w2 := (by exact eX); have hk := ((Blk.new w #[.string c.nm, .int .u8 c.ty, .bool c.key] 116).ext hb2).cell))
          go_ret
          exact ⟨ret_int HR.out.symm, hE2⟩

end Go.Proofs.YtihldginolbooaaGreatDoor
