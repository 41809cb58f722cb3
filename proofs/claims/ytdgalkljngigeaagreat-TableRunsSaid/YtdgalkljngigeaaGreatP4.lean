/-
The reference's cell: Texty, Right.
-/
import Derived.Deep.RegionHeld
import Derived.Test.YtdgalkljngigeaaGreatP3
namespace Go.Proofs.YtdgalkljngigeaaGreat
open Go.RowKit

set_option maxRecDepth 20000 in
theorem neq_val2 (ty n : Int) (x y : Nat) (s : ByteArray) (ty' n' : Int) (x' y' : Nat) (s' : ByteArray) (w : World) :
    (binOp .neq 117 (.agg #[.int .u8 ty, .int .i64 n, .int .u64 x, .int .u64 y, .string s]) (.agg #[.int .u8 ty', .int .i64 n', .int .u64 x', .int .u64 y', .string s'])).run Tryz.prog w = .ok (.bool (!sameB ty n x y s ty' n' x' y' s')) w := by
  by_cases h1 : ty = ty' <;> by_cases h2 : n = n' <;> by_cases h3 : x = x' <;> by_cases h4 : y = y' <;> by_cases h5 : s = s' <;> simp [go_sem, sameB, h1, h2, h3, h4, h5]
  all_goals first
    | (intro h; exact absurd (toList_inj' h) h5)
    | omega
    | (intros; omega)
    | (intros; intro h; exact absurd (toList_inj' h) h5)

set_option maxRecDepth 20000 in set_option maxHeartbeats 400000 in
theorem rtexty_yes (kind : Int) (w : World) (h : kind = 5 ∨ kind = 6) : Calls Tryz.prog 131 #[.int .u8 kind] w fun e w' => e = .returned (.bool true) ∧ w = w' := by
  rcases h with rfl | rfl
  all_goals
    go_enter Tryz.func131, Tryz.ntmps131
    go_wp2
    go_ret
    exact ⟨rfl, rfl⟩
set_option maxRecDepth 20000 in set_option maxHeartbeats 400000 in
theorem rtexty_no (kind : Int) (w : World) (h : kind ≠ 5 ∧ kind ≠ 6) : Calls Tryz.prog 131 #[.int .u8 kind] w fun e w' => e = .returned (.bool false) ∧ w = w' := by
  have h5 : (kind == 5) = false := by simpa using h.1
  have h6 : (kind == 6) = false := by simpa using h.2
  clear h
  go_enter Tryz.func131, Tryz.ntmps131
  go_wp2
  go_ret
  exact ⟨rfl, rfl⟩

set_option maxRecDepth 100000 in set_option maxHeartbeats 1600000 in
theorem rcright_any (k ty n : Int) (x y : Nat) (s : ByteArray) (kind : Int) (w : World) (hk0 : 0 ≤ k) (hs : s.size ≤ 9223372036854775807) :
    Calls Tryz.prog 127 #[.agg #[.int .u8 k, .int .u8 ty, .int .i64 n, .int .u64 x, .int .u64 y, .string s], .int .u8 kind] w fun e w' => e = .returned (.int .i64 (rightC k ty n x y s kind)) ∧ Ext w w' := by
  have HV := Hid.mk' (fun w => rright_any ty n x y s w hs)
  by_cases hkd : kind < 1 ∨ 6 < kind
  · have HR : Hid (rightC k ty n x y s kind = 11) := Hid.mk' (by unfold rightC; rw [if_pos hkd])
    by_cases h1 : kind < 1
    · clear hkd
      go_enter Tryz.func127, Tryz.ntmps127
      go_wp2
      go_ret
      exact ⟨ret_int HR.out.symm, by exact eX⟩
    · have h6 : 6 < kind := by omega
      clear hkd
      go_enter Tryz.func127, Tryz.ntmps127
      go_wp2
      go_ret
      exact ⟨ret_int HR.out.symm, by exact eX⟩
  have hd1 : 1 ≤ kind := by omega
  have hd2 : kind ≤ 6 := by omega
  by_cases hk2 : 2 < k
  · have HR : Hid (rightC k ty n x y s kind = 7) := Hid.mk' (by unfold rightC; rw [if_neg hkd, if_pos hk2])
    clear hkd
    go_enter Tryz.func127, Tryz.ntmps127
    go_wp2
    go_ret
    exact ⟨ret_int HR.out.symm, by exact eX⟩
  by_cases hk3 : k < 2
  · by_cases hz : ty = 0 ∧ n = 0 ∧ (x : Int) = 0 ∧ (y : Int) = 0 ∧ s.size = 0
    · obtain ⟨h_1, h_2, h_3, h_4, h_5⟩ := hz
      obtain rfl := h_1
      obtain rfl := h_2
      obtain rfl : x = 0 := by omega
      obtain rfl : y = 0 := by omega
      obtain rfl : s = ByteArray.empty := (size_zero s).2 h_5
      have hz : (0 : Int) = 0 ∧ (0 : Int) = 0 ∧ ((0 : Nat) : Int) = 0 ∧ ((0 : Nat) : Int) = 0 ∧ ByteArray.empty.size = 0 := ⟨rfl, rfl, rfl, rfl, rfl⟩
      clear h_3 h_4 h_5
      by_cases h1 : k = 1
      · subst h1
        by_cases ht : kind = 5 ∨ kind = 6
        · have HR : Hid (rightC 1 0 0 ((0 : Nat) : Int) ((0 : Nat) : Int) ByteArray.empty kind = 0) := Hid.mk' (by unfold rightC; rw [if_neg hkd, if_neg hk2, if_pos hk3, if_pos hz, if_neg (by omega)])
          have HX := Hid.mk' (fun w => rtexty_yes kind w ht)
          clear hkd hz ht
          go_enter Tryz.func127, Tryz.ntmps127
          go_wp2_with (go_at_call 131; refine (HX.out _).mono ?_; rintro e w1 ⟨rfl, rfl⟩)
          go_ret
          exact ⟨ret_int HR.out.symm, by exact eX⟩
        · have HR : Hid (rightC 1 0 0 ((0 : Nat) : Int) ((0 : Nat) : Int) ByteArray.empty kind = 11) := Hid.mk' (by unfold rightC; rw [if_neg hkd, if_neg hk2, if_pos hk3, if_pos hz, if_pos (by omega)])
          have HX := Hid.mk' (fun w => rtexty_no kind w (by omega))
          clear hkd hz ht
          go_enter Tryz.func127, Tryz.ntmps127
          go_wp2_with (go_at_call 131; refine (HX.out _).mono ?_; rintro e w1 ⟨rfl, rfl⟩)
          go_ret
          exact ⟨ret_int HR.out.symm, by exact eX⟩
      · obtain rfl : k = 0 := by omega
        have HR : Hid (rightC 0 0 0 ((0 : Nat) : Int) ((0 : Nat) : Int) ByteArray.empty kind = 0) := Hid.mk' (by unfold rightC; rw [if_neg hkd, if_neg hk2, if_pos hk3, if_pos hz, if_neg (by omega)])
        clear hkd hz h1
        go_enter Tryz.func127, Tryz.ntmps127
        go_wp2
        go_ret
        exact ⟨ret_int HR.out.symm, by exact eX⟩
    · have HR : Hid (rightC k ty n x y s kind = 3) := Hid.mk' (by unfold rightC; rw [if_neg hkd, if_neg hk2, if_pos hk3, if_neg hz])
      have HZ := Hid.mk' hz
      clear hkd hz
      by_cases g1 : ty = 0
      · subst g1
        by_cases g2 : n = 0
        · subst g2
          by_cases g3 : x = 0
          · subst g3
            by_cases g4 : y = 0
            · subst g4
              have g5 : ¬ s.toList = [] := by
                intro h
                refine HZ.out ⟨rfl, rfl, rfl, rfl, ?_⟩
                have := isEmpty_size s
                rw [h] at this
                exact of_decide_eq_true this.symm
              have g6 : (s.toList == []) = false := by simpa using g5
              go_enter Tryz.func127, Tryz.ntmps127
              go_wp2
              go_ret
              exact ⟨ret_int HR.out.symm, by exact eX⟩
            · go_enter Tryz.func127, Tryz.ntmps127
              go_wp2
              go_ret
              exact ⟨ret_int HR.out.symm, by exact eX⟩
          · go_enter Tryz.func127, Tryz.ntmps127
            go_wp2
            go_ret
            exact ⟨ret_int HR.out.symm, by exact eX⟩
        · go_enter Tryz.func127, Tryz.ntmps127
          go_wp2
          go_ret
          exact ⟨ret_int HR.out.symm, by exact eX⟩
      · go_enter Tryz.func127, Tryz.ntmps127
        go_wp2
        go_ret
        exact ⟨ret_int HR.out.symm, by exact eX⟩
  · obtain rfl : k = 2 := by omega
    obtain ⟨R, hR⟩ : ∃ R, R = rightV ty n x y s := ⟨_, rfl⟩
    rw [← hR] at HV
    by_cases h0 : R = 0
    · subst h0
      by_cases ht : ty = kind
      · have HR : Hid (rightC 2 ty n x y s kind = 0) := Hid.mk' (right_mk hR.symm ht)
        subst ht
        clear hkd hR
        go_enter Tryz.func127, Tryz.ntmps127
        go_wp2_with (go_at_call 132; refine (HV.out _).mono ?_; rintro e w1 ⟨rfl, hb1⟩; have h1 := (Blk.new w #[.int .u8 2, .int .u8 ty, .int .i64 n, .int .u64 x, .int .u64 y, .string s] 119).ext hb1; have k1 := h1.cell; have z1 := h1.lt)
        go_ret
        exact ⟨ret_int HR.out.symm, by exact eX⟩
      · have HR : Hid (rightC 2 ty n x y s kind = 11) := Hid.mk' (by unfold rightC; rw [if_neg hkd, if_neg hk2, if_neg hk3, if_neg (by rw [← hR]; decide), if_pos ht])
        have ht2 : (ty != kind) = true := by simpa using ht
        clear hkd hR ht
        go_enter Tryz.func127, Tryz.ntmps127
        go_wp2_with (go_at_call 132; refine (HV.out _).mono ?_; rintro e w1 ⟨rfl, hb1⟩; have h1 := (Blk.new w #[.int .u8 2, .int .u8 ty, .int .i64 n, .int .u64 x, .int .u64 y, .string s] 119).ext hb1; have k1 := h1.cell; have z1 := h1.lt)
        go_ret
        exact ⟨ret_int HR.out.symm, by exact eX⟩
    · have HR : Hid (rightC 2 ty n x y s kind = R) := Hid.mk' (by unfold rightC; rw [if_neg hkd, if_neg hk2, if_neg hk3, if_pos (by rw [← hR]; exact h0), hR])
      have h02 : (R != 0) = true := by simpa using h0
      clear hkd hR h0
      go_enter Tryz.func127, Tryz.ntmps127
      go_wp2_with (go_at_call 132; refine (HV.out _).mono ?_; rintro e w1 ⟨rfl, hb1⟩; have h1 := (Blk.new w #[.int .u8 2, .int .u8 ty, .int .i64 n, .int .u64 x, .int .u64 y, .string s] 119).ext hb1; have k1 := h1.cell; have z1 := h1.lt)
      go_ret
      exact ⟨ret_int HR.out.symm, by exact eX⟩

end Go.Proofs.YtdgalkljngigeaaGreat

/-
Whether a row fits a relation: the program's answer, the reference's.
-/
namespace Go.Proofs.YtdgalkljngigeaaGreat
open Go.RowKit

/-- What is wrong with the cell of a column. -/
def fitAt (l : List K) (cols : List Col) (i : Nat) : Int := if h : i < l.length ∧ i < cols.length then (l[i]'h.1).right (cols[i]'h.2).ty else 0
theorem fitAt_lt {l : List K} {cols : List Col} {i : Nat} (h : i < l.length) (h2 : i < cols.length) : fitAt l cols i = l[i].right cols[i].ty := by unfold fitAt; rw [dif_pos ⟨h, h2⟩]
/-- What is wrong with a row of a relation. -/
def fitsE (l : List K) (r : Rl) : Int := if r.right ≠ 0 then r.right else if l.length ≠ r.cols.length then 17 else firstE (fitAt l r.cols) l.length

structure K.wk (c : K) : Prop where
  k : 0 ≤ c.k
  s : c.v.s.size ≤ 9223372036854775807

set_option maxRecDepth 100000 in set_option maxHeartbeats 4000000 in
theorem fits_any (l : List K) (a : Option Addr) (cap : Nat) (oid ver : Int) (nm : ByteArray) (id : Int) (cols : List Col) (a2 : Option Addr) (cap2 : Nat) (w : World) (hl : Sl w (.slice a l.length cap) 5 (l.map K.pc)) (hl2 : Sl w (.slice a2 cols.length cap2) 3 (cols.map Col.cells))
    (hcap2 : cols.length ≤ cap2) (_hlen : l.length ≤ 1000) (hlen2 : cols.length ≤ 1000) (hs : ∀ c ∈ l, c.wk) (hs2 : ∀ c ∈ cols, c.nm.size ≤ 9223372036854775807) (hnm : nm.size ≤ 9223372036854775807) :
    Calls Tryz.prog 123 #[.slice a l.length cap, .agg #[.int .u32 oid, .int .u32 ver, .string nm, .int .u8 id, .slice a2 cols.length cap2]] w fun e w' => e = .returned (.int .i64 (fitsE l (⟨oid, ver, nm, id, cols⟩ : Rl))) ∧ Ext w w' := by
  have HR := Hid.mk' (fun W (h : Ext w W) => right8_any oid ver nm id cols a2 cap2 W (hl2.ext h) hcap2 hlen2 hnm hs2)
  have HF : Hid (fitsE l (⟨oid, ver, nm, id, cols⟩ : Rl) = if (⟨oid, ver, nm, id, cols⟩ : Rl).right ≠ 0 then (⟨oid, ver, nm, id, cols⟩ : Rl).right else if l.length ≠ cols.length then 17 else firstE (fitAt l cols) l.length) := Hid.mk' rfl
  have HL := Hid.mk' hl
  have HL2 := Hid.mk' hl2
  have HS := Hid.mk' hs
  clear hl hl2 hs hs2
  generalize (⟨oid, ver, nm, id, cols⟩ : Rl).right = E at *
  by_cases h0 : E = 0
  case neg =>
    have HF2 := Hid.mk' (HF.out.trans (if_pos h0))
    have h0' : (E != 0) = true := by simpa using h0
    clear h0 HF
    go_enter Tryz.func123, Tryz.ntmps123
    go_wp2_with (go_at_call 61; refine (HR.out _ (by exact eX)).mono ?_; rintro e w1 ⟨rfl, hb1⟩; have hE1 : Ext w w1 := (by exact eX))
    go_ret
    exact ⟨ret_int HF2.out.symm, hE1⟩
  subst h0
  have HF2 := Hid.mk' (HF.out.trans (if_neg (by simp)))
  clear HF
  by_cases hn : l.length = cols.length
  case neg =>
    have HF3 := Hid.mk' (HF2.out.trans (if_pos hn))
    have hn' : (((l.length : Nat) : Int) != ((cols.length : Nat) : Int)) = true := by simp; omega
    clear hn HF2
    go_enter Tryz.func123, Tryz.ntmps123
    go_wp2_with (go_at_call 61; refine (HR.out _ (by exact eX)).mono ?_; rintro e w1 ⟨rfl, hb1⟩; have hE1 : Ext w w1 := (by exact eX); have g0 := ((Blk.new w #[.int .u32 oid, .int .u32 ver, .string nm, .int .u8 id, .slice a2 cols.length cap2] 99).ext hb1).cell)
    go_ret
    exact ⟨ret_int HF3.out.symm, hE1⟩
  have HF3 := Hid.mk' (HF2.out.trans (if_neg (by simpa using hn)))
  have hn' : (((l.length : Nat) : Int) != ((cols.length : Nat) : Int)) = false := by simp; omega
  have hnl : l.length ≤ cols.length := by omega
  clear HF2
  have HNE := Hid.mk' hn
  clear hn
  go_enter Tryz.func123, Tryz.ntmps123
  go_wp2_with (go_at_call 61; refine (HR.out _ (by exact eX)).mono ?_; rintro e w1 ⟨rfl, hb1⟩; have hE1 := Hid.mk' hb1; have g0 := ((Blk.new w #[.int .u32 oid, .int .u32 ver, .string nm, .int .u8 id, .slice a2 cols.length cap2] 99).ext hb1).cell; clear hb1)
  go_loopw [22] (fun i wr => ∃ k : Nat, k ≤ l.length ∧ i = .int .i64 k ∧ Hid (∀ j, j < k → fitAt l cols j = 0) ∧ Hid (Ext (w.alloc (.cells #[.int .u32 oid, .int .u32 ver, .string nm, .int .u8 id, .slice a2 cols.length cap2] 99)) wr)) (fun i _ => l.length - (intOf i).toNat)
  case atStart => exact ⟨0, Nat.zero_le _, rfl, fun j h => by omega, hE1⟩
  case round =>
    obtain ⟨k, hk, rfl, hrel, hE⟩ := hrel
    have hEw : Hid (Ext w wr) := Hid.mk' (((Ext.refl w).alloc _).trans hE.out)
    by_cases hlt : k < l.length
    · have hlt2 : k < cols.length := by omega
      have hBx := (Blk.new w #[.int .u32 oid, .int .u32 ver, .string nm, .int .u8 id, .slice a2 cols.length cap2] 99).ext hE.out
      have g0 := hBx.cell
      have z0 := hBx.lt
      obtain ⟨b, o, rfl, hb, hx⟩ := HL.out.at_ (i := k) (by simpa using hlt)
      obtain ⟨f0, f1, f2, f3, f4⟩ := K.pcAt hlt hx hb hEw.out
      obtain ⟨b2, o2, rfl, hb2, hx2⟩ := HL2.out.at_ (i := k) (by simpa using hlt2)
      obtain ⟨p0, p1, p2⟩ := Col.at_ hlt2 hx2 hb2 hEw.out
      have hbw : b < wr.heap.size := Nat.lt_of_lt_of_le hb hEw.out.size
      have hbw2 : b2 < wr.heap.size := Nat.lt_of_lt_of_le hb2 hEw.out.size
      have hwk := HS.out _ (List.getElem_mem hlt)
      have HC := Hid.mk' (fun W => cright_any l[k].k l[k].v.ty l[k].v.n l[k].v.x l[k].v.y l[k].v.s cols[k].ty W hwk.k hwk.s)
      have hAt := fitAt_lt hlt hlt2
      unfold K.right at hAt
      obtain ⟨E, hE0⟩ : ∃ E, E = rightC l[k].k l[k].v.ty l[k].v.n l[k].v.x l[k].v.y l[k].v.s cols[k].ty := ⟨_, rfl⟩
      rw [← hE0] at HC hAt
      have HAt := Hid.mk' hAt
      clear hx hx2 hAt hE0 hBx hwk
      by_cases h0 : E = 0
      · subst h0
        go_wp2
        go_region_held3 (fun w' => Ext (wr.alloc (.cells #[.int .u8 l[k].k, .int .u8 l[k].v.ty, .int .i64 l[k].v.n, .complex .f64 l[k].v.x l[k].v.y, .string l[k].v.s] 124)) w' ∧ (∀ b o, b < (wr.alloc (.cells #[.int .u8 l[k].k, .int .u8 l[k].v.ty, .int .i64 l[k].v.n, .complex .f64 l[k].v.x l[k].v.y, .string l[k].v.s] 124)).heap.size → w'.cell? ⟨b, o, none⟩ = (wr.alloc (.cells #[.int .u8 l[k].k, .int .u8 l[k].v.ty, .int .i64 l[k].v.n, .complex .f64 l[k].v.x l[k].v.y, .string l[k].v.s] 124)).cell? ⟨b, o, none⟩) ∧ (∀ b o, b < (wr.alloc (.cells #[.int .u8 l[k].k, .int .u8 l[k].v.ty, .int .i64 l[k].v.n, .complex .f64 l[k].v.x l[k].v.y, .string l[k].v.s] 124)).heap.size → w'.frozen? ⟨b, o, none⟩ = (wr.alloc (.cells #[.int .u8 l[k].k, .int .u8 l[k].v.ty, .int .i64 l[k].v.n, .complex .f64 l[k].v.x l[k].v.y, .string l[k].v.s] 124)).frozen? ⟨b, o, none⟩)) ((exact held_of (by exact eX)))
          (first
            | (go_at_call 126; refine (HC.out _).mono ?_; rintro e w2 ⟨rfl, hb2'⟩))
        go_wp2
        go_roundw
        case rel => exact ⟨k + 1, by omega, by go_num, fun j hj => by
          by_cases e : j = k
          · subst e; exact HAt.out
          · exact hrel.out j (by omega), Hid.mk' (hE.out.trans (by exact eX))⟩
        case measure => simp [intOf]; omega
      · have h0' : (E != 0) = true := by simpa using h0
        have HR2 := Hid.mk' (HF3.out.trans (show firstE (fitAt l cols) l.length = E by rw [firstE_at hrel.out hlt (by rw [HAt.out]; exact h0), HAt.out]))
        clear h0
        go_wp2
        go_region_held3 (fun w' => Ext (wr.alloc (.cells #[.int .u8 l[k].k, .int .u8 l[k].v.ty, .int .i64 l[k].v.n, .complex .f64 l[k].v.x l[k].v.y, .string l[k].v.s] 124)) w' ∧ (∀ b o, b < (wr.alloc (.cells #[.int .u8 l[k].k, .int .u8 l[k].v.ty, .int .i64 l[k].v.n, .complex .f64 l[k].v.x l[k].v.y, .string l[k].v.s] 124)).heap.size → w'.cell? ⟨b, o, none⟩ = (wr.alloc (.cells #[.int .u8 l[k].k, .int .u8 l[k].v.ty, .int .i64 l[k].v.n, .complex .f64 l[k].v.x l[k].v.y, .string l[k].v.s] 124)).cell? ⟨b, o, none⟩) ∧ (∀ b o, b < (wr.alloc (.cells #[.int .u8 l[k].k, .int .u8 l[k].v.ty, .int .i64 l[k].v.n, .complex .f64 l[k].v.x l[k].v.y, .string l[k].v.s] 124)).heap.size → w'.frozen? ⟨b, o, none⟩ = (wr.alloc (.cells #[.int .u8 l[k].k, .int .u8 l[k].v.ty, .int .i64 l[k].v.n, .complex .f64 l[k].v.x l[k].v.y, .string l[k].v.s] 124)).frozen? ⟨b, o, none⟩)) ((exact held_of (by exact eX)))
          (first
            | (go_at_call 126; refine (HC.out _).mono ?_; rintro e w2 ⟨rfl, hb2'⟩))
        go_wp2
        go_ret
        exact ⟨ret_int HR2.out.symm, hEw.out.trans (by exact eX)⟩
    · have hkk : k = l.length := by omega
      have HR2 := Hid.mk' (HF3.out.trans (firstE_zero (fun i hi => hrel.out i (by omega))))
      subst hkk
      go_wp2
      go_ret
      exact ⟨ret_int HR2.out.symm, hEw.out⟩

set_option maxRecDepth 100000 in set_option maxHeartbeats 4000000 in
theorem rfits_big (l : List K) (a : Option Addr) (cap : Nat) (oid ver : Int) (nm : ByteArray) (id : Int) (cols : List Col) (a2 : Option Addr) (cap2 : Nat) (w : World) (hl : Sl w (.slice a l.length cap) 6 (l.map K.rc)) (hl2 : Sl w (.slice a2 cols.length cap2) 3 (cols.map Col.cells))
    (_hlen : l.length ≤ 9223372036854775807) (hlen2 : cols.length ≤ 9223372036854775807) (hs : ∀ c ∈ l, c.wk) (hs2 : ∀ c ∈ cols, c.nm.size ≤ 9223372036854775807) (hnm : nm.size ≤ 9223372036854775807) :
    Calls Tryz.prog 124 #[.slice a l.length cap, .agg #[.int .u32 oid, .int .u32 ver, .string nm, .int .u8 id, .slice a2 cols.length cap2]] w fun e w' => e = .returned (.int .i64 (fitsE l (⟨oid, ver, nm, id, cols⟩ : Rl))) ∧ Ext w w' := by
  have HR := Hid.mk' (fun W (h : Ext w W) => rright8_big oid ver nm id cols a2 cap2 W (hl2.ext h) hlen2 hnm hs2)
  have HF : Hid (fitsE l (⟨oid, ver, nm, id, cols⟩ : Rl) = if (⟨oid, ver, nm, id, cols⟩ : Rl).right ≠ 0 then (⟨oid, ver, nm, id, cols⟩ : Rl).right else if l.length ≠ cols.length then 17 else firstE (fitAt l cols) l.length) := Hid.mk' rfl
  have HL := Hid.mk' hl
  have HL2 := Hid.mk' hl2
  have HS := Hid.mk' hs
  clear hl hl2 hs hs2
  generalize (⟨oid, ver, nm, id, cols⟩ : Rl).right = E at *
  by_cases h0 : E = 0
  case neg =>
    have HF2 := Hid.mk' (HF.out.trans (if_pos h0))
    have h0' : (E != 0) = true := by simpa using h0
    clear h0 HF
    go_enter Tryz.func124, Tryz.ntmps124
    go_wp2_with (go_at_call 72; refine (HR.out _ (by exact eX)).mono ?_; rintro e w1 ⟨rfl, hb1⟩; have hE1 : Ext w w1 := (by exact eX))
    go_ret
    exact ⟨ret_int HF2.out.symm, hE1⟩
  subst h0
  have HF2 := Hid.mk' (HF.out.trans (if_neg (by simp)))
  clear HF
  by_cases hn : l.length = cols.length
  case neg =>
    have HF3 := Hid.mk' (HF2.out.trans (if_pos hn))
    have hn' : (((l.length : Nat) : Int) != ((cols.length : Nat) : Int)) = true := by simp; omega
    clear hn HF2
    go_enter Tryz.func124, Tryz.ntmps124
    go_wp2_with (go_at_call 72; refine (HR.out _ (by exact eX)).mono ?_; rintro e w1 ⟨rfl, hb1⟩; have hE1 : Ext w w1 := (by exact eX); have g0 := ((Blk.new w #[.int .u32 oid, .int .u32 ver, .string nm, .int .u8 id, .slice a2 cols.length cap2] 51).ext hb1).cell)
    go_ret
    exact ⟨ret_int HF3.out.symm, hE1⟩
  have HF3 := Hid.mk' (HF2.out.trans (if_neg (by simpa using hn)))
  have hn' : (((l.length : Nat) : Int) != ((cols.length : Nat) : Int)) = false := by simp; omega
  have hnl : l.length ≤ cols.length := by omega
  clear HF2
  have HNE := Hid.mk' hn
  clear hn
  go_enter Tryz.func124, Tryz.ntmps124
  go_wp2_with (go_at_call 72; refine (HR.out _ (by exact eX)).mono ?_; rintro e w1 ⟨rfl, hb1⟩; have hE1 := Hid.mk' hb1; have g0 := ((Blk.new w #[.int .u32 oid, .int .u32 ver, .string nm, .int .u8 id, .slice a2 cols.length cap2] 51).ext hb1).cell; clear hb1)
  go_loopw [6] (fun i wr => ∃ k : Nat, k ≤ l.length ∧ i = .int .i64 k ∧ Hid (∀ j, j < k → fitAt l cols j = 0) ∧ Hid (Ext (w.alloc (.cells #[.int .u32 oid, .int .u32 ver, .string nm, .int .u8 id, .slice a2 cols.length cap2] 51)) wr)) (fun i _ => l.length - (intOf i).toNat)
  case atStart => exact ⟨0, Nat.zero_le _, rfl, fun j h => by omega, hE1⟩
  case round =>
    obtain ⟨k, hk, rfl, hrel, hE⟩ := hrel
    have hEw : Hid (Ext w wr) := Hid.mk' (((Ext.refl w).alloc _).trans hE.out)
    by_cases hlt : k < l.length
    · have hlt2 : k < cols.length := by omega
      have hBx := (Blk.new w #[.int .u32 oid, .int .u32 ver, .string nm, .int .u8 id, .slice a2 cols.length cap2] 51).ext hE.out
      have g0 := hBx.cell
      have z0 := hBx.lt
      obtain ⟨b, o, rfl, hb, hx⟩ := HL.out.at_ (i := k) (by simpa using hlt)
      obtain ⟨f0, f1, f2, f3, f4, f5⟩ := K.rcAt hlt hx hb hEw.out
      obtain ⟨b2, o2, rfl, hb2, hx2⟩ := HL2.out.at_ (i := k) (by simpa using hlt2)
      obtain ⟨p0, p1, p2⟩ := Col.at_ hlt2 hx2 hb2 hEw.out
      have hbw : b < wr.heap.size := Nat.lt_of_lt_of_le hb hEw.out.size
      have hbw2 : b2 < wr.heap.size := Nat.lt_of_lt_of_le hb2 hEw.out.size
      have hwk := HS.out _ (List.getElem_mem hlt)
      have HC := Hid.mk' (fun W => rcright_any l[k].k l[k].v.ty l[k].v.n l[k].v.x l[k].v.y l[k].v.s cols[k].ty W hwk.k hwk.s)
      have hAt := fitAt_lt hlt hlt2
      unfold K.right at hAt
      obtain ⟨E, hE0⟩ : ∃ E, E = rightC l[k].k l[k].v.ty l[k].v.n l[k].v.x l[k].v.y l[k].v.s cols[k].ty := ⟨_, rfl⟩
      rw [← hE0] at HC hAt
      have HAt := Hid.mk' hAt
      clear hx hx2 hAt hE0 hBx hwk
      by_cases h0 : E = 0
      · subst h0
        go_wp2
        go_region_held3 (fun w' => Ext (wr) w' ∧ (∀ b o, b < (wr).heap.size → w'.cell? ⟨b, o, none⟩ = (wr).cell? ⟨b, o, none⟩) ∧ (∀ b o, b < (wr).heap.size → w'.frozen? ⟨b, o, none⟩ = (wr).frozen? ⟨b, o, none⟩)) ((exact held_of (by exact eX)))
          (first
            | (go_at_call 127; refine (HC.out _).mono ?_; rintro e w2 ⟨rfl, hb2'⟩))
        go_wp2
        go_roundw
        case rel => exact ⟨k + 1, by omega, by go_num, fun j hj => by
          by_cases e : j = k
          · subst e; exact HAt.out
          · exact hrel.out j (by omega), Hid.mk' (hE.out.trans (by exact eX))⟩
        case measure => simp [intOf]; omega
      · have h0' : (E != 0) = true := by simpa using h0
        have HR2 := Hid.mk' (HF3.out.trans (show firstE (fitAt l cols) l.length = E by rw [firstE_at hrel.out hlt (by rw [HAt.out]; exact h0), HAt.out]))
        clear h0
        go_wp2
        go_region_held3 (fun w' => Ext (wr) w' ∧ (∀ b o, b < (wr).heap.size → w'.cell? ⟨b, o, none⟩ = (wr).cell? ⟨b, o, none⟩) ∧ (∀ b o, b < (wr).heap.size → w'.frozen? ⟨b, o, none⟩ = (wr).frozen? ⟨b, o, none⟩)) ((exact held_of (by exact eX)))
          (first
            | (go_at_call 127; refine (HC.out _).mono ?_; rintro e w2 ⟨rfl, hb2'⟩))
        go_wp2
        go_ret
        exact ⟨ret_int HR2.out.symm, hEw.out.trans (by exact eX)⟩
    · have hkk : k = l.length := by omega
      have HR2 := Hid.mk' (HF3.out.trans (firstE_zero (fun i hi => hrel.out i (by omega))))
      subst hkk
      go_wp2
      go_ret
      exact ⟨ret_int HR2.out.symm, hEw.out⟩

theorem rfits_any (l : List K) (a : Option Addr) (cap : Nat) (oid ver : Int) (nm : ByteArray) (id : Int) (cols : List Col) (a2 : Option Addr) (cap2 : Nat) (w : World) (hl : Sl w (.slice a l.length cap) 6 (l.map K.rc)) (hl2 : Sl w (.slice a2 cols.length cap2) 3 (cols.map Col.cells))
    (hlen : l.length ≤ 1000) (hlen2 : cols.length ≤ 1000) (hs : ∀ c ∈ l, c.wk) (hs2 : ∀ c ∈ cols, c.nm.size ≤ 9223372036854775807) (hnm : nm.size ≤ 9223372036854775807) :
    Calls Tryz.prog 124 #[.slice a l.length cap, .agg #[.int .u32 oid, .int .u32 ver, .string nm, .int .u8 id, .slice a2 cols.length cap2]] w fun e w' => e = .returned (.int .i64 (fitsE l (⟨oid, ver, nm, id, cols⟩ : Rl))) ∧ Ext w w' :=
  rfits_big l a cap oid ver nm id cols a2 cap2 w hl hl2 (by omega) (by omega) hs hs2 hnm

end Go.Proofs.YtdgalkljngigeaaGreat

/-
Transactions that lie somewhere; the laws' Great.
-/
namespace Go.Proofs.YtdgalkljngigeaaGreat
open Go.RowKit

/-- A transaction. -/
structure Tx where
  xid : Int
  st : Int
  es : List Ev
/-- A transaction that lies somewhere. -/
structure TL where
  xid : Int
  st : Int
  es : List EL
  a : Option Addr
  c : Nat
def TL.t (x : TL) : Tx := ⟨x.xid, x.st, x.es.map EL.e⟩
def TL.vals (x : TL) : List Value := [.int .u32 x.xid, .int .u64 x.st, .slice x.a x.es.length x.c]
def TL.agg (x : TL) : Value := .agg #[.int .u32 x.xid, .int .u64 x.st, .slice x.a x.es.length x.c]
def TL.at (n : Nat) (f : K → List Value) (W : World) (x : TL) : Prop := ES n f W (.slice x.a x.es.length x.c) x.es
theorem TL.at.ext {n : Nat} {f : K → List Value} {W W' : World} {x : TL} (h : x.at n f W) (he : Ext W W') : x.at n f W' := ES.ext h he
theorem TL.at_ {w wr : World} {b o : Nat} {l : List TL} {k : Nat} (hk : k < l.length) (hc : ∀ j, j < 3 → w.cell? ⟨b, o + k * 3 + j, none⟩ = ((l.map TL.vals).getD k [])[j]?) (hb : b < w.heap.size) (hE : Ext w wr) :
    wr.cell? ⟨b, o + k * 3, none⟩ = some (.int .u32 l[k].xid) ∧ wr.cell? ⟨b, o + k * 3 + 1, none⟩ = some (.int .u64 l[k].st) ∧ wr.cell? ⟨b, o + k * 3 + 2, none⟩ = some (.slice l[k].a l[k].es.length l[k].c) := by
  rw [getD_map TL.vals l hk] at hc
  have c := hE.cells.1 b
  exact ⟨(c _ hb).trans (hc 0 (by omega)), (c _ hb).trans (hc 1 (by omega)), (c _ hb).trans (hc 2 (by omega))⟩
/-- Transactions in a row. -/
structure TS (n : Nat) (f : K → List Value) (W : World) (v : Value) (xs : List TL) : Prop where
  row : Sl W v 3 (xs.map TL.vals)
  sl : ∀ x ∈ xs, x.at n f W
theorem TS.ext {n : Nat} {f : K → List Value} {W W' : World} {v : Value} {xs : List TL} (h : TS n f W v xs) (he : Ext W W') : TS n f W' v xs := ⟨h.row.ext he, fun x hx => (h.sl x hx).ext he⟩
/-- What is known of the sizes of an event, of a transaction, of the arguments. -/
structure Ev.sz (e : Ev) : Prop where
  b : e.b.length ≤ 9223372036854775807
  a : e.a.length ≤ 9223372036854775807
  r : e.rs.length ≤ 9223372036854775807
  sb : ∀ c ∈ e.b, c.wk
  sa : ∀ c ∈ e.a, c.wk
  kind : 0 ≤ e.kind ∧ e.kind < 256
  old : 0 ≤ e.old ∧ e.old < 256
  fl : 0 ≤ e.fl ∧ e.fl < 256
structure TL.sz (x : TL) : Prop where
  n : x.es.length ≤ 1500000000000
  e : ∀ e ∈ x.es, e.e.sz
  xid : 0 ≤ x.xid
/-- Not great. -/
structure Ev.lit (e : Ev) : Prop where
  b : e.b.length ≤ 20
  a : e.a.length ≤ 20
  r : e.rs.length ≤ 30
  sb : ∀ c ∈ e.b, c.v.s.size ≤ 3000
  sa : ∀ c ∈ e.a, c.v.s.size ≤ 3000
def manyT (ts : List TL) (k : Nat) : Nat := ((ts.take k).map fun t => t.es.length).sum
structure Lit (ps : List RR) (ts : List TL) : Prop where
  n : ps.length ≤ 70
  t : ts.length ≤ 60
  es : manyT ts ts.length ≤ 600
  e : ∀ t ∈ ts, ∀ e ∈ t.es, e.e.lit
  r : ∀ p ∈ ps, p.r.cols.length ≤ 20
def GreatT (ps : List RR) (ts : List TL) (w : World) (e : Ending) (w' : World) : Prop := ∃ g : Bool, e = .returned (.bool g) ∧ (g = false → Lit ps ts) ∧ Ext w w'
theorem manyT_succ {ts : List TL} {k : Nat} (hk : k < ts.length) : manyT ts (k + 1) = manyT ts k + ts[k].es.length := by
  unfold manyT
  rw [List.take_succ_eq_append_getElem hk, List.map_append, List.sum_append]; simp
theorem manyT_le (ts : List TL) (k : Nat) : manyT ts k ≤ manyT ts ts.length := by
  unfold manyT
  rw [List.take_length]
  have : (ts.map fun t => t.es.length) = ((ts.take k).map fun t => t.es.length) ++ ((ts.drop k).map fun t => t.es.length) := by rw [← List.map_append, List.take_append_drop]
  rw [this, List.sum_append]; omega
theorem manyT_bd {ts : List TL} (h : ∀ t ∈ ts, t.sz) (k : Nat) : manyT ts k ≤ k * 1500000000000 := by
  induction k with
  | zero => exact Nat.le_of_eq (by unfold manyT; rw [Nat.zero_mul]; rfl)
  | succ k ih =>
    by_cases hk : k < ts.length
    · rw [manyT_succ hk, Nat.succ_mul]; exact Nat.add_le_add ih (h _ (List.getElem_mem hk)).n
    · have e : manyT ts (k + 1) = manyT ts k := by unfold manyT; rw [List.take_of_length_le (by omega), List.take_of_length_le (by omega)]
      rw [e]; exact Nat.le_trans ih (Nat.mul_le_mul_right _ (by omega))

/-- What is known when k transactions were looked at. -/
structure GrI (ts : List TL) (m : Int) (k : Nat) : Prop where
  mm : ts.length ≤ 60 → m = manyT ts k
  e : ts.length ≤ 60 → m ≤ 600 → ∀ j (h : j < ts.length), j < k → ∀ e ∈ ts[j].es, e.e.lit
theorem GrI.zero (ts : List TL) : GrI ts 0 0 := ⟨fun _ => rfl, fun _ _ j _ h => by omega⟩
theorem GrI.succ {ts : List TL} {m : Int} {k : Nat} (h : GrI ts m k) (hs : ∀ t ∈ ts, t.sz) (hk : k < ts.length) (he : wrap64 (m + (ts[k].es.length : Nat)) ≤ 600 → ∀ e ∈ ts[k].es, e.e.lit) : GrI ts (wrap64 (m + (ts[k].es.length : Nat))) (k + 1) := by
  have hw : ts.length ≤ 60 → wrap64 (m + (ts[k].es.length : Nat)) = manyT ts (k + 1) := fun h60 => by
    have h1 := h.mm h60
    have h2 := manyT_bd hs k
    have h3 := (hs _ (List.getElem_mem hk)).n
    have h4 : k * 1500000000000 ≤ 60 * 1500000000000 := Nat.mul_le_mul_right _ (by omega)
    rw [manyT_succ hk, h1]
    have e : ((manyT ts k : Nat) : Int) + ((ts[k].es.length : Nat) : Int) = ((manyT ts k + ts[k].es.length : Nat) : Int) := by omega
    rw [e]
    exact IntWalk.wrap64_in _ (by omega)
  refine ⟨hw, fun h60 hm j hj hjk => ?_⟩
  by_cases e : j = k
  · subst e; exact he hm
  · refine h.e h60 ?_ j hj (by omega)
    rw [h.mm h60]
    rw [hw h60, manyT_succ hk] at hm
    omega

set_option maxRecDepth 100000 in set_option maxHeartbeats 4000000 in
theorem greatT_any (ps : List RR) (ts : List TL) (a a2 : Option Addr) (c c2 : Nat) (w : World) (hp : RL w (.slice a ps.length c) ps) (ht : TS 6 K.rc w (.slice a2 ts.length c2) ts) (hn : ps.length ≤ 9223372036854775807) (hm : ts.length ≤ 9223372036854775807) (hw : ∀ p ∈ ps, p.r.wb) (hs : ∀ t ∈ ts, t.sz) :
    Calls Tryz.prog 6 #[.slice a ps.length c, .slice a2 ts.length c2] w (GreatT ps ts w) := by
  have HP := Hid.mk' hp
  have HT := Hid.mk' ht
  have HW := Hid.mk' hw
  have HS := Hid.mk' hs
  have HGR := Hid.mk' (fun W p (h : Ext w W) (hp' : p ∈ ps) => (show Calls Tryz.prog 15 #[.slice none 0 0, p.agg] W (GreatK [] p.r.cols p.r.nm W) from greatK_any [] none 0 p.r.oid p.r.ver p.r.nm p.r.id p.r.cols p.a p.c W ⟨none, 0, rfl, .inl rfl⟩ ((hp.sl p hp').ext h) (by simp) (by have := (hw p hp').n; omega) (by intro c hc; cases hc) (hw p hp').cs (hw p hp').nm))
  have HGK := Hid.mk' (fun W (l : List K) (ab : Option Addr) (cb : Nat) (h : Sl W (.slice ab l.length cb) 6 (l.map K.rc)) (h1 : l.length ≤ 9223372036854775807) (h2 : ∀ c ∈ l, K.wk c) => (show Calls Tryz.prog 15 #[.slice ab l.length cb, .agg #[.int .u32 0, .int .u32 0, .string ⟨#[]⟩, .int .u8 0, .slice none 0 0]] W (GreatK l [] ⟨#[]⟩ W) from greatK_any l ab cb 0 0 ⟨#[]⟩ 0 [] none 0 W h ⟨none, 0, rfl, .inl rfl⟩ h1 (by simp) (fun c hc => (h2 c hc).s) (by intro c hc; cases hc) (by show 0 ≤ 9223372036854775807; omega)))
  clear hp ht hw hs
  go_enter Tryz.func6, Tryz.ntmps6
  go_wp2
  go_loopg [5, 6] ts.length (fun z mv i wr => ∃ (m : Int) (k : Nat), z + k = ts.length ∧ i = .int .i64 k ∧ mv = .int .i64 m ∧ Hid (GrI ts m k) ∧ Hid (Ext w wr))
  case atStart => exact ⟨0, 0, by omega, rfl, rfl, Hid.mk' (GrI.zero ts), Hid.mk' (Ext.refl _)⟩
  case round =>
    obtain ⟨m, k, hzk, rfl, rfl, hG, hE⟩ := hrel
    by_cases hlt : k < ts.length
    · obtain ⟨b, o, rfl, hb, hx⟩ := HT.out.row.at_ (i := k) (by simpa using hlt)
      have HF := Hid.mk' (fun W (h : Ext w W) => TL.at_ hlt hx hb h)
      obtain ⟨f0, f1, f2⟩ := HF.out wr hE.out
      have hbw : b < wr.heap.size := Nat.lt_of_lt_of_le hb hE.out.size
      have HES := Hid.mk' (HT.out.sl _ (List.getElem_mem hlt))
      have HSZ := Hid.mk' (HS.out _ (List.getElem_mem hlt))
      have HNX := Hid.mk' (fun he => GrI.succ hG.out HS.out hlt he)
      obtain ⟨t, ht⟩ : ∃ t, t = ts[k] := ⟨_, rfl⟩
      rw [← ht] at HF f0 f1 f2 HES HSZ HNX
      clear ht hx
      obtain ⟨xid, st, es, ta, tc⟩ := t
      simp only at HF f0 f1 f2 HSZ HNX
      have HES2 : Hid (ES 6 K.rc w (.slice ta es.length tc) es) := HES
      clear HES
      obtain ⟨X, hX⟩ : ∃ X, X = wrap64 (m + (es.length : Nat)) := ⟨_, rfl⟩
      rw [← hX] at HNX
      have HX := Hid.mk' hX
      clear hX
      obtain ⟨wo, hwo⟩ : ∃ x, x = wr := ⟨_, rfl⟩
      subst hwo
      have HEo := Hid.mk' hE.out
      clear hE
      go_wp2
      rw [show wrap64 (m + (es.length : Int)) = X from HX.out.symm]
      go_loopg [7] es.length (fun z2 i wr => ∃ (n : Nat), z2 + n = es.length ∧ i = .int .i64 n ∧ Hid (∀ j (h : j < es.length), j < n → es[j].e.lit) ∧ Hid (Ext wo wr))
      case atStart => exact ⟨0, by omega, rfl, Hid.mk' (fun j _ h => by omega), Hid.mk' (Ext.refl _)⟩
      case round =>
        obtain ⟨n, hzn, rfl, hL, hE⟩ := hrel
        have HEr := Hid.mk' (HEo.out.trans hE.out)
        clear f0 f1 f2
        obtain ⟨f0, f1, f2⟩ := HF.out wr HEr.out
        have hbw2 : b < wr.heap.size := Nat.lt_of_lt_of_le hbw hE.out.size
        by_cases hlt2 : n < es.length
        · by_cases hX6 : X ≤ 600
          · obtain ⟨b2, o2, rfl, hb2, hx2⟩ := HES2.out.row.at_ (i := n) (by simpa using hlt2)
            have hbw3 : b2 < wr.heap.size := Nat.lt_of_lt_of_le hb2 HEr.out.size
            obtain ⟨g0, g1, g2, g3, g4, g5, g6, g7⟩ := EL.at_ hlt2 hx2 hb2 HEr.out
            have hxa := HES2.out.sl _ (List.getElem_mem hlt2)
            have hxs := HSZ.out.e _ (List.getElem_mem hlt2)
            obtain ⟨x, hxx⟩ : ∃ x, x = es[n] := ⟨_, rfl⟩
            rw [← hxx] at g0 g1 g2 g3 g4 g5 g6 g7 hxa hxs
            have HXX := Hid.mk' hxx
            have HKB := Hid.mk' (fun W (h : Ext w W) => HGK.out W x.e.b x.ba x.bc (hxa.b.ext h) hxs.b hxs.sb)
            have HKA := Hid.mk' (fun W (h : Ext w W) => HGK.out W x.e.a x.aa x.ac (hxa.a.ext h) hxs.a hxs.sa)
            have hxr := hxs.r
            have hlen := HSZ.out.n
            obtain ⟨⟨k1, ao1, av1, old1, b1, a1, r1, fl1⟩, ba1, bc1, aa1, ac1, ra1, rc1⟩ := x
            simp only at g0 g1 g2 g3 g4 g5 g6 g7 HKB HKA hxr
            clear hxa hxs hxx hx2
            go_wp2_with (first
              | (go_at_call_of 15 (Value.slice ba1 b1.length bc1); (with_reducible refine (HKB.out _ (by have := HEr.out; exact eX)).mono ?_); rintro e w2 ⟨g, rfl, hg, hb2⟩; (have hE_w2 : Ext (wr.alloc (.cells #[.int .u8 k1, .int .u32 ao1, .int .u32 av1, .int .u8 old1, .slice ba1 b1.length bc1, .slice aa1 a1.length ac1, .slice ra1 r1.length rc1, .int .u8 fl1] 85)) w2 := (by exact eX); obtain ⟨hc_w2, hf_w2⟩ := hE_w2.cells; have hz_w2 := hE_w2.size); have HGB := Hid.mk' hg; clear hg; cases g)
              | (go_at_call_of 15 (Value.slice aa1 a1.length ac1); (with_reducible refine (HKA.out _ (by have := HEr.out; exact eX)).mono ?_); rintro e w3 ⟨g, rfl, hg, hb3⟩; (have hE_w3 : Ext (wr.alloc (.cells #[.int .u8 k1, .int .u32 ao1, .int .u32 av1, .int .u8 old1, .slice ba1 b1.length bc1, .slice aa1 a1.length ac1, .slice ra1 r1.length rc1, .int .u8 fl1] 85)) w3 := (by exact eX); obtain ⟨hc_w3, hf_w3⟩ := hE_w3.cells; have hz_w3 := hE_w3.size); have HGA := Hid.mk' hg; clear hg; cases g))
            all_goals first
              | (go_ret; exact ⟨true, rfl, (fun h => by cases h), HEr.out.trans (by exact eX)⟩)
              | skip
            have HXL : Hid (es[n].e.lit) := Hid.mk' (by
              rw [← HXX.out]
              have hb := HGB.out (by first | exact rfl | exact trivial)
              have ha := HGA.out (by first | exact rfl | exact trivial)
              exact ⟨hb.2.2.1, ha.2.2.1, by show r1.length ≤ 30; omega, hb.1, ha.1⟩)
            go_roundg (es.length - (n + 1))
            case measure => omega
            case rel => exact ⟨n + 1, by omega, by go_num, Hid.mk' (fun j hj hjn => by
              by_cases e : j = n
              · subst e; exact HXL.out
              · exact hL.out j hj (by omega)), Hid.mk' (hE.out.trans (by exact eX))⟩
          · go_wp2
            go_roundg (ts.length - (k + 1))
            case measure => omega
            case rel => exact ⟨X, k + 1, by omega, by go_num, rfl, Hid.mk' (HNX.out (fun h => by omega)), HEr⟩
        · obtain rfl : n = es.length := by omega
          have HNX2 := Hid.mk' (HNX.out (fun _ e he => by
            obtain ⟨j, hj, rfl⟩ := List.getElem_of_mem he
            exact hL.out j hj hj))
          go_wp2
          go_roundg (ts.length - (k + 1))
          case measure => omega
          case rel => exact ⟨X, k + 1, by omega, by go_num, rfl, HNX2, HEr⟩
    · obtain rfl : k = ts.length := by omega
      obtain ⟨wo, hwo⟩ : ∃ x, x = wr := ⟨_, rfl⟩
      subst hwo
      go_wp2
      go_loopg [9] ps.length (fun z i wr => ∃ (n : Nat), z + n = ps.length ∧ i = .int .i64 n ∧ Hid (∀ j (h : j < ps.length), j < n → ps[j].r.cols.length ≤ 20) ∧ Hid (Ext wo wr))
      case atStart => exact ⟨0, by omega, rfl, Hid.mk' (fun j _ h => by omega), Hid.mk' (Ext.refl _)⟩
      case round =>
        obtain ⟨n, hzn, rfl, hL, hF⟩ := hrel
        by_cases hlt2 : n < ps.length
        · obtain ⟨b, o, rfl, hb, hx⟩ := HP.out.row.at_ (i := n) (by simpa using hlt2)
          obtain ⟨f0, f1, f2, f3, f4⟩ := RR.at_ hlt2 hx hb (hE.out.trans hF.out)
          have hbw : b < wr.heap.size := Nat.lt_of_lt_of_le hb (hE.out.trans hF.out).size
          have HPM := Hid.mk' (List.getElem_mem hlt2)
          obtain ⟨p, hp⟩ : ∃ p, p = ps[n] := ⟨_, rfl⟩
          rw [← hp] at f0 f1 f2 f3 f4 HPM
          have HPP := Hid.mk' hp
          have HGP := Hid.mk' (fun W (h : Ext w W) => HGR.out W p h HPM.out)
          unfold RR.agg at HGP
          clear hp hx
          go_wp2_with (go_at_call 15; refine (HGP.out _ (hE.out.trans hF.out)).mono ?_; rintro e w2 ⟨g, rfl, hg, hb2⟩; have HGB := Hid.mk' hg; clear hg; cases g)
          all_goals first
            | (go_ret; exact ⟨true, rfl, (fun h => by cases h), (hE.out.trans hF.out).trans (by exact eX)⟩)
            | skip
          go_roundg (ps.length - (n + 1))
          case measure => omega
          case rel => exact ⟨n + 1, by omega, by go_num, Hid.mk' (fun j hj hjn => by
            by_cases e : j = n
            · subst e; rw [← HPP.out]; exact (HGB.out (by first | exact rfl | exact trivial)).2.2.2.1
            · exact hL.out j hj (by omega)), Hid.mk' (hF.out.trans (by exact eX))⟩
        · obtain rfl : n = ps.length := by omega
          by_cases h6 : 600 < m
          · go_wp2
            go_ret
            exact ⟨true, rfl, (fun h => by cases h), hE.out.trans hF.out⟩
          by_cases h60 : 60 < ts.length
          · go_wp2
            go_ret
            exact ⟨true, ret_bool (by first | (simp; done) | (simp; omega)), (fun h => by cases h), hE.out.trans hF.out⟩
          by_cases h70 : 70 < ps.length
          · go_wp2
            go_ret
            exact ⟨true, ret_bool (by first | (simp; done) | (simp; omega)), (fun h => by cases h), hE.out.trans hF.out⟩
          have HLIT : Hid (Lit ps ts) := Hid.mk' (by
            have e1 := hG.out.mm (by omega)
            have e2 := hG.out.e (by omega) (by omega)
            refine ⟨by omega, by omega, by omega, fun t ht e he => ?_, fun p hp => ?_⟩
            · obtain ⟨j, hj, rfl⟩ := List.getElem_of_mem ht
              exact e2 j hj hj e he
            · obtain ⟨j, hj, rfl⟩ := List.getElem_of_mem hp
              exact hL.out j hj hj)
          go_wp2
          go_ret
          exact ⟨false, ret_bool (by first | (simp; done) | (simp; omega)), fun _ => HLIT.out, hE.out.trans hF.out⟩

end Go.Proofs.YtdgalkljngigeaaGreat

/-
Which of two refs is ahead, the program's.
-/
namespace Go.Proofs.YtdgalkljngigeaaGreat
open Go.RowKit

set_option maxRecDepth 20000 in set_option maxHeartbeats 400000 in
theorem isnan_any (x : Int) (w : World) : Calls Tryz.prog 118 #[.int .u32 x] w fun e w' => e = .returned (.bool false) ∧ w = w' := by
  go_enter Tryz.func118, Tryz.ntmps118
  go_wp2
  go_ret
  exact ⟨by simp, rfl⟩

set_option maxRecDepth 20000 in set_option maxHeartbeats 400000 in
theorem cmpu_any (a b : Int) (w : World) : Calls Tryz.prog 104 #[.int .u32 a, .int .u32 b] w fun e w' => e = .returned (.int .i64 (cmpI a b)) ∧ w = w' := by
  by_cases h1 : a < b
  · have HR := Hid.mk' (show cmpI a b = -1 by unfold cmpI; rw [if_pos h1])
    go_enter Tryz.func104, Tryz.ntmps104
    go_wp2_with (go_at_call 118; refine (isnan_any _ _).mono ?_; rintro e w1 ⟨rfl, rfl⟩)
    go_ret
    exact ⟨ret_int HR.out.symm, rfl⟩
  · by_cases h2 : b < a
    · have HR := Hid.mk' (show cmpI a b = 1 by unfold cmpI; rw [if_neg h1, if_pos h2])
      go_enter Tryz.func104, Tryz.ntmps104
      go_wp2_with (go_at_call 118; refine (isnan_any _ _).mono ?_; rintro e w1 ⟨rfl, rfl⟩)
      go_ret
      exact ⟨ret_int HR.out.symm, rfl⟩
    · have HR := Hid.mk' (show cmpI a b = 0 by unfold cmpI; rw [if_neg h1, if_neg h2])
      go_enter Tryz.func104, Tryz.ntmps104
      go_wp2_with (go_at_call 118; refine (isnan_any _ _).mono ?_; rintro e w1 ⟨rfl, rfl⟩)
      go_ret
      exact ⟨ret_int HR.out.symm, rfl⟩

def orI (a b : Int) : Int := if a ≠ 0 then a else b
set_option maxRecDepth 100000 in set_option maxHeartbeats 1600000 in
theorem cmpor_any (a b : Int) (B : Nat) (w : World) (h0 : w.cell? ⟨B, 0, none⟩ = some (.int .i64 a)) (h1 : w.cell? ⟨B, 1, none⟩ = some (.int .i64 b)) (_hB : B < w.heap.size) :
    Calls Tryz.prog 103 #[.slice (some ⟨B, 0, none⟩) 2 2] w fun e w' => e = .returned (.int .i64 (orI a b)) ∧ Ext w w' := by
  by_cases ha : a = 0
  · subst ha
    by_cases hb : b = 0
    · subst hb
      go_enter Tryz.func103, Tryz.ntmps103
      go_wp2
      go_loop [8] (fun i => i = .int .i64 0 ∨ i = .int .i64 1 ∨ i = .int .i64 2) (fun i => 2 - (intOf i).toNat)
      case atStart => exact .inl rfl
      case round =>
        rcases hrel with rfl | rfl | rfl
        · go_wp2
          go_round
          case rel => exact .inr (.inl rfl)
          case measure => simp [intOf]
        · go_wp2
          go_round
          case rel => exact .inr (.inr rfl)
          case measure => simp [intOf]
        · go_wp2
          go_ret
          exact ⟨ret_int (by unfold orI; simp), by exact eX⟩
    · have hb' : (b != 0) = true := by simpa using hb
      have HR := Hid.mk' (show orI 0 b = b by unfold orI; simp)
      clear hb
      go_enter Tryz.func103, Tryz.ntmps103
      go_wp2
      go_loop [8] (fun i => i = .int .i64 0 ∨ i = .int .i64 1) (fun i => 2 - (intOf i).toNat)
      case atStart => exact .inl rfl
      case round =>
        rcases hrel with rfl | rfl
        · go_wp2
          go_round
          case rel => exact .inr rfl
          case measure => simp [intOf]
        · go_wp2
          go_ret
          exact ⟨ret_int HR.out.symm, by exact eX⟩
  · have ha' : (a != 0) = true := by simpa using ha
    have HR := Hid.mk' (show orI a b = a by unfold orI; rw [if_pos ha])
    clear ha
    go_enter Tryz.func103, Tryz.ntmps103
    go_wp2
    go_loop [8] (fun i => i = .int .i64 0) (fun _ => 0)
    case atStart => rfl
    case round =>
      subst hrel
      go_wp2
      go_ret
      exact ⟨ret_int HR.out.symm, by exact eX⟩

set_option maxRecDepth 100000 in set_option maxHeartbeats 4000000 in
theorem compare_any (o1 v1 o2 v2 : Int) (w : World) :
    Calls Tryz.prog 89 #[.agg #[.int .u32 o1, .int .u32 v1], .agg #[.int .u32 o2, .int .u32 v2]] w fun e w' => e = .returned (.int .i64 (cmpR o1 v1 o2 v2)) ∧ Ext w w' := by
  have HC := Hid.mk' (fun w => cmpu_any o1 o2 w)
  have HD := Hid.mk' (fun w => cmpu_any v1 v2 w)
  have HR := Hid.mk' (show orI (cmpI o1 o2) (cmpI v1 v2) = cmpR o1 v1 o2 v2 from rfl)
  obtain ⟨A, hA⟩ : ∃ A, A = cmpI o1 o2 := ⟨_, rfl⟩
  obtain ⟨B, hB⟩ : ∃ B, B = cmpI v1 v2 := ⟨_, rfl⟩
  rw [← hA] at HC HR
  rw [← hB] at HD HR
  clear hA hB
  go_enter Tryz.func89, Tryz.ntmps89
  go_wp2
  go_region_held3 (fun w' => Ext ((w.alloc (.cells #[.int .u32 o1, .int .u32 v1] 68)).alloc (.cells #[.int .u32 o2, .int .u32 v2] 68)) w' ∧ (∀ b o, b < ((w.alloc (.cells #[.int .u32 o1, .int .u32 v1] 68)).alloc (.cells #[.int .u32 o2, .int .u32 v2] 68)).heap.size → w'.cell? ⟨b, o, none⟩ = ((w.alloc (.cells #[.int .u32 o1, .int .u32 v1] 68)).alloc (.cells #[.int .u32 o2, .int .u32 v2] 68)).cell? ⟨b, o, none⟩) ∧ (∀ b o, b < ((w.alloc (.cells #[.int .u32 o1, .int .u32 v1] 68)).alloc (.cells #[.int .u32 o2, .int .u32 v2] 68)).heap.size → w'.frozen? ⟨b, o, none⟩ = ((w.alloc (.cells #[.int .u32 o1, .int .u32 v1] 68)).alloc (.cells #[.int .u32 o2, .int .u32 v2] 68)).frozen? ⟨b, o, none⟩)) ((exact held_of (by exact eX))) (first
    | (go_at_call_of 104 (Value.int .u32 o1); refine (HC.out _).mono ?_; rintro e w1 ⟨rfl, rfl⟩)
    | (go_at_call_of 104 (Value.int .u32 v1); refine (HD.out _).mono ?_; rintro e w1 ⟨rfl, rfl⟩)
    | (go_at_call 103; refine (cmpor_any A B _ _ (by go_simp) (by go_simp) (by simp)).mono ?_; rintro e w1 ⟨rfl, hb1⟩))
  go_wp2
  go_ret
  exact ⟨ret_int HR.out, by exact eX⟩

set_option maxRecDepth 100000 in set_option maxHeartbeats 1600000 in
theorem find1_any (p : RR) (o v : Int) (w : World) :
    Calls Tryz.prog 88 #[p.agg, .agg #[.int .u32 o, .int .u32 v]] w fun e w' => e = .returned (.int .i64 (cmpR p.r.oid p.r.ver o v)) ∧ Ext w w' := by
  obtain ⟨⟨oid, ver, nm, id, cols⟩, a, c⟩ := p
  unfold RR.agg
  simp only
  have HC := Hid.mk' (fun w => compare_any oid ver o v w)
  obtain ⟨A, hA⟩ : ∃ A, A = cmpR oid ver o v := ⟨_, rfl⟩
  rw [← hA] at HC ⊢
  clear hA
  go_enter Tryz.func88, Tryz.ntmps88
  go_wp2_with (go_at_call 89; refine (HC.out _).mono ?_; rintro e w1 ⟨rfl, hb1⟩)
  go_ret
  exact ⟨rfl, by exact eX⟩

end Go.Proofs.YtdgalkljngigeaaGreat

/-
Catalogs, the reference's: Ahead, Get.
-/
namespace Go.Proofs.YtdgalkljngigeaaGreat
open Go.RowKit

theorem wpHd_takeD {P : Program} {ops : Array Oper} {Q : Exit → Act → World → Prop} {md : Region.Mode} {S : World → Prop} {n i : Nat} {oi : Oper} {d : Option Tmp} {v : Value} {f : Nat} {listed : Array Bool} {a : Act} {w : World} (hi : ops[i]? = some oi) (hd : oi.dst = d)
    (hB : headB md ops n listed = true) (hf : Region.free md ops listed i = true) (hr : ((Region.ready md ops listed).contains i && decide (i < n)) = true)
    (hQ : ∀ c a w, Q (.panic c) (a.put d v) w → Q (.panic c) a w) (hy : YieldsIf P ops S oi v a) (hS : S w)
    (h : wpHd P md ops Q S n f (listed.setIfInBounds i true) (a.put d v) w) : wpHd P md ops Q S n (f + 1) listed a w := by
  subst hd
  exact wpHd_take hi hB hf hr hQ hy hS h

set_option maxRecDepth 100000 in set_option maxHeartbeats 1600000 in
theorem rahead_any (o1 v1 o2 v2 : Int) (w : World) :
    Calls Tryz.prog 73 #[.agg #[.int .u32 o1, .int .u32 v1], .agg #[.int .u32 o2, .int .u32 v2]] w fun e w' => e = .returned (.bool (aheadB o1 v1 o2 v2)) ∧ Ext w w' := by
  by_cases h1 : o1 < o2
  · have HR := Hid.mk' (show aheadB o1 v1 o2 v2 = true from decide_eq_true (.inl h1))
    go_enter Tryz.func73, Tryz.ntmps73
    go_wp2
    go_ret
    exact ⟨ret_bool HR.out.symm, by exact eX⟩
  by_cases h2 : o1 = o2
  · subst h2
    by_cases h3 : v1 < v2
    · have HR := Hid.mk' (show aheadB o1 v1 o1 v2 = true from decide_eq_true (.inr ⟨rfl, h3⟩))
      go_enter Tryz.func73, Tryz.ntmps73
      go_wp2
      go_ret
      exact ⟨ret_bool HR.out.symm, by exact eX⟩
    · have HR := Hid.mk' (show aheadB o1 v1 o1 v2 = false from decide_eq_false (by unfold aheadP; omega))
      go_enter Tryz.func73, Tryz.ntmps73
      go_wp2
      go_ret
      exact ⟨ret_bool HR.out.symm, by exact eX⟩
  · have HR := Hid.mk' (show aheadB o1 v1 o2 v2 = false from decide_eq_false (by unfold aheadP; omega))
    have h2' : (o1 == o2) = false := by simpa using h2
    clear h2
    go_enter Tryz.func73, Tryz.ntmps73
    go_wp2
    go_ret
    exact ⟨ret_bool HR.out.symm, by exact eX⟩

set_option maxRecDepth 100000 in set_option maxHeartbeats 2000000 in
theorem rget_any (ps : List RR) (a : Option Addr) (cap : Nat) (o v : Int) (w : World) (hl : RL w (.slice a ps.length cap) ps) (hlen : ps.length ≤ 1000) :
    Calls Tryz.prog 53 #[.slice a ps.length cap, .agg #[.int .u32 o, .int .u32 v]] w fun e w' => e = .returned (.tuple #[((getP o v ps).getD RR.zero).agg, .bool (getP o v ps).isSome]) ∧ Ext w w' := by
  have HL := Hid.mk' hl.row
  clear hl
  go_enter Tryz.func53, Tryz.ntmps53
  go_wp2
  go_loopw [6] (fun i wr => ∃ k : Nat, k ≤ ps.length ∧ i = .int .i64 k ∧ Hid (∀ j (hj : j < ps.length), j < k → ¬ (ps[j].r.oid = o ∧ ps[j].r.ver = v)) ∧ Hid (Ext ((w.alloc (.cells #[.int .u32 o, .int .u32 v] 44)).alloc (.cells #[.int .u32 0, .int .u32 0, .string ⟨#[]⟩, .int .u8 0, .slice none 0 0] 51)) wr)) (fun i _ => ps.length - (intOf i).toNat)
  case atStart => exact ⟨0, Nat.zero_le _, rfl, Hid.mk' (fun j hj h => by omega), Hid.mk' (Ext.refl _)⟩
  case round =>
    obtain ⟨k, hk, rfl, hrel, hE⟩ := hrel
    have hEw : Ext w wr := (((Ext.refl w).alloc _).alloc _).trans hE.out
    have HB0 := Hid.mk' (((Blk.new w #[.int .u32 o, .int .u32 v] 44).alloc (.cells #[.int .u32 0, .int .u32 0, .string ⟨#[]⟩, .int .u8 0, .slice none 0 0] 51)).ext hE.out)
    have HB1 := Hid.mk' ((Blk.new' (w := w.alloc (.cells #[.int .u32 o, .int .u32 v] 44)) (b := w.heap.size + 1) #[.int .u32 0, .int .u32 0, .string ⟨#[]⟩, .int .u8 0, .slice none 0 0] 51 (by simp)).ext hE.out)
    have g0 := HB0.out.cell
    have z0 := HB0.out.lt
    have g1 := HB1.out.cell
    have g1f := HB1.out.frozen
    have z1 := HB1.out.lt
    by_cases hlt : k < ps.length
    · obtain ⟨b, q, rfl, hb, hx⟩ := HL.out.at_ (i := k) (by simpa using hlt)
      obtain ⟨f0, f1, f2, f3, f4⟩ := RR.at_ hlt hx hb hEw
      have hbw : b < wr.heap.size := Nat.lt_of_lt_of_le hb hEw.size
      have HGP := Hid.mk' (fun h => getP_at (o := o) (v := v) hlt h hrel.out)
      obtain ⟨p, hp⟩ : ∃ p, p = ps[k] := ⟨_, rfl⟩
      rw [← hp] at f0 f1 f2 f3 f4 HGP
      have HP := Hid.mk' hp
      clear hx hp
      have HEW := Hid.mk' hEw
      clear hEw
      by_cases h1 : p.r.oid = o ∧ p.r.ver = v
      · have HG := Hid.mk' (HGP.out h1)
        obtain ⟨e1, e2⟩ := h1
        rw [e1] at f0
        rw [e2] at f1
        clear HGP
        go_wp2
        go_region_held3 (fun w' => Ext (wr) w' ∧ (∀ b o, b < (wr).heap.size → w'.cell? ⟨b, o, none⟩ = (wr).cell? ⟨b, o, none⟩) ∧ (∀ b o, b < (wr).heap.size → w'.frozen? ⟨b, o, none⟩ = (wr).frozen? ⟨b, o, none⟩)) ((exact held_of (by exact eX))) (fail)
        go_wp2
        simp [bodyPost, results, Tryz.results53, go_sem, *]
        have hEw := HEW.out
        exact ⟨⟨by rw [HG.out]; show _ = RR.agg p; unfold RR.agg; rw [e1, e2], by rw [HG.out]; rfl⟩, by exact eX⟩
      · have HNO := Hid.mk' h1
        by_cases h2 : p.r.oid = o
        · have h3 : (p.r.ver == v) = false := by simpa using (fun h => h1 ⟨h2, h⟩)
          rw [h2] at f0
          clear HGP h1
          go_wp2
          go_region_held3 (fun w' => Ext (wr) w' ∧ (∀ b o, b < (wr).heap.size → w'.cell? ⟨b, o, none⟩ = (wr).cell? ⟨b, o, none⟩) ∧ (∀ b o, b < (wr).heap.size → w'.frozen? ⟨b, o, none⟩ = (wr).frozen? ⟨b, o, none⟩)) ((exact held_of (by exact eX))) (fail)
          go_wp2
          go_roundw
          case rel => exact ⟨k + 1, by omega, by go_num, Hid.mk' (fun j hj hjk => by
            by_cases e : j = k
            · subst e; rw [← HP.out]; exact HNO.out
            · exact hrel.out j hj (by omega)), Hid.mk' (by have hE := hE.out; exact eX)⟩
          case measure => simp [intOf]; omega
        · have h3 : (p.r.oid == o) = false := by simpa using h2
          clear HGP h1 h2
          go_wp2
          go_region_held3 (fun w' => Ext (wr) w' ∧ (∀ b o, b < (wr).heap.size → w'.cell? ⟨b, o, none⟩ = (wr).cell? ⟨b, o, none⟩) ∧ (∀ b o, b < (wr).heap.size → w'.frozen? ⟨b, o, none⟩ = (wr).frozen? ⟨b, o, none⟩)) ((exact held_of (by exact eX))) (fail)
          go_wp2
          go_roundw
          case rel => exact ⟨k + 1, by omega, by go_num, Hid.mk' (fun j hj hjk => by
            by_cases e : j = k
            · subst e; rw [← HP.out]; exact HNO.out
            · exact hrel.out j hj (by omega)), Hid.mk' (by have hE := hE.out; exact eX)⟩
          case measure => simp [intOf]; omega
    · have HN := Hid.mk' (getP_none (o := o) (v := v) (ps := ps) (fun j hj => hrel.out j hj (by omega)))
      have HEW := Hid.mk' hEw
      clear hEw
      go_wp2
      simp [bodyPost, results, Tryz.results53, go_sem, *]
      have hEw := HEW.out
      exact ⟨⟨by rw [HN.out]; rfl, by rw [HN.out]⟩, by exact eX⟩

end Go.Proofs.YtdgalkljngigeaaGreat

/-
The place of a ref in a catalog.
-/
namespace Go.Proofs.YtdgalkljngigeaaGreat
open Go.RowKit

theorem posR_in {ro rv : Int} {ps : List RR} {i : Nat} (hi : i ≤ ps.length) (h1 : ∀ m (h : m < ps.length), m < i → aheadP ps[m].r.oid ps[m].r.ver ro rv) (h2 : ∀ m (h : m < ps.length), i ≤ m → ¬ aheadP ps[m].r.oid ps[m].r.ver ro rv) : posR ro rv (ps.map RR.r) = i := by
  refine posR_of (by rw [List.length_map]; exact hi) (fun j hj hji => ?_) (fun hj => ?_)
  · rw [List.getElem_map]; exact h1 j (by rwa [List.length_map] at hj) hji
  · rw [List.getElem_map]; exact h2 i (by rwa [List.length_map] at hj) (Nat.le_refl _)

set_option maxRecDepth 100000 in set_option maxHeartbeats 4000000 in
theorem bs_any (ps : List RR) (a : Option Addr) (cap : Nat) (ro rv : Int) (w : World) (hl : RL w (.slice a ps.length cap) ps) (hlen : ps.length ≤ 1000) (hs : Srt (ps.map RR.r)) :
    Calls Tryz.prog 87 #[.slice a ps.length cap, .agg #[.int .u32 ro, .int .u32 rv], .func (.func 88) #[] #[]] w fun e w' => e = .returned (.tuple #[.int .i64 (posR ro rv (ps.map RR.r) : Nat), .bool (hasR ro rv (ps.map RR.r))]) ∧ Ext w w' := by
  have HL := Hid.mk' hl.row
  have HS := Hid.mk' hs
  have HF := Hid.mk' (fun p W => find1_any p ro rv W)
  unfold RR.agg at HF
  clear hl hs
  go_enter Tryz.func87, Tryz.ntmps87
  go_wp2
  go_loopw [9, 10] (fun i j wr => ∃ x y : Nat, x ≤ y ∧ y ≤ ps.length ∧ i = .int .i64 x ∧ j = .int .i64 y ∧ Hid (∀ m (h : m < ps.length), m < x → aheadP ps[m].r.oid ps[m].r.ver ro rv) ∧ Hid (∀ m (h : m < ps.length), y ≤ m → ¬ aheadP ps[m].r.oid ps[m].r.ver ro rv) ∧ Hid (Ext (w.alloc (.cells #[.int .u32 ro, .int .u32 rv] 68)) wr)) (fun i j _ => (intOf j).toNat - (intOf i).toNat)
  case atStart => exact ⟨0, ps.length, Nat.zero_le _, Nat.le_refl _, rfl, rfl, Hid.mk' (fun m h h2 => by omega), Hid.mk' (fun m h h2 => by omega), Hid.mk' (Ext.refl _)⟩
  case round =>
    obtain ⟨x, y, hxy, hy, rfl, rfl, hlo, hhi, hE⟩ := hrel
    have hEw : Ext w wr := ((Ext.refl w).alloc _).trans hE.out
    have HB0 := Hid.mk' ((Blk.new w #[.int .u32 ro, .int .u32 rv] 68).ext hE.out)
    have g0 := HB0.out.cell
    have z0 := HB0.out.lt
    have HEW := Hid.mk' hEw
    by_cases hlt : x < y
    · obtain ⟨h, hh⟩ : ∃ h : Nat, h = (x + y) / 2 := ⟨_, rfl⟩
      have hhp : h < ps.length := by omega
      obtain ⟨b, q, rfl, hb, hx⟩ := HL.out.at_ (i := h) (by simpa using hhp)
      obtain ⟨f0, f1, f2, f3, f4⟩ := RR.at_ hhp hx hb hEw
      have hbw : b < wr.heap.size := Nat.lt_of_lt_of_le hb hEw.size
      have HHI := Hid.mk' (hhi.out)
      have HLO := Hid.mk' (hlo.out)
      have hsx : ∀ m (hm : m < ps.length), m ≤ h → aheadP ps[h].r.oid ps[h].r.ver ro rv → aheadP ps[m].r.oid ps[m].r.ver ro rv := fun m hm hmh hq => by
        rcases Nat.eq_or_lt_of_le hmh with e | e
        · subst e; exact hq
        · have := HS.out.at_ (i := m) (j := h) (by simpa using hm) (by simpa using hhp) e
          unfold Rl.lt at this
          simp only [List.getElem_map] at this
          exact ahead_trans this hq
      have hsy : ∀ m (hm : m < ps.length), h ≤ m → ¬ aheadP ps[h].r.oid ps[h].r.ver ro rv → ¬ aheadP ps[m].r.oid ps[m].r.ver ro rv := fun m hm hmh hq hq2 => by
        rcases Nat.eq_or_lt_of_le hmh with e | e
        · subst e; exact hq hq2
        · have := HS.out.at_ (i := h) (j := m) (by simpa using hhp) (by simpa using hm) e
          unfold Rl.lt at this
          simp only [List.getElem_map] at this
          exact hq (ahead_trans this hq2)
      have HSX := Hid.mk' hsx
      have HSY := Hid.mk' hsy
      have HCN := Hid.mk' (cmpR_neg (o1 := ps[h].r.oid) (v1 := ps[h].r.ver) (o2 := ro) (v2 := rv))
      have HFW := Hid.mk' (fun W => HF.out ps[h] W)
      obtain ⟨p, hp⟩ : ∃ p, p = ps[h] := ⟨_, rfl⟩
      rw [← hp] at f0 f1 f2 f3 f4 HSX HSY HCN HFW
      obtain ⟨A, hA⟩ : ∃ A, A = cmpR p.r.oid p.r.ver ro rv := ⟨_, rfl⟩
      rw [← hA] at HCN HFW
      have e1 : IntKind.i64.wrap ((x : Int) + (y : Int)) = (x : Int) + (y : Int) := by rw [IntKind.wrap_i64]; omega
      have e2 : IntKind.u64.wrap ((x : Int) + (y : Int)) = (x : Int) + (y : Int) := by rw [IntKind.wrap_u64]; omega
      have e3 : ((x : Int) + (y : Int)) / 2 = (h : Int) := by omega
      have HH := Hid.mk' hh
      clear hx hp hA hsx hsy hhi hlo hEw hh
      by_cases hA : A < 0
      · have HA := Hid.mk' (HCN.out.1 hA)
        go_wp2
        go_region_held3 (fun w' => Ext (wr) w' ∧ (∀ b o, b < (wr).heap.size → w'.cell? ⟨b, o, none⟩ = (wr).cell? ⟨b, o, none⟩) ∧ (∀ b o, b < (wr).heap.size → w'.frozen? ⟨b, o, none⟩ = (wr).frozen? ⟨b, o, none⟩)) ((exact held_of (by exact eX))) (first | (go_at_call 88; refine (HFW.out _).mono ?_; rintro e w2 ⟨rfl, hb2⟩; have HE2 := Hid.mk' (show Ext wr w2 by exact eX)))
        clear hb2
        go_wp2
        go_roundw
        case rel => exact ⟨h + 1, y, by have := HH.out; omega, hy, by go_num, rfl, Hid.mk' (fun m hm hmh => HSX.out m hm (by omega) HA.out), HHI, Hid.mk' (hE.out.trans (by have := HE2.out; exact eX))⟩
        case measure => have := HH.out; simp [intOf]; omega
      · have HA := Hid.mk' (fun q => hA (HCN.out.2 q))
        go_wp2
        go_region_held3 (fun w' => Ext (wr) w' ∧ (∀ b o, b < (wr).heap.size → w'.cell? ⟨b, o, none⟩ = (wr).cell? ⟨b, o, none⟩) ∧ (∀ b o, b < (wr).heap.size → w'.frozen? ⟨b, o, none⟩ = (wr).frozen? ⟨b, o, none⟩)) ((exact held_of (by exact eX))) (first | (go_at_call 88; refine (HFW.out _).mono ?_; rintro e w2 ⟨rfl, hb2⟩; have HE2 := Hid.mk' (show Ext wr w2 by exact eX)))
        clear hb2
        go_wp2
        go_roundw
        case rel => exact ⟨x, h, by have := HH.out; omega, by omega, rfl, rfl, HLO, Hid.mk' (fun m hm hmh => HSY.out m hm hmh HA.out), Hid.mk' (hE.out.trans (by have := HE2.out; exact eX))⟩
        case measure => have := HH.out; simp [intOf]; omega
    · obtain rfl : x = y := by omega
      have HP := Hid.mk' (posR_in (ro := ro) (rv := rv) hy hlo.out hhi.out)
      have HHS := Hid.mk' (HS.out.has ro rv)
      by_cases hlt2 : x < ps.length
      · obtain ⟨b, q, rfl, hb, hx⟩ := HL.out.at_ (i := x) (by simpa using hlt2)
        obtain ⟨f0, f1, f2, f3, f4⟩ := RR.at_ hlt2 hx hb hEw
        have hbw : b < wr.heap.size := Nat.lt_of_lt_of_le hb hEw.size
        have HH2 : Hid (hasR ro rv (ps.map RR.r) = decide (cmpR ps[x].r.oid ps[x].r.ver ro rv = 0)) := Hid.mk' (by
          rw [HHS.out]
          have hp := HP.out
          apply decide_eq_decide.2
          rw [cmpR_zero]
          constructor
          · rintro ⟨h1, h2⟩
            simp only [hp, List.getElem_map] at h2
            exact h2
          · intro h2
            refine ⟨by rw [hp, List.length_map]; exact hlt2, ?_⟩
            simp only [hp, List.getElem_map]
            exact h2)
        have HFW := Hid.mk' (fun W => HF.out ps[x] W)
        obtain ⟨p, hp⟩ : ∃ p, p = ps[x] := ⟨_, rfl⟩
        rw [← hp] at f0 f1 f2 f3 f4 HFW HH2
        obtain ⟨A, hA⟩ : ∃ A, A = cmpR p.r.oid p.r.ver ro rv := ⟨_, rfl⟩
        rw [← hA] at HFW HH2
        clear hx hp hA hEw hhi hlo hlt
        by_cases hA : A = 0
        · subst hA
          go_wp2
          go_region_held3 (fun w' => Ext (wr) w' ∧ (∀ b o, b < (wr).heap.size → w'.cell? ⟨b, o, none⟩ = (wr).cell? ⟨b, o, none⟩) ∧ (∀ b o, b < (wr).heap.size → w'.frozen? ⟨b, o, none⟩ = (wr).frozen? ⟨b, o, none⟩)) ((exact held_of (by exact eX))) (first | (go_at_call 88; refine (HFW.out _).mono ?_; rintro e w2 ⟨rfl, hb2⟩; have HE2 := Hid.mk' (show Ext wr w2 by exact eX)))
          clear hb2
          go_wp2
          go_ret2
          exact ⟨by rw [HP.out, HH2.out]; rfl, HEW.out.trans (by have := HE2.out; exact eX)⟩
        · have hA' : (A == 0) = false := by simpa using hA
          have HN := Hid.mk' (HH2.out.trans (decide_eq_false hA))
          clear hA
          go_wp2
          go_region_held3 (fun w' => Ext (wr) w' ∧ (∀ b o, b < (wr).heap.size → w'.cell? ⟨b, o, none⟩ = (wr).cell? ⟨b, o, none⟩) ∧ (∀ b o, b < (wr).heap.size → w'.frozen? ⟨b, o, none⟩ = (wr).frozen? ⟨b, o, none⟩)) ((exact held_of (by exact eX))) (first | (go_at_call 88; refine (HFW.out _).mono ?_; rintro e w2 ⟨rfl, hb2⟩; have HE2 := Hid.mk' (show Ext wr w2 by exact eX)))
          clear hb2
          go_wp2
          go_ret2
          exact ⟨by rw [HP.out, HN.out]; rfl, HEW.out.trans (by have := HE2.out; exact eX)⟩
      · obtain rfl : x = ps.length := by omega
        have HN : Hid (hasR ro rv (ps.map RR.r) = false) := Hid.mk' (by
          rw [HHS.out]
          apply decide_eq_false
          rintro ⟨h1, -⟩
          rw [HP.out, List.length_map] at h1
          omega)
        clear hEw hhi hlo hlt HHS
        go_wp2
        refine wp_region_head 15 (fun w' => Ext (wr) w' ∧ (∀ b o, b < (wr).heap.size → w'.cell? ⟨b, o, none⟩ = (wr).cell? ⟨b, o, none⟩) ∧ (∀ b o, b < (wr).heap.size → w'.frozen? ⟨b, o, none⟩ = (wr).frozen? ⟨b, o, none⟩)) (by kernel_rfl) (by decide) ?_
        have hA0 : Hid ((fun w' => Ext (wr) w' ∧ (∀ b o, b < (wr).heap.size → w'.cell? ⟨b, o, none⟩ = (wr).cell? ⟨b, o, none⟩) ∧ (∀ b o, b < (wr).heap.size → w'.frozen? ⟨b, o, none⟩ = (wr).frozen? ⟨b, o, none⟩)) wr.drew) := held_of (by exact eX)
        refine HG.on 0 35 hA0.out ?_
        try simp only [Act.put, List.setIfInBounds_toArray, List.set_cons_zero, List.set_cons_succ]
        refine HG.on 1 36 hA0.out ?_
        try simp only [Act.put, List.setIfInBounds_toArray, List.set_cons_zero, List.set_cons_succ]
        refine HG.on 2 37 hA0.out ?_
        try simp only [Act.put, List.setIfInBounds_toArray, List.set_cons_zero, List.set_cons_succ]
        refine HG.on 3 38 hA0.out ?_
        try simp only [Act.put, List.setIfInBounds_toArray, List.set_cons_zero, List.set_cons_succ]
        refine HG.on 4 39 hA0.out ?_
        try simp only [Act.put, List.setIfInBounds_toArray, List.set_cons_zero, List.set_cons_succ]
        refine wpHd_takeD (i := 5) (d := some 40) (v := undef) rfl rfl (by kernel_rfl) (by kernel_rfl) (by kernel_rfl) (fun _ _ _ h => h) (Or.inr ⟨by rfl, rfl⟩) hA0.out ?_
        try simp only [Act.put, List.setIfInBounds_toArray, List.set_cons_zero, List.set_cons_succ]
        refine wpHd_takeD (i := 6) (d := some 41) (v := undef) rfl rfl (by kernel_rfl) (by kernel_rfl) (by kernel_rfl) (fun _ _ _ h => h) (Or.inr ⟨by rfl, rfl⟩) hA0.out ?_
        try simp only [Act.put, List.setIfInBounds_toArray, List.set_cons_zero, List.set_cons_succ]
        refine wpHd_takeD (i := 7) (d := some 42) (v := undef) rfl rfl (by kernel_rfl) (by kernel_rfl) (by kernel_rfl) (fun _ _ _ h => h) (Or.inr ⟨by rfl, rfl⟩) hA0.out ?_
        try simp only [Act.put, List.setIfInBounds_toArray, List.set_cons_zero, List.set_cons_succ]
        refine wpHd_takeD (i := 8) (d := some 43) (v := undef) rfl rfl (by kernel_rfl) (by kernel_rfl) (by kernel_rfl) (fun _ _ _ h => h) (Or.inr ⟨by rfl, rfl⟩) hA0.out ?_
        try simp only [Act.put, List.setIfInBounds_toArray, List.set_cons_zero, List.set_cons_succ]
        refine wpHd_takeD (i := 9) (d := some 44) (v := undef) rfl rfl (by kernel_rfl) (by kernel_rfl) (by kernel_rfl) (fun _ _ _ h => h) (Or.inr ⟨by rfl, rfl⟩) hA0.out ?_
        try simp only [Act.put, List.setIfInBounds_toArray, List.set_cons_zero, List.set_cons_succ]
        refine wpHd_takeD (i := 10) (d := some 45) (v := undef) rfl rfl (by kernel_rfl) (by kernel_rfl) (by kernel_rfl) (fun _ _ _ h => h) (Or.inr ⟨by rfl, rfl⟩) hA0.out ?_
        try simp only [Act.put, List.setIfInBounds_toArray, List.set_cons_zero, List.set_cons_succ]
        refine wpHd_takeD (i := 11) (d := some 46) (v := undef) rfl rfl (by kernel_rfl) (by kernel_rfl) (by kernel_rfl) (fun _ _ _ h => h) (Or.inr ⟨by rfl, rfl⟩) hA0.out ?_
        try simp only [Act.put, List.setIfInBounds_toArray, List.set_cons_zero, List.set_cons_succ]
        refine wpHd_takeD (i := 12) (d := some 47) (v := undef) rfl rfl (by kernel_rfl) (by kernel_rfl) (by kernel_rfl) (fun _ _ _ h => h) (Or.inr ⟨by rfl, rfl⟩) hA0.out ?_
        try simp only [Act.put, List.setIfInBounds_toArray, List.set_cons_zero, List.set_cons_succ]
        refine HG.on 13 48 hA0.out ?_
        try simp only [Act.put, List.setIfInBounds_toArray, List.set_cons_zero, List.set_cons_succ]
        refine HG.on 14 6 hA0.out ?_
        try simp only [Act.put, List.setIfInBounds_toArray, List.set_cons_zero, List.set_cons_succ]
        refine wpHd_tail (by kernel_rfl) ?_
        simp only [List.drop_succ_cons, List.drop_zero]
        go_wp2
        go_ret2
        exact ⟨by rw [HP.out, HN.out]; rfl, HEW.out.trans (by exact eX)⟩

set_option maxRecDepth 100000 in set_option maxHeartbeats 2000000 in
theorem find_any (N g : Nat) (c : Value) (ps : List RR) (ro rv : Int) (w : World) (hc : Ca w N g c ps) :
    Calls Tryz.prog 62 #[.pointer (some ⟨g, 0, none⟩), .agg #[.int .u32 ro, .int .u32 rv]] w fun e w' => e = .returned (.tuple #[.int .i64 (posR ro rv (ps.map RR.r) : Nat), .bool (hasR ro rv (ps.map RR.r))]) ∧ Ext w w' := by
  obtain ⟨a, cap, rfl⟩ := hc.shape
  have HB := Hid.mk' (fun W (h : Ext w W) => bs_any ps a cap ro rv W (hc.rl.ext h) (by have := hc.n64; omega) hc.ok.srt)
  have g0 := hc.ptr.cell
  have z0 := hc.ptr.lt
  clear hc
  go_enter Tryz.func62, Tryz.ntmps62
  go_wp2
  go_region_held3 (fun w' => Ext (w.alloc (.cells #[.int .u32 ro, .int .u32 rv] 68)) w' ∧ (∀ b o, b < (w.alloc (.cells #[.int .u32 ro, .int .u32 rv] 68)).heap.size → w'.cell? ⟨b, o, none⟩ = (w.alloc (.cells #[.int .u32 ro, .int .u32 rv] 68)).cell? ⟨b, o, none⟩) ∧ (∀ b o, b < (w.alloc (.cells #[.int .u32 ro, .int .u32 rv] 68)).heap.size → w'.frozen? ⟨b, o, none⟩ = (w.alloc (.cells #[.int .u32 ro, .int .u32 rv] 68)).frozen? ⟨b, o, none⟩)) ((exact held_of (by exact eX))) (first | (go_at_call 87; refine (HB.out _ (by exact eX)).mono ?_; rintro e w2 ⟨rfl, hb2⟩))
  go_wp2
  go_ret2
  exact ⟨rfl, by exact eX⟩

end Go.Proofs.YtdgalkljngigeaaGreat
