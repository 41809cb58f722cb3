/-
The reference's cell: Texty, Right.
-/
import Derived.Test.YtlobghojjfkchaaGreatP5
namespace Go.Proofs.YtlobghojjfkchaaGreat
open Go.RowKit

set_option maxRecDepth 20000 in set_option maxHeartbeats 400000 in
theorem rtexty_yes (kind : Int) (w : World) (h : kind = 5 ∨ kind = 6) : Calls Tryz.prog 148 #[.int .u8 kind] w fun e w' => e = .returned (.bool true) ∧ w = w' := by
  rcases h with rfl | rfl
  all_goals
    go_enter Tryz.func148, Tryz.ntmps148
    go_wp2
    go_ret
    exact ⟨rfl, rfl⟩
set_option maxRecDepth 20000 in set_option maxHeartbeats 400000 in
theorem rtexty_no (kind : Int) (w : World) (h : kind ≠ 5 ∧ kind ≠ 6) : Calls Tryz.prog 148 #[.int .u8 kind] w fun e w' => e = .returned (.bool false) ∧ w = w' := by
  have h5 : (kind == 5) = false := by simpa using h.1
  have h6 : (kind == 6) = false := by simpa using h.2
  clear h
  go_enter Tryz.func148, Tryz.ntmps148
  go_wp2
  go_ret
  exact ⟨rfl, rfl⟩

set_option maxRecDepth 100000 in set_option maxHeartbeats 1600000 in
theorem rcright_any (k ty n : Int) (x y : Nat) (s : ByteArray) (kind : Int) (w : World) (hk0 : 0 ≤ k) (hs : s.size ≤ 9223372036854775807) :
    Calls Tryz.prog 147 #[.agg #[.int .u8 k, .int .u8 ty, .int .i64 n, .int .u64 x, .int .u64 y, .string s], .int .u8 kind] w fun e w' => e = .returned (.int .i64 (rightC k ty n x y s kind)) ∧ Ext w w' := by
  have HV := Hid.mk' (fun w => rright_any ty n x y s w hs)
  by_cases hkd : kind < 1 ∨ 6 < kind
  · have HR : Hid (rightC k ty n x y s kind = 11) := Hid.mk' (by unfold rightC; rw [if_pos hkd])
    by_cases h1 : kind < 1
    · clear hkd
      go_enter Tryz.func147, Tryz.ntmps147
      go_wp2
      go_ret
      exact ⟨ret_int HR.out.symm, by exact eX⟩
    · have h6 : 6 < kind := by omega
      clear hkd
      go_enter Tryz.func147, Tryz.ntmps147
      go_wp2
      go_ret
      exact ⟨ret_int HR.out.symm, by exact eX⟩
  have hd1 : 1 ≤ kind := by omega
  have hd2 : kind ≤ 6 := by omega
  by_cases hk2 : 2 < k
  · have HR : Hid (rightC k ty n x y s kind = 7) := Hid.mk' (by unfold rightC; rw [if_neg hkd, if_pos hk2])
    clear hkd
    go_enter Tryz.func147, Tryz.ntmps147
    go_wp2
    go_ret
    exact ⟨ret_int HR.out.symm, by exact eX⟩
  by_cases hk3 : k < 2
  · by_cases hz : ty = 0 ∧ n = 0 ∧ (x : Int) = 0 ∧ (y : Int) = 0 ∧ s.size = 0
    · obtain ⟨h_1, h_2, h_3, h_4, h_5⟩ := hz
      obtain rfl := h_1
      obtain rfl := h_2
      obtain rfl : x = 0 := by omega
      obtain rfl : y = 0 := by omega
      obtain rfl : s = ByteArray.empty := (size_zero s).2 h_5
      have hz : (0 : Int) = 0 ∧ (0 : Int) = 0 ∧ ((0 : Nat) : Int) = 0 ∧ ((0 : Nat) : Int) = 0 ∧ ByteArray.empty.size = 0 := ⟨rfl, rfl, rfl, rfl, rfl⟩
      clear h_3 h_4 h_5
      by_cases h1 : k = 1
      · subst h1
        by_cases ht : kind = 5 ∨ kind = 6
        · have HR : Hid (rightC 1 0 0 ((0 : Nat) : Int) ((0 : Nat) : Int) ByteArray.empty kind = 0) := Hid.mk' (by unfold rightC; rw [if_neg hkd, if_neg hk2, if_pos hk3, if_pos hz, if_neg (by omega)])
          have HX := Hid.mk' (fun w => rtexty_yes kind w ht)
          clear hkd hz ht
          go_enter Tryz.func147, Tryz.ntmps147
          go_wp2_with (go_at_call 148; refine (HX.out _).mono ?_; rintro e w1 ⟨rfl, rfl⟩)
          go_ret
          exact ⟨ret_int HR.out.symm, by exact eX⟩
        · have HR : Hid (rightC 1 0 0 ((0 : Nat) : Int) ((0 : Nat) : Int) ByteArray.empty kind = 11) := Hid.mk' (by unfold rightC; rw [if_neg hkd, if_neg hk2, if_pos hk3, if_pos hz, if_pos (by omega)])
          have HX := Hid.mk' (fun w => rtexty_no kind w (by omega))
          clear hkd hz ht
          go_enter Tryz.func147, Tryz.ntmps147
          go_wp2_with (go_at_call 148; refine (HX.out _).mono ?_; rintro e w1 ⟨rfl, rfl⟩)
          go_ret
          exact ⟨ret_int HR.out.symm, by exact eX⟩
      · obtain rfl : k = 0 := by omega
        have HR : Hid (rightC 0 0 0 ((0 : Nat) : Int) ((0 : Nat) : Int) ByteArray.empty kind = 0) := Hid.mk' (by unfold rightC; rw [if_neg hkd, if_neg hk2, if_pos hk3, if_pos hz, if_neg (by omega)])
        clear hkd hz h1
        go_enter Tryz.func147, Tryz.ntmps147
        go_wp2
        go_ret
        exact ⟨ret_int HR.out.symm, by exact eX⟩
    · have HR : Hid (rightC k ty n x y s kind = 3) := Hid.mk' (by unfold rightC; rw [if_neg hkd, if_neg hk2, if_pos hk3, if_neg hz])
      have HZ := Hid.mk' hz
      clear hkd hz
      by_cases g1 : ty = 0
      · subst g1
        by_cases g2 : n = 0
        · subst g2
          by_cases g3 : x = 0
          · subst g3
            by_cases g4 : y = 0
            · subst g4
              have g5 : ¬ s.toList = [] := by
                intro h
                refine HZ.out ⟨rfl, rfl, rfl, rfl, ?_⟩
                have := isEmpty_size s
                rw [h] at this
                exact of_decide_eq_true this.symm
              have g6 : (s.toList == []) = false := by simpa using g5
              go_enter Tryz.func147, Tryz.ntmps147
              go_wp2
              go_ret
              exact ⟨ret_int HR.out.symm, by exact eX⟩
            · go_enter Tryz.func147, Tryz.ntmps147
              go_wp2
              go_ret
              exact ⟨ret_int HR.out.symm, by exact eX⟩
          · go_enter Tryz.func147, Tryz.ntmps147
            go_wp2
            go_ret
            exact ⟨ret_int HR.out.symm, by exact eX⟩
        · go_enter Tryz.func147, Tryz.ntmps147
          go_wp2
          go_ret
          exact ⟨ret_int HR.out.symm, by exact eX⟩
      · go_enter Tryz.func147, Tryz.ntmps147
        go_wp2
        go_ret
        exact ⟨ret_int HR.out.symm, by exact eX⟩
  · obtain rfl : k = 2 := by omega
    obtain ⟨R, hR⟩ : ∃ R, R = rightV ty n x y s := ⟨_, rfl⟩
    rw [← hR] at HV
    by_cases h0 : R = 0
    · subst h0
      by_cases ht : ty = kind
      · have HR : Hid (rightC 2 ty n x y s kind = 0) := Hid.mk' (right_mk hR.symm ht)
        subst ht
        clear hkd hR
        go_enter Tryz.func147, Tryz.ntmps147
        go_wp2_with (go_at_call 177; refine (HV.out _).mono ?_; rintro e w1 ⟨rfl, hb1⟩; have h1 := (Blk.new w #[.int .u8 2, .int .u8 ty, .int .i64 n, .int .u64 x, .int .u64 y, .string s] 170).ext hb1; have k1 := h1.cell; have z1 := h1.lt)
        go_ret
        exact ⟨ret_int HR.out.symm, by exact eX⟩
      · have HR : Hid (rightC 2 ty n x y s kind = 11) := Hid.mk' (by unfold rightC; rw [if_neg hkd, if_neg hk2, if_neg hk3, if_neg (by rw [← hR]; decide), if_pos ht])
        have ht2 : (ty != kind) = true := by simpa using ht
        clear hkd hR ht
        go_enter Tryz.func147, Tryz.ntmps147
        go_wp2_with (go_at_call 177; refine (HV.out _).mono ?_; rintro e w1 ⟨rfl, hb1⟩; have h1 := (Blk.new w #[.int .u8 2, .int .u8 ty, .int .i64 n, .int .u64 x, .int .u64 y, .string s] 170).ext hb1; have k1 := h1.cell; have z1 := h1.lt)
        go_ret
        exact ⟨ret_int HR.out.symm, by exact eX⟩
    · have HR : Hid (rightC 2 ty n x y s kind = R) := Hid.mk' (by unfold rightC; rw [if_neg hkd, if_neg hk2, if_neg hk3, if_pos (by rw [← hR]; exact h0), hR])
      have h02 : (R != 0) = true := by simpa using h0
      clear hkd hR h0
      go_enter Tryz.func147, Tryz.ntmps147
      go_wp2_with (go_at_call 177; refine (HV.out _).mono ?_; rintro e w1 ⟨rfl, hb1⟩; have h1 := (Blk.new w #[.int .u8 2, .int .u8 ty, .int .i64 n, .int .u64 x, .int .u64 y, .string s] 170).ext hb1; have k1 := h1.cell; have z1 := h1.lt)
      go_ret
      exact ⟨ret_int HR.out.symm, by exact eX⟩

end Go.Proofs.YtlobghojjfkchaaGreat

/-
Whether a row fits a relation: the program's answer, the reference's.
-/
namespace Go.Proofs.YtlobghojjfkchaaGreat
open Go.RowKit

/-- What is wrong with the cell of a column. -/
def fitAt (l : List K) (cols : List Col) (i : Nat) : Int := if h : i < l.length ∧ i < cols.length then (l[i]'h.1).right (cols[i]'h.2).ty else 0
theorem fitAt_lt {l : List K} {cols : List Col} {i : Nat} (h : i < l.length) (h2 : i < cols.length) : fitAt l cols i = l[i].right cols[i].ty := by unfold fitAt; rw [dif_pos ⟨h, h2⟩]
/-- What is wrong with a row of a relation. -/
def fitsE (l : List K) (r : Rl) : Int := if r.right ≠ 0 then r.right else if l.length ≠ r.cols.length then 17 else firstE (fitAt l r.cols) l.length

structure K.wk (c : K) : Prop where
  k : 0 ≤ c.k
  s : c.v.s.size ≤ 9223372036854775807

set_option maxRecDepth 100000 in set_option maxHeartbeats 4000000 in
theorem fits_any (l : List K) (a : Option Addr) (cap : Nat) (oid ver : Int) (nm : ByteArray) (id : Int) (cols : List Col) (a2 : Option Addr) (cap2 : Nat) (w : World) (hl : Sl w (.slice a l.length cap) 5 (l.map K.pc)) (hl2 : Sl w (.slice a2 cols.length cap2) 3 (cols.map Col.cells))
    (hcap2 : cols.length ≤ cap2) (_hlen : l.length ≤ 1000) (hlen2 : cols.length ≤ 1000) (hs : ∀ c ∈ l, c.wk) (hs2 : ∀ c ∈ cols, c.nm.size ≤ 9223372036854775807) (hnm : nm.size ≤ 9223372036854775807) :
    Calls Tryz.prog 137 #[.slice a l.length cap, .agg #[.int .u32 oid, .int .u32 ver, .string nm, .int .u8 id, .slice a2 cols.length cap2]] w fun e w' => e = .returned (.int .i64 (fitsE l (⟨oid, ver, nm, id, cols⟩ : Rl))) ∧ Ext w w' := by
  have HR := Hid.mk' (fun W (h : Ext w W) => right8_any oid ver nm id cols a2 cap2 W (hl2.ext h) hcap2 hlen2 hnm hs2)
  have HF : Hid (fitsE l (⟨oid, ver, nm, id, cols⟩ : Rl) = if (⟨oid, ver, nm, id, cols⟩ : Rl).right ≠ 0 then (⟨oid, ver, nm, id, cols⟩ : Rl).right else if l.length ≠ cols.length then 17 else firstE (fitAt l cols) l.length) := Hid.mk' rfl
  have HL := Hid.mk' hl
  have HL2 := Hid.mk' hl2
  have HS := Hid.mk' hs
  clear hl hl2 hs hs2
  generalize (⟨oid, ver, nm, id, cols⟩ : Rl).right = E at *
  by_cases h0 : E = 0
  case neg =>
    have HF2 := Hid.mk' (HF.out.trans (if_pos h0))
    have h0' : (E != 0) = true := by simpa using h0
    clear h0 HF
    go_enter Tryz.func137, Tryz.ntmps137
    go_wp2_with (go_at_call 130; refine (HR.out _ (by exact eX)).mono ?_; rintro e w1 ⟨rfl, hb1⟩; have hE1 : Ext w w1 := (by exact eX))
    go_ret
    exact ⟨ret_int HF2.out.symm, hE1⟩
  subst h0
  have HF2 := Hid.mk' (HF.out.trans (if_neg (by simp)))
  clear HF
  by_cases hn : l.length = cols.length
  case neg =>
    have HF3 := Hid.mk' (HF2.out.trans (if_pos hn))
    have hn' : (((l.length : Nat) : Int) != ((cols.length : Nat) : Int)) = true := by simp; omega
    clear hn HF2
    go_enter Tryz.func137, Tryz.ntmps137
    go_wp2_with (go_at_call 130; refine (HR.out _ (by exact eX)).mono ?_; rintro e w1 ⟨rfl, hb1⟩; have hE1 : Ext w w1 := (by exact eX); have g0 := ((Blk.new w #[.int .u32 oid, .int .u32 ver, .string nm, .int .u8 id, .slice a2 cols.length cap2] 112).ext hb1).cell)
    go_ret
    exact ⟨ret_int HF3.out.symm, hE1⟩
  have HF3 := Hid.mk' (HF2.out.trans (if_neg (by simpa using hn)))
  have hn' : (((l.length : Nat) : Int) != ((cols.length : Nat) : Int)) = false := by simp; omega
  have hnl : l.length ≤ cols.length := by omega
  clear HF2
  have HNE := Hid.mk' hn
  clear hn
  go_enter Tryz.func137, Tryz.ntmps137
  go_wp2_with (go_at_call 130; refine (HR.out _ (by exact eX)).mono ?_; rintro e w1 ⟨rfl, hb1⟩; have hE1 := Hid.mk' hb1; have g0 := ((Blk.new w #[.int .u32 oid, .int .u32 ver, .string nm, .int .u8 id, .slice a2 cols.length cap2] 112).ext hb1).cell; clear hb1)
  go_loopw [22] (fun i wr => ∃ k : Nat, k ≤ l.length ∧ i = .int .i64 k ∧ Hid (∀ j, j < k → fitAt l cols j = 0) ∧ Hid (Ext (w.alloc (.cells #[.int .u32 oid, .int .u32 ver, .string nm, .int .u8 id, .slice a2 cols.length cap2] 112)) wr)) (fun i _ => l.length - (intOf i).toNat)
  case atStart => exact ⟨0, Nat.zero_le _, rfl, fun j h => by omega, hE1⟩
  case round =>
    obtain ⟨k, hk, rfl, hrel, hE⟩ := hrel
    have hEw : Hid (Ext w wr) := Hid.mk' (((Ext.refl w).alloc _).trans hE.out)
    by_cases hlt : k < l.length
    · have hlt2 : k < cols.length := by omega
      have hBx := (Blk.new w #[.int .u32 oid, .int .u32 ver, .string nm, .int .u8 id, .slice a2 cols.length cap2] 112).ext hE.out
      have g0 := hBx.cell
      have z0 := hBx.lt
      obtain ⟨b, o, rfl, hb, hx⟩ := HL.out.at_ (i := k) (by simpa using hlt)
      obtain ⟨f0, f1, f2, f3, f4⟩ := K.pcAt hlt hx hb hEw.out
      obtain ⟨b2, o2, rfl, hb2, hx2⟩ := HL2.out.at_ (i := k) (by simpa using hlt2)
      obtain ⟨p0, p1, p2⟩ := Col.at_ hlt2 hx2 hb2 hEw.out
      have hbw : b < wr.heap.size := Nat.lt_of_lt_of_le hb hEw.out.size
      have hbw2 : b2 < wr.heap.size := Nat.lt_of_lt_of_le hb2 hEw.out.size
      have hwk := HS.out _ (List.getElem_mem hlt)
      have HC := Hid.mk' (fun W => cright_any l[k].k l[k].v.ty l[k].v.n l[k].v.x l[k].v.y l[k].v.s cols[k].ty W hwk.k hwk.s)
      have hAt := fitAt_lt hlt hlt2
      unfold K.right at hAt
      obtain ⟨E, hE0⟩ : ∃ E, E = rightC l[k].k l[k].v.ty l[k].v.n l[k].v.x l[k].v.y l[k].v.s cols[k].ty := ⟨_, rfl⟩
      rw [← hE0] at HC hAt
      have HAt := Hid.mk' hAt
      clear hx hx2 hAt hE0 hBx hwk
      by_cases h0 : E = 0
      · subst h0
        go_wp2
        go_region_held3 (fun w' => Ext (wr.alloc (.cells #[.int .u8 l[k].k, .int .u8 l[k].v.ty, .int .i64 l[k].v.n, .complex .f64 l[k].v.x l[k].v.y, .string l[k].v.s] 195)) w' ∧ (∀ b o, b < (wr.alloc (.cells #[.int .u8 l[k].k, .int .u8 l[k].v.ty, .int .i64 l[k].v.n, .complex .f64 l[k].v.x l[k].v.y, .string l[k].v.s] 195)).heap.size → w'.cell? ⟨b, o, none⟩ = (wr.alloc (.cells #[.int .u8 l[k].k, .int .u8 l[k].v.ty, .int .i64 l[k].v.n, .complex .f64 l[k].v.x l[k].v.y, .string l[k].v.s] 195)).cell? ⟨b, o, none⟩) ∧ (∀ b o, b < (wr.alloc (.cells #[.int .u8 l[k].k, .int .u8 l[k].v.ty, .int .i64 l[k].v.n, .complex .f64 l[k].v.x l[k].v.y, .string l[k].v.s] 195)).heap.size → w'.frozen? ⟨b, o, none⟩ = (wr.alloc (.cells #[.int .u8 l[k].k, .int .u8 l[k].v.ty, .int .i64 l[k].v.n, .complex .f64 l[k].v.x l[k].v.y, .string l[k].v.s] 195)).frozen? ⟨b, o, none⟩)) ((exact held_of (by exact eX)))
          (first
            | (go_at_call 171; refine (HC.out _).mono ?_; rintro e w2 ⟨rfl, hb2'⟩))
        go_wp2
        go_roundw
        case rel => exact ⟨k + 1, by omega, by go_num, fun j hj => by
          by_cases e : j = k
          · subst e; exact HAt.out
          · exact hrel.out j (by omega), Hid.mk' (hE.out.trans (by exact eX))⟩
        case measure => simp [intOf]; omega
      · have h0' : (E != 0) = true := by simpa using h0
        have HR2 := Hid.mk' (HF3.out.trans (show firstE (fitAt l cols) l.length = E by rw [firstE_at hrel.out hlt (by rw [HAt.out]; exact h0), HAt.out]))
        clear h0
        go_wp2
        go_region_held3 (fun w' => Ext (wr.alloc (.cells #[.int .u8 l[k].k, .int .u8 l[k].v.ty, .int .i64 l[k].v.n, .complex .f64 l[k].v.x l[k].v.y, .string l[k].v.s] 195)) w' ∧ (∀ b o, b < (wr.alloc (.cells #[.int .u8 l[k].k, .int .u8 l[k].v.ty, .int .i64 l[k].v.n, .complex .f64 l[k].v.x l[k].v.y, .string l[k].v.s] 195)).heap.size → w'.cell? ⟨b, o, none⟩ = (wr.alloc (.cells #[.int .u8 l[k].k, .int .u8 l[k].v.ty, .int .i64 l[k].v.n, .complex .f64 l[k].v.x l[k].v.y, .string l[k].v.s] 195)).cell? ⟨b, o, none⟩) ∧ (∀ b o, b < (wr.alloc (.cells #[.int .u8 l[k].k, .int .u8 l[k].v.ty, .int .i64 l[k].v.n, .complex .f64 l[k].v.x l[k].v.y, .string l[k].v.s] 195)).heap.size → w'.frozen? ⟨b, o, none⟩ = (wr.alloc (.cells #[.int .u8 l[k].k, .int .u8 l[k].v.ty, .int .i64 l[k].v.n, .complex .f64 l[k].v.x l[k].v.y, .string l[k].v.s] 195)).frozen? ⟨b, o, none⟩)) ((exact held_of (by exact eX)))
          (first
            | (go_at_call 171; refine (HC.out _).mono ?_; rintro e w2 ⟨rfl, hb2'⟩))
        go_wp2
        go_ret
        exact ⟨ret_int HR2.out.symm, hEw.out.trans (by exact eX)⟩
    · have hkk : k = l.length := by omega
      have HR2 := Hid.mk' (HF3.out.trans (firstE_zero (fun i hi => hrel.out i (by omega))))
      subst hkk
      go_wp2
      go_ret
      exact ⟨ret_int HR2.out.symm, hEw.out⟩

set_option maxRecDepth 100000 in set_option maxHeartbeats 4000000 in
theorem rfits_big (l : List K) (a : Option Addr) (cap : Nat) (oid ver : Int) (nm : ByteArray) (id : Int) (cols : List Col) (a2 : Option Addr) (cap2 : Nat) (w : World) (hl : Sl w (.slice a l.length cap) 6 (l.map K.rc)) (hl2 : Sl w (.slice a2 cols.length cap2) 3 (cols.map Col.cells))
    (_hlen : l.length ≤ 9223372036854775807) (hlen2 : cols.length ≤ 9223372036854775807) (hs : ∀ c ∈ l, c.wk) (hs2 : ∀ c ∈ cols, c.nm.size ≤ 9223372036854775807) (hnm : nm.size ≤ 9223372036854775807) :
    Calls Tryz.prog 98 #[.slice a l.length cap, .agg #[.int .u32 oid, .int .u32 ver, .string nm, .int .u8 id, .slice a2 cols.length cap2]] w fun e w' => e = .returned (.int .i64 (fitsE l (⟨oid, ver, nm, id, cols⟩ : Rl))) ∧ Ext w w' := by
  have HR := Hid.mk' (fun W (h : Ext w W) => rright8_big oid ver nm id cols a2 cap2 W (hl2.ext h) hlen2 hnm hs2)
  have HF : Hid (fitsE l (⟨oid, ver, nm, id, cols⟩ : Rl) = if (⟨oid, ver, nm, id, cols⟩ : Rl).right ≠ 0 then (⟨oid, ver, nm, id, cols⟩ : Rl).right else if l.length ≠ cols.length then 17 else firstE (fitAt l cols) l.length) := Hid.mk' rfl
  have HL := Hid.mk' hl
  have HL2 := Hid.mk' hl2
  have HS := Hid.mk' hs
  clear hl hl2 hs hs2
  generalize (⟨oid, ver, nm, id, cols⟩ : Rl).right = E at *
  by_cases h0 : E = 0
  case neg =>
    have HF2 := Hid.mk' (HF.out.trans (if_pos h0))
    have h0' : (E != 0) = true := by simpa using h0
    clear h0 HF
    go_enter Tryz.func98, Tryz.ntmps98
    go_wp2_with (go_at_call 118; refine (HR.out _ (by exact eX)).mono ?_; rintro e w1 ⟨rfl, hb1⟩; have hE1 : Ext w w1 := (by exact eX))
    go_ret
    exact ⟨ret_int HF2.out.symm, hE1⟩
  subst h0
  have HF2 := Hid.mk' (HF.out.trans (if_neg (by simp)))
  clear HF
  by_cases hn : l.length = cols.length
  case neg =>
    have HF3 := Hid.mk' (HF2.out.trans (if_pos hn))
    have hn' : (((l.length : Nat) : Int) != ((cols.length : Nat) : Int)) = true := by simp; omega
    clear hn HF2
    go_enter Tryz.func98, Tryz.ntmps98
    go_wp2_with (go_at_call 118; refine (HR.out _ (by exact eX)).mono ?_; rintro e w1 ⟨rfl, hb1⟩; have hE1 : Ext w w1 := (by exact eX); have g0 := ((Blk.new w #[.int .u32 oid, .int .u32 ver, .string nm, .int .u8 id, .slice a2 cols.length cap2] 101).ext hb1).cell)
    go_ret
    exact ⟨ret_int HF3.out.symm, hE1⟩
  have HF3 := Hid.mk' (HF2.out.trans (if_neg (by simpa using hn)))
  have hn' : (((l.length : Nat) : Int) != ((cols.length : Nat) : Int)) = false := by simp; omega
  have hnl : l.length ≤ cols.length := by omega
  clear HF2
  have HNE := Hid.mk' hn
  clear hn
  go_enter Tryz.func98, Tryz.ntmps98
  go_wp2_with (go_at_call 118; refine (HR.out _ (by exact eX)).mono ?_; rintro e w1 ⟨rfl, hb1⟩; have hE1 := Hid.mk' hb1; have g0 := ((Blk.new w #[.int .u32 oid, .int .u32 ver, .string nm, .int .u8 id, .slice a2 cols.length cap2] 101).ext hb1).cell; clear hb1)
  go_loopw [6] (fun i wr => ∃ k : Nat, k ≤ l.length ∧ i = .int .i64 k ∧ Hid (∀ j, j < k → fitAt l cols j = 0) ∧ Hid (Ext (w.alloc (.cells #[.int .u32 oid, .int .u32 ver, .string nm, .int .u8 id, .slice a2 cols.length cap2] 101)) wr)) (fun i _ => l.length - (intOf i).toNat)
  case atStart => exact ⟨0, Nat.zero_le _, rfl, fun j h => by omega, hE1⟩
  case round =>
    obtain ⟨k, hk, rfl, hrel, hE⟩ := hrel
    have hEw : Hid (Ext w wr) := Hid.mk' (((Ext.refl w).alloc _).trans hE.out)
    by_cases hlt : k < l.length
    · have hlt2 : k < cols.length := by omega
      have hBx := (Blk.new w #[.int .u32 oid, .int .u32 ver, .string nm, .int .u8 id, .slice a2 cols.length cap2] 101).ext hE.out
      have g0 := hBx.cell
      have z0 := hBx.lt
      obtain ⟨b, o, rfl, hb, hx⟩ := HL.out.at_ (i := k) (by simpa using hlt)
      obtain ⟨f0, f1, f2, f3, f4, f5⟩ := K.rcAt hlt hx hb hEw.out
      obtain ⟨b2, o2, rfl, hb2, hx2⟩ := HL2.out.at_ (i := k) (by simpa using hlt2)
      obtain ⟨p0, p1, p2⟩ := Col.at_ hlt2 hx2 hb2 hEw.out
      have hbw : b < wr.heap.size := Nat.lt_of_lt_of_le hb hEw.out.size
      have hbw2 : b2 < wr.heap.size := Nat.lt_of_lt_of_le hb2 hEw.out.size
      have hwk := HS.out _ (List.getElem_mem hlt)
      have HC := Hid.mk' (fun W => rcright_any l[k].k l[k].v.ty l[k].v.n l[k].v.x l[k].v.y l[k].v.s cols[k].ty W hwk.k hwk.s)
      have hAt := fitAt_lt hlt hlt2
      unfold K.right at hAt
      obtain ⟨E, hE0⟩ : ∃ E, E = rightC l[k].k l[k].v.ty l[k].v.n l[k].v.x l[k].v.y l[k].v.s cols[k].ty := ⟨_, rfl⟩
      rw [← hE0] at HC hAt
      have HAt := Hid.mk' hAt
      clear hx hx2 hAt hE0 hBx hwk
      by_cases h0 : E = 0
      · subst h0
        go_wp2
        go_region_held3 (fun w' => Ext (wr) w' ∧ (∀ b o, b < (wr).heap.size → w'.cell? ⟨b, o, none⟩ = (wr).cell? ⟨b, o, none⟩) ∧ (∀ b o, b < (wr).heap.size → w'.frozen? ⟨b, o, none⟩ = (wr).frozen? ⟨b, o, none⟩)) ((exact held_of (by exact eX)))
          (first
            | (go_at_call 147; refine (HC.out _).mono ?_; rintro e w2 ⟨rfl, hb2'⟩))
        go_wp2
        go_roundw
        case rel => exact ⟨k + 1, by omega, by go_num, fun j hj => by
          by_cases e : j = k
          · subst e; exact HAt.out
          · exact hrel.out j (by omega), Hid.mk' (hE.out.trans (by exact eX))⟩
        case measure => simp [intOf]; omega
      · have h0' : (E != 0) = true := by simpa using h0
        have HR2 := Hid.mk' (HF3.out.trans (show firstE (fitAt l cols) l.length = E by rw [firstE_at hrel.out hlt (by rw [HAt.out]; exact h0), HAt.out]))
        clear h0
        go_wp2
        go_region_held3 (fun w' => Ext (wr) w' ∧ (∀ b o, b < (wr).heap.size → w'.cell? ⟨b, o, none⟩ = (wr).cell? ⟨b, o, none⟩) ∧ (∀ b o, b < (wr).heap.size → w'.frozen? ⟨b, o, none⟩ = (wr).frozen? ⟨b, o, none⟩)) ((exact held_of (by exact eX)))
          (first
            | (go_at_call 147; refine (HC.out _).mono ?_; rintro e w2 ⟨rfl, hb2'⟩))
        go_wp2
        go_ret
        exact ⟨ret_int HR2.out.symm, hEw.out.trans (by exact eX)⟩
    · have hkk : k = l.length := by omega
      have HR2 := Hid.mk' (HF3.out.trans (firstE_zero (fun i hi => hrel.out i (by omega))))
      subst hkk
      go_wp2
      go_ret
      exact ⟨ret_int HR2.out.symm, hEw.out⟩

theorem rfits_any (l : List K) (a : Option Addr) (cap : Nat) (oid ver : Int) (nm : ByteArray) (id : Int) (cols : List Col) (a2 : Option Addr) (cap2 : Nat) (w : World) (hl : Sl w (.slice a l.length cap) 6 (l.map K.rc)) (hl2 : Sl w (.slice a2 cols.length cap2) 3 (cols.map Col.cells))
    (hlen : l.length ≤ 1000) (hlen2 : cols.length ≤ 1000) (hs : ∀ c ∈ l, c.wk) (hs2 : ∀ c ∈ cols, c.nm.size ≤ 9223372036854775807) (hnm : nm.size ≤ 9223372036854775807) :
    Calls Tryz.prog 98 #[.slice a l.length cap, .agg #[.int .u32 oid, .int .u32 ver, .string nm, .int .u8 id, .slice a2 cols.length cap2]] w fun e w' => e = .returned (.int .i64 (fitsE l (⟨oid, ver, nm, id, cols⟩ : Rl))) ∧ Ext w w' :=
  rfits_big l a cap oid ver nm id cols a2 cap2 w hl hl2 (by omega) (by omega) hs hs2 hnm

end Go.Proofs.YtlobghojjfkchaaGreat

/-
What is wrong with the key of a row: the program's image.keyed.
-/
namespace Go.Proofs.YtlobghojjfkchaaGreat
open Go.RowKit Go.Shelf
attribute [local go_sem] Oper.semAt_some

def kindAt (l : List K) (i : Nat) : Int := if h : i < l.length then l[i].k else 2
theorem kindAt_lt {l : List K} {i : Nat} (h : i < l.length) : kindAt l i = l[i].k := by unfold kindAt; rw [dif_pos h]
def kindE (k : Int) : Int := if k = 0 then 12 else if k = 1 then 13 else 0
/-- What is wrong with a cell of the key. -/
def keyE (cols : List Col) (l : List K) (i : Nat) : Int := if isKeyAt cols i = true then kindE (kindAt l i) else 0
/-- What is wrong with a row, and its key. -/
def keyedE (l : List K) (r : Rl) : Int := if fitsE l r ≠ 0 then fitsE l r else firstE (keyE r.cols l) l.length

theorem isKey_x {cols : List Col} (x : KX cols) : isKeyAt cols x.1.1 = true := by
  obtain ⟨⟨j, c⟩, hj, hc, hk⟩ := x
  unfold isKeyAt; simp only at hc hk; rw [hc]; simpa using hk
theorem fits_zero {l : List K} {r : Rl} (h : fitsE l r = 0) : r.right = 0 ∧ l.length = r.cols.length ∧ ∀ i (h1 : i < l.length) (h2 : i < r.cols.length), l[i].right r.cols[i].ty = 0 := by
  unfold fitsE at h
  split at h
  · rename_i h1; exact absurd h h1
  · rename_i h1
    split at h
    · cases h
    · rename_i h2
      refine ⟨by simpa using h1, by simpa using h2, fun i h3 h4 => ?_⟩
      have := firstE_all h i h3
      rwa [fitAt_lt h3 h4] at this
/-- The first error among the columns of the key. -/
theorem keyE_first {cols : List Col} {l : List K} {k : Nat} {pre : List (KX cols)} {x : KX cols} (he : keysUp cols k = pre ++ [x]) (hl : l.length = cols.length) (h0 : ∀ y ∈ pre, keyE cols l y.1.1 = 0) (h1 : keyE cols l x.1.1 ≠ 0) :
    firstE (keyE cols l) l.length = keyE cols l x.1.1 := by
  have hx : x ∈ keysUp cols k := by rw [he]; simp
  have hxk := (keysUp_mem k x).1 hx
  refine firstE_at ?_ (by omega) h1
  intro i hi
  by_cases hq : isKeyAt cols i = true
  · have hic : i < cols.length := by omega
    have hkey : cols[i].key = true := by unfold isKeyAt at hq; rw [List.getElem?_eq_getElem hic] at hq; simpa using hq
    have hm : (⟨(i, cols[i]), hic, List.getElem?_eq_getElem hic, hkey⟩ : KX cols) ∈ keysUp cols k := (keysUp_mem k _).2 (by simp only; omega)
    rw [he, List.mem_append] at hm
    rcases hm with hm | hm
    · exact h0 _ hm
    · rw [List.mem_singleton] at hm
      have := congrArg (fun y : KX cols => y.1.1) hm
      simp only at this
      omega
  · unfold keyE; rw [if_neg hq]
theorem keyE_none {cols : List Col} {l : List K} (hl : l.length = cols.length) (h0 : ∀ y ∈ keysUp cols cols.length, keyE cols l y.1.1 = 0) : firstE (keyE cols l) l.length = 0 := by
  refine firstE_zero fun i hi => ?_
  by_cases hq : isKeyAt cols i = true
  · have hic : i < cols.length := by omega
    have hkey : cols[i].key = true := by unfold isKeyAt at hq; rw [List.getElem?_eq_getElem hic] at hq; simpa using hq
    exact h0 ⟨(i, cols[i]), hic, List.getElem?_eq_getElem hic, hkey⟩ ((keysUp_mem _ _).2 hic)
  · unfold keyE; rw [if_neg hq]

set_option maxRecDepth 100000 in
set_option maxHeartbeats 4000000 in
theorem keyedI_in (F : Fence) (n : Nat) (hFe : F = Fence.wide) (h1F : F.fn 196) (hKF : F.fn 164) (hFF : F.fn 137) (hDF : F.fn 128) (hro : F.round = none) (hn : 3 ≤ n) (oid ver : Int) (nm : ByteArray) (id : Int) (cols : List Col) (a2 : Option Addr) (cap2 : Nat) (l : List K) (a : Option Addr) (cap : Nat) (w : World)
    (hl2 : Sl w (.slice a2 cols.length cap2) 3 (cols.map Col.cells)) (hcap2 : cols.length ≤ cap2) (hlen2 : cols.length ≤ 1000) (hl : Sl w (.slice a l.length cap) 5 (l.map K.pc)) (hlen : l.length ≤ 1000)
    (hs : ∀ c ∈ l, c.wk) (hs2 : ∀ c ∈ cols, c.nm.size ≤ 9223372036854775807) (hnm : nm.size ≤ 9223372036854775807) :
    CallsIn F n Tryz.prog 128 #[.agg #[.int .u32 oid, .int .u32 ver, .string nm, .int .u8 id, .slice a2 cols.length cap2], .slice a l.length cap] w fun e w' => e = .returned (.int .i64 (keyedE l (⟨oid, ver, nm, id, cols⟩ : Rl))) ∧ Ext w w' := by
  have h1 : 1 ≤ n := by omega
  have HFT := Hid.mk' (fun m W (h : Ext w W) => (show CallsIn F m Tryz.prog 137 #[.slice a l.length cap, .agg #[.int .u32 oid, .int .u32 ver, .string nm, .int .u8 id, .slice a2 cols.length cap2]] W _ from by rw [hFe]; exact callsIn_wide.2 (fits_any l a cap oid ver nm id cols a2 cap2 W (hl.ext h) (hl2.ext h) hcap2 hlen hlen2 hs hs2 hnm)))
  have HL := Hid.mk' hl
  have HL2 := Hid.mk' hl2
  have HKE : Hid (keyedE l (⟨oid, ver, nm, id, cols⟩ : Rl) = if fitsE l (⟨oid, ver, nm, id, cols⟩ : Rl) ≠ 0 then fitsE l (⟨oid, ver, nm, id, cols⟩ : Rl) else firstE (keyE cols l) l.length) := Hid.mk' rfl
  obtain ⟨E, hE⟩ : ∃ E, E = fitsE l (⟨oid, ver, nm, id, cols⟩ : Rl) := ⟨_, rfl⟩
  rw [← hE] at HFT HKE
  have HEQ := Hid.mk' hE
  clear hl hl2 hs hs2 hFe hE
  by_cases h0 : E = 0
  case neg =>
    have HKE2 := Hid.mk' (HKE.out.trans (if_pos h0))
    have h0' : (E != 0) = true := by simpa using h0
    clear h0 HKE HEQ
    refine callsIn_of_wp_marks Tryz.func128 rfl hDF ?_ hro
    simp only [Tryz.ntmps128, List.size_toArray, List.length_cons, List.length_nil, Nat.reduceAdd, Nat.reduceSub, Array.replicate_succ, Array.replicate_zero, List.push_toArray, List.append_toArray, List.nil_append, List.cons_append]
    gi_wp2_with (gi_at_call 137; refine (HFT.out _ _ (by exact eX)).mono ?_; rintro e w' ⟨rfl, hb1⟩; have hE1 : Ext w w' := (by exact eX); have g2 := ((Blk.new' (w := (w.alloc (.cells #[.int .u32 oid, .int .u32 ver, .string nm, .int .u8 id, .slice a2 cols.length cap2] 112)).alloc (.cells #[.slice a l.length cap] 47)) (b := w.heap.size + 1 + 1) #[.int .i64 0] 42 (by simp)).ext hb1); have g2c := g2.cell; have g2f := g2.frozen; have g2z := g2.lt)
    refine ⟨.int .i64 E, ?_, by rw [HKE2.out], hE1.setCell (p := ⟨w.heap.size + 1 + 1, 0, none⟩) (by show w.heap.size ≤ w.heap.size + 1 + 1; omega) _⟩
    simp [results, Tryz.f128, go_sem, g2c]
  subst h0
  have HKE2 := Hid.mk' (HKE.out.trans (if_neg (by simp)))
  have hfz := fits_zero HEQ.out.symm
  have hll : l.length = cols.length := hfz.2.1
  have HLL := Hid.mk' hll
  have hle : cols.length ≤ l.length := by omega
  clear HKE HEQ hfz hll
  refine callsIn_of_wp_marks Tryz.func128 rfl hDF ?_ hro
  simp only [Tryz.ntmps128, List.size_toArray, List.length_cons, List.length_nil, Nat.reduceAdd, Nat.reduceSub, Array.replicate_succ, Array.replicate_zero, List.push_toArray, List.append_toArray, List.nil_append, List.cons_append]
  gi_wp2_with (first
    | (gi_at_call 137; refine (HFT.out _ _ (by exact eX)).mono ?_; rintro e w4 ⟨rfl, hb4⟩; have HE4 := Hid.mk' hb4; have g0 := (((Blk.new w #[.int .u32 oid, .int .u32 ver, .string nm, .int .u8 id, .slice a2 cols.length cap2] 112).alloc _).alloc _).ext hb4; have g0c := g0.cell; have g1 := ((Blk.new' (w := w.alloc (.cells #[.int .u32 oid, .int .u32 ver, .string nm, .int .u8 id, .slice a2 cols.length cap2] 112)) (b := w.heap.size + 1) #[.slice a l.length cap] 47 (by simp)).alloc (.cells #[.int .i64 0] 42)).ext hb4; have g1c := g1.cell; have g2 := ((Blk.new' (w := (w.alloc (.cells #[.int .u32 oid, .int .u32 ver, .string nm, .int .u8 id, .slice a2 cols.length cap2] 112)).alloc (.cells #[.slice a l.length cap] 47)) (b := w.heap.size + 1 + 1) #[.int .i64 0] 42 (by simp)).ext hb4); have g2c := g2.cell; have g2f := g2.frozen; have g2z := g2.lt; have HG1 := Hid.mk' g1; have HG2 := Hid.mk' g2; clear g0 g1 g2 hb4)
    | (gi_at_call 164; refine (keys_in F (n - 1) hKF hro _ _ _ _ _ _).mono ?_; rintro e w' ⟨rfl, rfl⟩))
  have hE5 : Ext w (w4.alloc (.cells #[.int .u32 oid, .int .u32 ver, .string nm, .int .u8 id, .slice a2 cols.length cap2] 112)) := ((((Ext.refl w).alloc _).alloc _).alloc _ |>.trans HE4.out).alloc _
  have hB1 := HG1.out.alloc (.cells #[.int .u32 oid, .int .u32 ver, .string nm, .int .u8 id, .slice a2 cols.length cap2] 112)
  have hB2 := HG2.out.alloc (.cells #[.int .u32 oid, .int .u32 ver, .string nm, .int .u8 id, .slice a2 cols.length cap2] 112)
  have hB4 : Blk (w4.alloc (.cells #[.int .u32 oid, .int .u32 ver, .string nm, .int .u8 id, .slice a2 cols.length cap2] 112)) w4.heap.size #[.int .u32 oid, .int .u32 ver, .string nm, .int .u8 id, .slice a2 cols.length cap2] 112 := Blk.new _ _ _
  have hw4 : w.heap.size + 1 + 1 < w4.heap.size := g2z
  clear g0c g1c g2c g2f g2z
  refine wpIn_rangeFunc_ownG hro h1 (gf := 196) (lb := #[.pointer (some ⟨w4.heap.size, 0, none⟩)]) rfl h1F (enters_of Tryz.func196 (by kernel_rfl) rfl)
    (keys_stops F (n - 1) h1F hro (by omega) w4.heap.size w a2 cap2 cols hlen2 HL2.out _ hE5 (hB4.cell 4) hB4.lt) belowK_t (belowK_b (by simp; omega)) (Below.refl _ _) (fun _ => rfl)
    (fun pre W => (Hid (∀ y ∈ pre, keyE cols l y.1.1 = 0) ∧ W.cell? ⟨w.heap.size + 1 + 1, 0, none⟩ = some (.int .i64 0) ∧ W.frozen? ⟨w.heap.size + 1 + 1, 0, none⟩ = false ∧ W.cell? ⟨w.heap.size + 1, 0, none⟩ = some (.slice a l.length cap)) ∧ Below w.heap.size w W)
    (fun c pre W => (c = .ret ∧ ∃ ini last, pre = ini ++ [last] ∧ (∀ y ∈ ini, keyE cols l y.1.1 = 0) ∧ keyE cols l last.1.1 ≠ 0 ∧ W.cell? ⟨w.heap.size + 1 + 1, 0, none⟩ = some (.int .i64 (keyE cols l last.1.1))) ∧ Below w.heap.size w W)
    (OwnFrom.and (Own.from (fun s A B row hs hg hr => ⟨hs.1, cell_kept hs.2.1 hg hr, (frozen_kept hs.2.1 hg hr).trans hs.2.2.1, cell_kept hs.2.2.2 hg hr⟩) _) (ownFrom_below (Nat.le_refl _) (by simp; omega)))
    (fun c => OwnFrom.and (Own.from (fun s A B row hs hg hr => by obtain ⟨hc, ini, last, e1, e2, e3, e4⟩ := hs; exact ⟨hc, ini, last, e1, e2, e3, cell_kept e4 hg hr⟩) _) (ownFrom_below (Nat.le_refl _) (by simp; omega)))
    ⟨⟨(fun y hy => by cases hy), hB2.cell 0, hB2.frozen 0, hB1.cell 0⟩, hE5⟩
    (fun x => { tmps := #[.agg #[.int .u32 oid, .int .u32 ver, .string nm, .int .u8 id, .slice a2 cols.length cap2], .slice a l.length cap, .pointer (some ⟨w.heap.size, 0, none⟩), .pointer (some ⟨w.heap.size + 1, 0, none⟩), .pointer (some ⟨w.heap.size + 1 + 1, 0, none⟩), .int .i64 0, .int .i64 (x.1.1 : Int), .slice a l.length cap, .agg #[.int .u32 oid, .int .u32 ver, .string nm, .int .u8 id, .slice a2 cols.length cap2], .int .i64 0, .int .i64 0, .bool false, undef, .agg #[.int .u32 oid, .int .u32 ver, .string nm, .int .u8 id, .slice a2 cols.length cap2], .func (.func 196) #[] #[.pointer (some ⟨w4.heap.size, 0, none⟩)], .int .i64 (x.1.1 : Int), .agg #[.string x.1.2.nm, .int .u8 x.1.2.ty, .bool x.1.2.key], undef, undef, undef, undef, undef, undef, undef, undef, undef], defers := [] }) ?assign ?body ?done ?stop
  case assign =>
    intro l x W K hK
    unfold encK
    rw [fold_two]
    gi_wp2
    exact hK
  case body =>
    rintro lr pre x W ⟨⟨hpre, hc, hf, hcw⟩, hB⟩ _
    have HB := Hid.mk' hB
    clear hB
    have hx : x.1.1 < cols.length := x.2.1
    have hlt : x.1.1 < l.length := by omega
    obtain ⟨b, o, rfl, hb, hc2⟩ := HL.out.at_ (i := x.1.1) (by simpa using hlt)
    obtain ⟨f0, f1, f2, f3, f4⟩ := K.pcAt hlt hc2 hb HB.out
    have HKX : Hid (keyE cols l x.1.1 = kindE l[x.1.1].k) := Hid.mk' (by unfold keyE; rw [if_pos (isKey_x x), kindAt_lt hlt])
    clear hc2
    by_cases hk0 : l[x.1.1].k = 0
    · rw [hk0] at f0 HKX
      clear hk0
      gi_wp2
      exact ⟨(KeepsOthers.setCell _ _ _).from _, ⟨rfl, pre, x, rfl, hpre.out, by rw [HKX.out]; decide, by rw [HKX.out]; exact World.cell?_setCell_same' _ _ _ (by rw [hc]; rfl)⟩, HB.out.setCell (p := ⟨w.heap.size + 1 + 1, 0, none⟩) (by show w.heap.size ≤ w.heap.size + 1 + 1; omega) _⟩
    · by_cases hk1 : l[x.1.1].k = 1
      · rw [hk1] at f0 HKX
        clear hk0 hk1
        gi_wp2
        exact ⟨(KeepsOthers.setCell _ _ _).from _, ⟨rfl, pre, x, rfl, hpre.out, by rw [HKX.out]; decide, by rw [HKX.out]; exact World.cell?_setCell_same' _ _ _ (by rw [hc]; rfl)⟩, HB.out.setCell (p := ⟨w.heap.size + 1 + 1, 0, none⟩) (by show w.heap.size ≤ w.heap.size + 1 + 1; omega) _⟩
      · have e0 : (l[x.1.1].k == 0) = false := by simpa using hk0
        have e1 : (l[x.1.1].k == 1) = false := by simpa using hk1
        have HZ : Hid (keyE cols l x.1.1 = 0) := Hid.mk' (by rw [HKX.out]; unfold kindE; rw [if_neg hk0, if_neg hk1])
        clear hk0 hk1
        gi_wp2
        exact ⟨KeepsFrom.refl _ _, Below.refl _ _, ⟨fun y hy => (List.mem_append.1 hy).elim (hpre.out y) (fun e => by simp at e; subst e; exact HZ.out), hc, hf, hcw⟩, HB.out⟩
  case done =>
    rintro D ys W hD rfl ⟨⟨hpre, hc, hf, hcw⟩, hB⟩ hK
    have HK0 := Hid.mk' (HKE2.out.trans (keyE_none HLL.out hpre.out))
    gi_wp2
    have hK' := (KeepsOthers.setCell W ⟨w.heap.size + 1 + 1, 0, none⟩ (.int .i64 0)).same D _ hK rfl
    refine ⟨by simp, .inl ⟨_, _, rfl, run_takeDeferred hK', ?_⟩⟩
    have hc5 := cell_kept (World.cell?_setCell_same' W ⟨w.heap.size + 1 + 1, 0, none⟩ (.int .i64 0) (by rw [hc]; rfl)) (grownBy_putObj' _ D (.deferred none)) (fun r e => by cases e; exact ⟨_, hK', rfl⟩)
    refine ⟨.int .i64 0, ?_, by rw [HK0.out], (hB.setCell (p := ⟨w.heap.size + 1 + 1, 0, none⟩) (by show w.heap.size ≤ w.heap.size + 1 + 1; omega) _).trans (belowK_b (w := w) (Nat.le_refl _) _ D _ _ (by simp at hD; omega) hK' rfl rfl)⟩
    simp [results, Tryz.f128, go_sem, hc5]
  case stop =>
    rintro D c pre W hD ⟨k, hk, hpk⟩ ⟨⟨rfl, ini, last, e1, e2, e3, hc⟩, hB⟩ hK
    have HK0 := Hid.mk' (HKE2.out.trans (keyE_first (hpk.symm.trans e1) HLL.out e2 e3))
    gi_wp2
    refine ⟨by simp, .inl ⟨_, _, rfl, run_takeDeferred hK, ?_⟩⟩
    have hc5 := cell_kept hc (grownBy_putObj' _ D (.deferred none)) (fun r e => by cases e; exact ⟨_, hK, rfl⟩)
    refine ⟨_, ?_, by rw [HK0.out], hB.trans (belowK_b (w := w) (Nat.le_refl _) W D _ _ (by simp at hD; omega) hK rfl rfl)⟩
    simp [results, Tryz.f128, go_sem, hc5]

theorem keyedI_any (oid ver : Int) (nm : ByteArray) (id : Int) (cols : List Col) (a2 : Option Addr) (cap2 : Nat) (l : List K) (a : Option Addr) (cap : Nat) (w : World)
    (hl2 : Sl w (.slice a2 cols.length cap2) 3 (cols.map Col.cells)) (hcap2 : cols.length ≤ cap2) (hlen2 : cols.length ≤ 1000) (hl : Sl w (.slice a l.length cap) 5 (l.map K.pc)) (hlen : l.length ≤ 1000)
    (hs : ∀ c ∈ l, c.wk) (hs2 : ∀ c ∈ cols, c.nm.size ≤ 9223372036854775807) (hnm : nm.size ≤ 9223372036854775807) :
    Calls Tryz.prog 128 #[.agg #[.int .u32 oid, .int .u32 ver, .string nm, .int .u8 id, .slice a2 cols.length cap2], .slice a l.length cap] w fun e w' => e = .returned (.int .i64 (keyedE l (⟨oid, ver, nm, id, cols⟩ : Rl))) ∧ Ext w w' :=
  callsIn_wide.1 (keyedI_in Fence.wide 3 rfl trivial trivial trivial trivial rfl (Nat.le_refl _) oid ver nm id cols a2 cap2 l a cap w hl2 hcap2 hlen2 hl hlen hs hs2 hnm)

end Go.Proofs.YtlobghojjfkchaaGreat

/-
The reference's KeyOf, keyed, IsKey, IsFull, Merge.
-/
namespace Go.Proofs.YtlobghojjfkchaaGreat
open Go.RowKit

theorem keyOf_len {cols : List Col} {l : List K} : (keyOf cols l).length = l.length := by simp [keyOf]
theorem keyOf_get {cols : List Col} {l : List K} {i : Nat} (h : i < (keyOf cols l).length) : (keyOf cols l)[i] = if isKeyAt cols i = true then l[i]'(by rw [keyOf_len] at h; exact h) else K.zero := by simp [keyOf]
theorem isKeyAt_lt {cols : List Col} {i : Nat} (h : i < cols.length) : isKeyAt cols i = cols[i].key := by unfold isKeyAt; rw [List.getElem?_eq_getElem h]; rfl
theorem isKeyAt_ge {cols : List Col} {i : Nat} (h : cols.length ≤ i) : isKeyAt cols i = false := by unfold isKeyAt; rw [List.getElem?_eq_none h]; rfl
/-- What is wrong with a key image, a full image. -/
def nonE (cols : List Col) (l : List K) (i : Nat) : Int := if isKeyAt cols i = false ∧ kindAt l i ≠ 0 then 14 else 0
def isKeyE (l : List K) (r : Rl) : Int := if keyedE l r ≠ 0 then keyedE l r else firstE (nonE r.cols l) l.length
def sameE (l : List K) (i : Nat) : Int := if kindAt l i = 1 then 14 else 0
def isFullE (l : List K) (r : Rl) : Int := if keyedE l r ≠ 0 then keyedE l r else firstE (sameE l) l.length
theorem keyed_fits {l : List K} {r : Rl} (h : keyedE l r = 0) : fitsE l r = 0 := by
  unfold keyedE at h
  split at h
  · rename_i h1; exact absurd h h1
  · rename_i h1; simpa using h1
set_option maxRecDepth 100000 in set_option maxHeartbeats 4000000 in
theorem rkeyOf_any (l : List K) (a : Option Addr) (cap : Nat) (oid ver : Int) (nm : ByteArray) (id : Int) (cols : List Col) (a2 : Option Addr) (cap2 : Nat) (w : World) (hl : Sl w (.slice a l.length cap) 6 (l.map K.rc)) (hl2 : Sl w (.slice a2 cols.length cap2) 3 (cols.map Col.cells)) (hlen : l.length ≤ 1000) (_hlen2 : cols.length ≤ 1000) :
    Calls Tryz.prog 146 #[.agg #[.int .u32 oid, .int .u32 ver, .string nm, .int .u8 id, .slice a2 cols.length cap2], .slice a l.length cap] w fun e w' => ∃ a' cap', e = .returned (.slice a' l.length cap') ∧ Sl w' (.slice a' l.length cap') 6 ((keyOf cols l).map K.rc) ∧ Ext w w' := by
  have HL := Hid.mk' hl
  have HL2 := Hid.mk' hl2
  clear hl hl2
  obtain ⟨i0, hi, hz0, hz1, hz2⟩ := info_parts Tryz.infoCellR
  go_enter Tryz.func146, Tryz.ntmps146
  go_wp2
  go_loopw [5, 6] (fun v i wr => ∃ k : Nat, k ≤ l.length ∧ i = .int .i64 k ∧ Hid (wr.ownsRow (w.heap.size + 1) 170 6 v k (((keyOf cols l).map K.rc).take k).flatten) ∧ Hid (Ext (w.alloc (.cells #[.int .u32 oid, .int .u32 ver, .string nm, .int .u8 id, .slice a2 cols.length cap2] 101)) wr)) (fun _ i _ => l.length - (intOf i).toNat)
  case atStart => exact ⟨0, Nat.zero_le _, rfl, World.ownsRow_nil _ _ _ _, Ext.refl _⟩
  case round =>
    obtain ⟨k, hk, rfl, hown, hE⟩ := hrel
    have hEw : Hid (Ext w wr) := Hid.mk' (((Ext.refl w).alloc _).trans hE.out)
    by_cases hlt : k < l.length
    · have hBx := (Blk.new w #[.int .u32 oid, .int .u32 ver, .string nm, .int .u8 id, .slice a2 cols.length cap2] 101).ext hE.out
      have g0 := hBx.cell
      have z0 := hBx.lt
      obtain ⟨b, o, rfl, hb, hx⟩ := HL.out.at_ (i := k) (by simpa using hlt)
      obtain ⟨f0, f1, f2, f3, f4, f5⟩ := K.rcAt hlt hx hb hEw.out
      have hbw : b < wr.heap.size := Nat.lt_of_lt_of_le hb hEw.out.size
      have hkl : k < (keyOf cols l).length := by rw [keyOf_len]; exact hlt
      have HT := Hid.mk' (flat_snoc (f := K.rc) hkl)
      rw [keyOf_get] at HT
      clear hx hBx
      cases hq : isKeyAt cols k with
      | true =>
        have hkc : k < cols.length := by
          rcases Nat.lt_or_ge k cols.length with h | h
          · exact h
          · rw [isKeyAt_ge h] at hq; cases hq
        obtain ⟨b2, o2, rfl, hb2, hx2⟩ := HL2.out.at_ (i := k) (by simpa using hkc)
        obtain ⟨p0, p1, p2⟩ := Col.at_ hkc hx2 hb2 hEw.out
        have hbw2 : b2 < wr.heap.size := Nat.lt_of_lt_of_le hb2 hEw.out.size
        rw [isKeyAt_lt hkc] at hq
        rw [hq] at p2
        rw [if_pos (by rw [isKeyAt_lt hkc]; exact hq)] at HT
        obtain ⟨c, hc⟩ : ∃ c, c = l[k] := ⟨_, rfl⟩
        rw [← hc] at f0 f1 f2 f3 f4 f5 HT
        clear hx2 hq hc
        go_wp2_with (at_builtin; refine wpList_append_own _ rfl _ _ 26 rfl (w.heap.size + 1) 170 i0 _ 6 56 Tryz.underlying26 hi hz0 hz1 hz2 rfl (by decide) _ _ _ rfl (hown.out.alloc _) ⟨_, 0, none⟩ 1 1 c.rc rfl rfl ?c1 ?c2 ?c3 ?c4 ?c5 ?_)
        case c1 => exact cells_new _ #[.int .u8 c.k, .int .u8 c.v.ty, .int .i64 c.v.n, .int .u64 c.v.x, .int .u64 c.v.y, .string c.v.s] _
        case c2 => intro u hu; simp [K.rc] at hu; rcases hu with rfl | rfl | rfl | rfl | rfl | rfl <;> rfl
        case c3 => unfold maxLen; omega
        case c4 => omega
        case c5 => simp; omega
        intro v' w2 hown' hgrow _
        have HE2 := Hid.mk' (Below.grown (hE.out.alloc _) hgrow (by have := hE.out.size; rw [World.size_alloc] at this ⊢; rw [World.size_alloc]; omega) (fun g hg => by have h9 := (hown.out.lt g hg).1; rw [World.size_alloc]; exact h9))
        have HO2 := Hid.mk' hown'
        clear hown' hgrow
        go_wp2
        go_roundw
        case rel => exact ⟨k + 1, by omega, by go_num, Hid.mk' (by rw [HT.out]; exact HO2.out), HE2⟩
        case measure => simp [intOf]; omega
      | false =>
        rw [if_neg (by rw [hq]; simp)] at HT
        by_cases hkc : k < cols.length
        · obtain ⟨b2, o2, rfl, hb2, hx2⟩ := HL2.out.at_ (i := k) (by simpa using hkc)
          obtain ⟨p0, p1, p2⟩ := Col.at_ hkc hx2 hb2 hEw.out
          have hbw2 : b2 < wr.heap.size := Nat.lt_of_lt_of_le hb2 hEw.out.size
          rw [isKeyAt_lt hkc] at hq
          rw [hq] at p2
          clear hx2 hq
          go_wp2_with (at_builtin; refine wpList_append_own _ rfl _ _ 26 rfl (w.heap.size + 1) 170 i0 _ 6 56 Tryz.underlying26 hi hz0 hz1 hz2 rfl (by decide) _ _ _ rfl (hown.out.alloc _) ⟨_, 0, none⟩ 1 1 K.zero.rc rfl rfl ?c1 ?c2 ?c3 ?c4 ?c5 ?_)
          case c1 => exact cells_new _ #[.int .u8 0, .int .u8 0, .int .i64 0, .int .u64 0, .int .u64 0, .string ByteArray.empty] _
          case c2 => intro u hu; simp [K.rc] at hu; rcases hu with rfl | rfl | rfl | rfl | rfl | rfl <;> rfl
          case c3 => unfold maxLen; omega
          case c4 => omega
          case c5 => simp; omega
          intro v' w2 hown' hgrow _
          have HE2 := Hid.mk' (Below.grown (hE.out.alloc _) hgrow (by have := hE.out.size; rw [World.size_alloc] at this ⊢; rw [World.size_alloc]; omega) (fun g hg => by have h9 := (hown.out.lt g hg).1; rw [World.size_alloc]; exact h9))
          have HO2 := Hid.mk' hown'
          clear hown' hgrow
          go_wp2
          go_roundw
          case rel => exact ⟨k + 1, by omega, by go_num, Hid.mk' (by rw [HT.out]; exact HO2.out), HE2⟩
          case measure => simp [intOf]; omega
        · have hkc' : cols.length ≤ k := by omega
          clear hq hkc
          go_wp2_with (at_builtin; refine wpList_append_own _ rfl _ _ 26 rfl (w.heap.size + 1) 170 i0 _ 6 56 Tryz.underlying26 hi hz0 hz1 hz2 rfl (by decide) _ _ _ rfl (hown.out.alloc _) ⟨_, 0, none⟩ 1 1 K.zero.rc rfl rfl ?c1 ?c2 ?c3 ?c4 ?c5 ?_)
          case c1 => exact cells_new _ #[.int .u8 0, .int .u8 0, .int .i64 0, .int .u64 0, .int .u64 0, .string ByteArray.empty] _
          case c2 => intro u hu; simp [K.rc] at hu; rcases hu with rfl | rfl | rfl | rfl | rfl | rfl <;> rfl
          case c3 => unfold maxLen; omega
          case c4 => omega
          case c5 => simp; omega
          intro v' w2 hown' hgrow _
          have HE2 := Hid.mk' (Below.grown (hE.out.alloc _) hgrow (by have := hE.out.size; rw [World.size_alloc] at this ⊢; rw [World.size_alloc]; omega) (fun g hg => by have h9 := (hown.out.lt g hg).1; rw [World.size_alloc]; exact h9))
          have HO2 := Hid.mk' hown'
          clear hown' hgrow
          go_wp2
          go_roundw
          case rel => exact ⟨k + 1, by omega, by go_num, Hid.mk' (by rw [HT.out]; exact HO2.out), HE2⟩
          case measure => simp [intOf]; omega
    · have hkk : k = l.length := by omega
      subst hkk
      rw [show l.length = ((keyOf cols l).map K.rc).length by rw [List.length_map, keyOf_len], List.take_length] at hown
      rw [List.length_map, keyOf_len] at hown
      obtain ⟨a', c', rfl⟩ := owns_shape hown.out
      go_wp2
      go_ret
      refine ⟨a', c', rfl, Sl.of_owns (base := w.heap.size + 1) (e := 170) ?_ ?_, hEw.out⟩
      · rw [List.length_map, keyOf_len]; exact hown.out
      · intro xs hxs; simp at hxs; obtain ⟨a, _, rfl⟩ := hxs; rfl

set_option maxRecDepth 100000 in set_option maxHeartbeats 1600000 in
theorem rkeyed_any (l : List K) (a : Option Addr) (cap : Nat) (oid ver : Int) (nm : ByteArray) (id : Int) (cols : List Col) (a2 : Option Addr) (cap2 : Nat) (w : World) (hl : Sl w (.slice a l.length cap) 6 (l.map K.rc)) (hl2 : Sl w (.slice a2 cols.length cap2) 3 (cols.map Col.cells)) (hlen : l.length ≤ 1000) (hlen2 : cols.length ≤ 1000) (hs : ∀ c ∈ l, c.wk) (hs2 : ∀ c ∈ cols, c.nm.size ≤ 9223372036854775807) (hnm : nm.size ≤ 9223372036854775807) :
    Calls Tryz.prog 145 #[.agg #[.int .u32 oid, .int .u32 ver, .string nm, .int .u8 id, .slice a2 cols.length cap2], .slice a l.length cap] w fun e w' => e = .returned (.int .i64 (keyedE l (⟨oid, ver, nm, id, cols⟩ : Rl))) ∧ Ext w w' := by
  have HFT := Hid.mk' (fun W (h : Ext w W) => rfits_any l a cap oid ver nm id cols a2 cap2 W (hl.ext h) (hl2.ext h) hlen hlen2 hs hs2 hnm)
  have HL := Hid.mk' hl
  have HL2 := Hid.mk' hl2
  have HKE : Hid (keyedE l (⟨oid, ver, nm, id, cols⟩ : Rl) = if fitsE l (⟨oid, ver, nm, id, cols⟩ : Rl) ≠ 0 then fitsE l (⟨oid, ver, nm, id, cols⟩ : Rl) else firstE (keyE cols l) l.length) := Hid.mk' rfl
  obtain ⟨E, hE⟩ : ∃ E, E = fitsE l (⟨oid, ver, nm, id, cols⟩ : Rl) := ⟨_, rfl⟩
  rw [← hE] at HFT HKE
  have HEQ := Hid.mk' hE
  clear hl hl2 hs hs2 hE
  by_cases h0 : E = 0
  case neg =>
    have HKE2 := Hid.mk' (HKE.out.trans (if_pos h0))
    have h0' : (E != 0) = true := by simpa using h0
    clear h0 HKE HEQ
    go_enter Tryz.func145, Tryz.ntmps145
    go_wp2_with (go_at_call 98; refine (HFT.out _ (by exact eX)).mono ?_; rintro e w1 ⟨rfl, hb1⟩; have hE1 : Ext w w1 := (by exact eX))
    go_ret
    exact ⟨ret_int HKE2.out.symm, hE1⟩
  subst h0
  have HKE2 := Hid.mk' (HKE.out.trans (if_neg (by simp)))
  have hfz := fits_zero HEQ.out.symm
  have hll : l.length = cols.length := hfz.2.1
  have hle : l.length ≤ cols.length := by omega
  clear HKE HEQ hfz hll
  go_enter Tryz.func145, Tryz.ntmps145
  go_wp2_with (go_at_call 98; refine (HFT.out _ (by exact eX)).mono ?_; rintro e w1 ⟨rfl, hb1⟩; have hE1 := Hid.mk' hb1; clear hb1)
  go_loopw [6] (fun i wr => ∃ k : Nat, k ≤ l.length ∧ i = .int .i64 k ∧ Hid (∀ j, j < k → keyE cols l j = 0) ∧ Hid (Ext (w.alloc (.cells #[.int .u32 oid, .int .u32 ver, .string nm, .int .u8 id, .slice a2 cols.length cap2] 101)) wr)) (fun i _ => l.length - (intOf i).toNat)
  case atStart => exact ⟨0, Nat.zero_le _, rfl, fun j h => by omega, hE1⟩
  case round =>
    obtain ⟨k, hk, rfl, hrel, hE⟩ := hrel
    have hEw : Hid (Ext w wr) := Hid.mk' (((Ext.refl w).alloc _).trans hE.out)
    by_cases hlt : k < l.length
    · have hlt2 : k < cols.length := by omega
      have hBx := (Blk.new w #[.int .u32 oid, .int .u32 ver, .string nm, .int .u8 id, .slice a2 cols.length cap2] 101).ext hE.out
      have g0 := hBx.cell
      have z0 := hBx.lt
      obtain ⟨b, o, rfl, hb, hx⟩ := HL.out.at_ (i := k) (by simpa using hlt)
      obtain ⟨f0, f1, f2, f3, f4, f5⟩ := K.rcAt hlt hx hb hEw.out
      obtain ⟨b2, o2, rfl, hb2, hx2⟩ := HL2.out.at_ (i := k) (by simpa using hlt2)
      obtain ⟨p0, p1, p2⟩ := Col.at_ hlt2 hx2 hb2 hEw.out
      have hbw : b < wr.heap.size := Nat.lt_of_lt_of_le hb hEw.out.size
      have hbw2 : b2 < wr.heap.size := Nat.lt_of_lt_of_le hb2 hEw.out.size
      have hKX : keyE cols l k = if cols[k].key = true then kindE l[k].k else 0 := by unfold keyE; rw [isKeyAt_lt hlt2, kindAt_lt hlt]
      clear hx hx2 hBx
      cases hq : cols[k].key with
      | false =>
        have HZ := Hid.mk' (hKX.trans (if_neg (by rw [hq]; simp)))
        rw [hq] at p2
        clear hq hKX
        go_wp2
        go_roundw
        case rel => exact ⟨k + 1, by omega, by go_num, fun j hj => by
          by_cases e : j = k
          · subst e; exact HZ.out
          · exact hrel.out j (by omega), hE⟩
        case measure => simp [intOf]; omega
      | true =>
        have HZ := Hid.mk' (hKX.trans (if_pos hq))
        rw [hq] at p2
        clear hq hKX
        by_cases hk0 : l[k].k = 0
        · have HR := Hid.mk' (HKE2.out.trans (show firstE (keyE cols l) l.length = 12 by rw [firstE_at hrel.out hlt (by rw [HZ.out, hk0]; decide), HZ.out, hk0]; rfl))
          rw [hk0] at f0
          clear hk0
          go_wp2
          go_ret
          exact ⟨ret_int HR.out.symm, hEw.out⟩
        · by_cases hk1 : l[k].k = 1
          · have HR := Hid.mk' (HKE2.out.trans (show firstE (keyE cols l) l.length = 13 by rw [firstE_at hrel.out hlt (by rw [HZ.out, hk1]; decide), HZ.out, hk1]; rfl))
            rw [hk1] at f0
            clear hk0 hk1
            go_wp2
            go_ret
            exact ⟨ret_int HR.out.symm, hEw.out⟩
          · have e0 : (l[k].k == 0) = false := by simpa using hk0
            have e1 : (l[k].k == 1) = false := by simpa using hk1
            have HZ2 := Hid.mk' (HZ.out.trans (show kindE l[k].k = 0 by unfold kindE; rw [if_neg hk0, if_neg hk1]))
            clear hk0 hk1
            go_wp2
            go_roundw
            case rel => exact ⟨k + 1, by omega, by go_num, fun j hj => by
              by_cases e : j = k
              · subst e; exact HZ2.out
              · exact hrel.out j (by omega), hE⟩
            case measure => simp [intOf]; omega
    · have hkk : k = l.length := by omega
      have HR := Hid.mk' (HKE2.out.trans (firstE_zero (fun i hi => hrel.out i (by omega))))
      subst hkk
      go_wp2
      go_ret
      exact ⟨ret_int HR.out.symm, hEw.out⟩

set_option maxRecDepth 100000 in set_option maxHeartbeats 1600000 in
theorem risKey_any (l : List K) (a : Option Addr) (cap : Nat) (oid ver : Int) (nm : ByteArray) (id : Int) (cols : List Col) (a2 : Option Addr) (cap2 : Nat) (w : World) (hl : Sl w (.slice a l.length cap) 6 (l.map K.rc)) (hl2 : Sl w (.slice a2 cols.length cap2) 3 (cols.map Col.cells)) (hlen : l.length ≤ 1000) (hlen2 : cols.length ≤ 1000) (hs : ∀ c ∈ l, c.wk) (hs2 : ∀ c ∈ cols, c.nm.size ≤ 9223372036854775807) (hnm : nm.size ≤ 9223372036854775807) :
    Calls Tryz.prog 143 #[.agg #[.int .u32 oid, .int .u32 ver, .string nm, .int .u8 id, .slice a2 cols.length cap2], .slice a l.length cap] w fun e w' => e = .returned (.int .i64 (isKeyE l (⟨oid, ver, nm, id, cols⟩ : Rl))) ∧ Ext w w' := by
  have HFT := Hid.mk' (fun W (h : Ext w W) => rkeyed_any l a cap oid ver nm id cols a2 cap2 W (hl.ext h) (hl2.ext h) hlen hlen2 hs hs2 hnm)
  have HL := Hid.mk' hl
  have HL2 := Hid.mk' hl2
  have HKE : Hid (isKeyE l (⟨oid, ver, nm, id, cols⟩ : Rl) = if keyedE l (⟨oid, ver, nm, id, cols⟩ : Rl) ≠ 0 then keyedE l (⟨oid, ver, nm, id, cols⟩ : Rl) else firstE (nonE cols l) l.length) := Hid.mk' rfl
  obtain ⟨E, hE⟩ : ∃ E, E = keyedE l (⟨oid, ver, nm, id, cols⟩ : Rl) := ⟨_, rfl⟩
  rw [← hE] at HFT HKE
  have HEQ := Hid.mk' hE
  clear hl hl2 hs hs2 hE
  by_cases h0 : E = 0
  case neg =>
    have HKE2 := Hid.mk' (HKE.out.trans (if_pos h0))
    have h0' : (E != 0) = true := by simpa using h0
    clear h0 HKE HEQ
    go_enter Tryz.func143, Tryz.ntmps143
    go_wp2_with (go_at_call 145; refine (HFT.out _ (by exact eX)).mono ?_; rintro e w1 ⟨rfl, hb1⟩; have hE1 : Ext w w1 := (by exact eX))
    go_ret
    exact ⟨ret_int HKE2.out.symm, hE1⟩
  subst h0
  have HKE2 := Hid.mk' (HKE.out.trans (if_neg (by simp)))
  have hfz := fits_zero (keyed_fits HEQ.out.symm)
  have hll : l.length = cols.length := hfz.2.1
  have hle : l.length ≤ cols.length := by omega
  clear HKE HEQ hfz hll
  go_enter Tryz.func143, Tryz.ntmps143
  go_wp2_with (go_at_call 145; refine (HFT.out _ (by exact eX)).mono ?_; rintro e w1 ⟨rfl, hb1⟩; have hE1 := Hid.mk' hb1; clear hb1)
  go_loopw [6] (fun i wr => ∃ k : Nat, k ≤ l.length ∧ i = .int .i64 k ∧ Hid (∀ j, j < k → nonE cols l j = 0) ∧ Hid (Ext (w.alloc (.cells #[.int .u32 oid, .int .u32 ver, .string nm, .int .u8 id, .slice a2 cols.length cap2] 101)) wr)) (fun i _ => l.length - (intOf i).toNat)
  case atStart => exact ⟨0, Nat.zero_le _, rfl, fun j h => by omega, hE1⟩
  case round =>
    obtain ⟨k, hk, rfl, hrel, hE⟩ := hrel
    have hEw : Hid (Ext w wr) := Hid.mk' (((Ext.refl w).alloc _).trans hE.out)
    by_cases hlt : k < l.length
    · have hlt2 : k < cols.length := by omega
      have hBx := (Blk.new w #[.int .u32 oid, .int .u32 ver, .string nm, .int .u8 id, .slice a2 cols.length cap2] 101).ext hE.out
      have g0 := hBx.cell
      have z0 := hBx.lt
      obtain ⟨b, o, rfl, hb, hx⟩ := HL.out.at_ (i := k) (by simpa using hlt)
      obtain ⟨f0, f1, f2, f3, f4, f5⟩ := K.rcAt hlt hx hb hEw.out
      obtain ⟨b2, o2, rfl, hb2, hx2⟩ := HL2.out.at_ (i := k) (by simpa using hlt2)
      obtain ⟨p0, p1, p2⟩ := Col.at_ hlt2 hx2 hb2 hEw.out
      have hbw : b < wr.heap.size := Nat.lt_of_lt_of_le hb hEw.out.size
      have hbw2 : b2 < wr.heap.size := Nat.lt_of_lt_of_le hb2 hEw.out.size
      have hKX : nonE cols l k = if cols[k].key = false ∧ l[k].k ≠ 0 then 14 else 0 := by unfold nonE; rw [isKeyAt_lt hlt2, kindAt_lt hlt]
      clear hx hx2 hBx
      cases hq : cols[k].key with
      | true =>
        have HZ := Hid.mk' (hKX.trans (if_neg (by rw [hq]; simp)))
        rw [hq] at p2
        clear hq hKX
        go_wp2
        go_roundw
        case rel => exact ⟨k + 1, by omega, by go_num, fun j hj => by
          by_cases e : j = k
          · subst e; exact HZ.out
          · exact hrel.out j (by omega), hE⟩
        case measure => simp [intOf]; omega
      | false =>
        by_cases hk0 : l[k].k = 0
        · have HZ := Hid.mk' (hKX.trans (if_neg (by rw [hk0]; simp)))
          rw [hq] at p2
          rw [hk0] at f0
          clear hk0 hq hKX
          go_wp2
          go_roundw
          case rel => exact ⟨k + 1, by omega, by go_num, fun j hj => by
            by_cases e : j = k
            · subst e; exact HZ.out
            · exact hrel.out j (by omega), hE⟩
          case measure => simp [intOf]; omega
        · have e0 : (l[k].k != 0) = true := by simpa using hk0
          have HZ := hKX.trans (if_pos ⟨hq, hk0⟩)
          have HR := Hid.mk' (HKE2.out.trans (show firstE (nonE cols l) l.length = 14 by rw [firstE_at hrel.out hlt (by rw [HZ]; decide), HZ]))
          rw [hq] at p2
          clear hk0 hq hKX HZ
          go_wp2
          go_ret
          exact ⟨ret_int HR.out.symm, hEw.out⟩
    · have hkk : k = l.length := by omega
      have HR := Hid.mk' (HKE2.out.trans (firstE_zero (fun i hi => hrel.out i (by omega))))
      subst hkk
      go_wp2
      go_ret
      exact ⟨ret_int HR.out.symm, hEw.out⟩

set_option maxRecDepth 100000 in set_option maxHeartbeats 1600000 in
theorem risFull_any (l : List K) (a : Option Addr) (cap : Nat) (oid ver : Int) (nm : ByteArray) (id : Int) (cols : List Col) (a2 : Option Addr) (cap2 : Nat) (w : World) (hl : Sl w (.slice a l.length cap) 6 (l.map K.rc)) (hl2 : Sl w (.slice a2 cols.length cap2) 3 (cols.map Col.cells)) (hlen : l.length ≤ 1000) (hlen2 : cols.length ≤ 1000) (hs : ∀ c ∈ l, c.wk) (hs2 : ∀ c ∈ cols, c.nm.size ≤ 9223372036854775807) (hnm : nm.size ≤ 9223372036854775807) :
    Calls Tryz.prog 144 #[.agg #[.int .u32 oid, .int .u32 ver, .string nm, .int .u8 id, .slice a2 cols.length cap2], .slice a l.length cap] w fun e w' => e = .returned (.int .i64 (isFullE l (⟨oid, ver, nm, id, cols⟩ : Rl))) ∧ Ext w w' := by
  have HFT := Hid.mk' (fun W (h : Ext w W) => rkeyed_any l a cap oid ver nm id cols a2 cap2 W (hl.ext h) (hl2.ext h) hlen hlen2 hs hs2 hnm)
  have HL := Hid.mk' hl
  have HKE : Hid (isFullE l (⟨oid, ver, nm, id, cols⟩ : Rl) = if keyedE l (⟨oid, ver, nm, id, cols⟩ : Rl) ≠ 0 then keyedE l (⟨oid, ver, nm, id, cols⟩ : Rl) else firstE (sameE l) l.length) := Hid.mk' rfl
  obtain ⟨E, hE⟩ : ∃ E, E = keyedE l (⟨oid, ver, nm, id, cols⟩ : Rl) := ⟨_, rfl⟩
  rw [← hE] at HFT HKE
  clear hl hl2 hs hs2 hE
  by_cases h0 : E = 0
  case neg =>
    have HKE2 := Hid.mk' (HKE.out.trans (if_pos h0))
    have h0' : (E != 0) = true := by simpa using h0
    clear h0 HKE
    go_enter Tryz.func144, Tryz.ntmps144
    go_wp2_with (go_at_call 145; refine (HFT.out _ (by exact eX)).mono ?_; rintro e w1 ⟨rfl, hb1⟩; have hE1 : Ext w w1 := (by exact eX))
    go_ret
    exact ⟨ret_int HKE2.out.symm, hE1⟩
  subst h0
  have HKE2 := Hid.mk' (HKE.out.trans (if_neg (by simp)))
  clear HKE
  go_enter Tryz.func144, Tryz.ntmps144
  go_wp2_with (go_at_call 145; refine (HFT.out _ (by exact eX)).mono ?_; rintro e w1 ⟨rfl, hb1⟩; have hE1 := Hid.mk' hb1; clear hb1)
  go_loopw [6] (fun i wr => ∃ k : Nat, k ≤ l.length ∧ i = .int .i64 k ∧ Hid (∀ j, j < k → sameE l j = 0) ∧ Hid (Ext (w.alloc (.cells #[.int .u32 oid, .int .u32 ver, .string nm, .int .u8 id, .slice a2 cols.length cap2] 101)) wr)) (fun i _ => l.length - (intOf i).toNat)
  case atStart => exact ⟨0, Nat.zero_le _, rfl, fun j h => by omega, hE1⟩
  case round =>
    obtain ⟨k, hk, rfl, hrel, hE⟩ := hrel
    have hEw : Hid (Ext w wr) := Hid.mk' (((Ext.refl w).alloc _).trans hE.out)
    by_cases hlt : k < l.length
    · obtain ⟨b, o, rfl, hb, hx⟩ := HL.out.at_ (i := k) (by simpa using hlt)
      obtain ⟨f0, f1, f2, f3, f4, f5⟩ := K.rcAt hlt hx hb hEw.out
      have hbw : b < wr.heap.size := Nat.lt_of_lt_of_le hb hEw.out.size
      have hKX : sameE l k = if l[k].k = 1 then 14 else 0 := by unfold sameE; rw [kindAt_lt hlt]
      clear hx
      by_cases hk0 : l[k].k = 1
      · have HZ := hKX.trans (if_pos hk0)
        have HR := Hid.mk' (HKE2.out.trans (show firstE (sameE l) l.length = 14 by rw [firstE_at hrel.out hlt (by rw [HZ]; decide), HZ]))
        rw [hk0] at f0
        clear hk0 hKX HZ
        go_wp2
        go_ret
        exact ⟨ret_int HR.out.symm, hEw.out⟩
      · have e0 : (l[k].k == 1) = false := by simpa using hk0
        have HZ := Hid.mk' (hKX.trans (if_neg hk0))
        clear hk0 hKX
        go_wp2
        go_roundw
        case rel => exact ⟨k + 1, by omega, by go_num, fun j hj => by
          by_cases e : j = k
          · subst e; exact HZ.out
          · exact hrel.out j (by omega), hE⟩
        case measure => simp [intOf]; omega
    · have hkk : k = l.length := by omega
      have HR := Hid.mk' (HKE2.out.trans (firstE_zero (fun i hi => hrel.out i (by omega))))
      subst hkk
      go_wp2
      go_ret
      exact ⟨ret_int HR.out.symm, hEw.out⟩

end Go.Proofs.YtlobghojjfkchaaGreat

/-
The program's IsKey and IsFull.
-/
namespace Go.Proofs.YtlobghojjfkchaaGreat
open Go.RowKit

theorem K.zero_of {c : K} (h : c.k = 0) (h1 : c.v.ty = 0) (h2 : c.v.n = 0) (h3 : (c.v.x : Int) = 0) (h4 : (c.v.y : Int) = 0) (h5 : c.v.s.size = 0) : c = K.zero := by
  obtain ⟨k, ty, n, x, y, s⟩ := c
  simp only at h h1 h2 h3 h4 h5
  subst h h1 h2
  obtain rfl : x = 0 := by omega
  obtain rfl : y = 0 := by omega
  obtain rfl : s = ByteArray.empty := (size_zero s).2 h5
  rfl
/-- Of a row that fits, the key is the row itself just if no other cell tells anything. -/
theorem isKey_row {l : List K} {r : Rl} (h : keyedE l r = 0) (_hk : ∀ c ∈ l, c.wk) : rowB l (keyOf r.cols l) = decide (firstE (nonE r.cols l) l.length = 0) := by
  obtain ⟨-, hll, hr⟩ := fits_zero (keyed_fits h)
  rw [Bool.eq_iff_iff, rowB_true, decide_eq_true_iff]
  constructor
  · intro e
    refine firstE_zero fun i hi => ?_
    unfold nonE
    rw [if_neg]
    rintro ⟨h1, h2⟩
    rw [kindAt_lt hi] at h2
    have hi2 : i < (keyOf r.cols l).length := by rw [keyOf_len]; exact hi
    have e2 : l[i] = (keyOf r.cols l)[i] := by
      have := congrArg (fun m : List K => m[i]?) e
      simp only [List.getElem?_eq_getElem hi, List.getElem?_eq_getElem hi2] at this
      exact Option.some.inj this
    rw [keyOf_get, if_neg (by rw [h1]; simp)] at e2
    exact h2 (by rw [e2]; rfl)
  · intro h0
    apply List.ext_getElem
    · rw [keyOf_len]
    · intro i h1 h2
      rw [keyOf_get]
      by_cases hq : isKeyAt r.cols i = true
      · rw [if_pos hq]
      · rw [if_neg hq]
        have := firstE_all h0 i h1
        unfold nonE at this
        have hz : l[i].k = 0 := by
          refine Classical.byContradiction fun hc => ?_
          rw [if_pos ⟨by simpa using hq, by rw [kindAt_lt h1]; exact hc⟩] at this
          cases this
        have hrt := hr i h1 (by omega)
        unfold K.right at hrt
        rw [hz] at hrt
        obtain ⟨z1, z2, z3, z4, z5, -⟩ := right_same (by decide) hrt
        exact K.zero_of hz z1 z2 z3 z4 z5

set_option maxRecDepth 20000 in set_option maxHeartbeats 400000 in
theorem samef_any (c : K) (w : World) :
    Calls Tryz.prog 163 #[.agg #[.int .u8 c.k, .int .u8 c.v.ty, .int .i64 c.v.n, .complex .f64 c.v.x c.v.y, .string c.v.s]] w fun e w' => e = .returned (.bool (c.k == 1)) ∧ Ext w w' := by
  go_enter Tryz.func163, Tryz.ntmps163
  go_wp2
  go_ret
  exact ⟨rfl, by exact eX⟩

set_option maxRecDepth 100000 in set_option maxHeartbeats 1600000 in
theorem sameidx_any (l : List K) (a : Option Addr) (cap : Nat) (w : World) (hl : Sl w (.slice a l.length cap) 5 (l.map K.pc)) (hlen : l.length ≤ 1000) :
    Calls Tryz.prog 195 #[.slice a l.length cap, .func (.func 163) #[] #[]] w (IdxPost l (fun c => c.k == 1) w) := by
  have HL := Hid.mk' hl
  clear hl
  go_enter Tryz.func195, Tryz.ntmps195
  go_wp2
  go_loopw [8] (fun i wr => ∃ k : Nat, k ≤ l.length ∧ i = .int .i64 k ∧ Hid (∀ j (hj : j < l.length), j < k → (l[j].k == 1) = false) ∧ Hid (Ext w wr)) (fun i _ => l.length - (intOf i).toNat)
  case atStart => exact ⟨0, Nat.zero_le _, rfl, fun j _ h => by omega, Ext.refl _⟩
  case round =>
    obtain ⟨k, hk, rfl, hrel, hE⟩ := hrel
    by_cases hlt : k < l.length
    · obtain ⟨b, o, rfl, hb, hx⟩ := HL.out.at_ (i := k) (by simpa using hlt)
      obtain ⟨f0, f1, f2, f3, f4⟩ := K.pcAt hlt hx hb hE.out
      have hbw : b < wr.heap.size := Nat.lt_of_lt_of_le hb hE.out.size
      have HF := Hid.mk' (fun W => samef_any l[k] W)
      cases hq : (l[k].k == 1) with
      | true =>
        rw [hq] at HF
        have HQ := Hid.mk' (any_at (p := fun c : K => c.k == 1) hlt hq)
        clear hq hx
        go_wp2_with (go_at_call 163; refine (HF.out _).mono ?_; rintro e w1 ⟨rfl, hb1⟩)
        go_ret
        exact ⟨_, rfl, by rw [HQ.out]; simp, hE.out.trans (by exact eX)⟩
      | false =>
        rw [hq] at HF
        have HQ := Hid.mk' hq
        clear hq hx
        go_wp2_with (go_at_call 163; refine (HF.out _).mono ?_; rintro e w1 ⟨rfl, hb1⟩)
        go_roundw
        case rel => exact ⟨k + 1, by omega, by go_num, fun j hj hjk => by
          by_cases e : j = k
          · subst e; exact HQ.out
          · exact hrel.out j hj (by omega), Hid.mk' (hE.out.trans (by exact eX))⟩
        case measure => simp [intOf]; omega
    · have hkk : k = l.length := by omega
      have HQ := Hid.mk' (any_none (p := fun c : K => c.k == 1) fun j hj => hrel.out j hj (by omega))
      subst hkk
      go_wp2
      go_ret
      exact ⟨_, rfl, by rw [HQ.out]; simp, hE.out⟩

set_option maxRecDepth 20000 in set_option maxHeartbeats 400000 in
theorem samehas_any (l : List K) (a : Option Addr) (cap : Nat) (w : World) (hl : Sl w (.slice a l.length cap) 5 (l.map K.pc)) (hlen : l.length ≤ 1000) :
    Calls Tryz.prog 162 #[.slice a l.length cap, .func (.func 163) #[] #[]] w fun e w' => e = .returned (.bool (l.any fun c => c.k == 1)) ∧ Ext w w' := by
  have HI := Hid.mk' (sameidx_any l a cap w hl hlen)
  clear hl
  go_enter Tryz.func162, Tryz.ntmps162
  go_wp2_with (go_at_call 195; refine HI.out.mono ?_; rintro e w1 ⟨i, rfl, hi, hb1⟩; have HI2 := Hid.mk' hi; clear hi)
  go_ret
  exact ⟨ret_bool HI2.out, hb1⟩

theorem same_any {l : List K} : firstE (sameE l) l.length = if (l.any fun c => c.k == 1) = true then 14 else 0 := by
  cases h : l.any fun c => c.k == 1 with
  | false =>
    rw [List.any_eq_false] at h
    rw [if_neg (by simp)]
    refine firstE_zero fun i hi => ?_
    unfold sameE
    rw [kindAt_lt hi, if_neg]
    have := h _ (List.getElem_mem hi)
    simpa using this
  | true =>
    rw [if_pos rfl]
    by_cases h0 : firstE (sameE l) l.length = 0
    · rw [List.any_eq_true] at h
      obtain ⟨c, hc, h1⟩ := h
      obtain ⟨i, hi, rfl⟩ := List.getElem_of_mem hc
      have := firstE_all h0 i hi
      unfold sameE at this
      rw [kindAt_lt hi, if_pos (by simpa using h1)] at this
      cases this
    · obtain ⟨k, hk, _, h2⟩ := firstE_get h0
      rw [h2] at h0 ⊢
      unfold sameE at h0 ⊢
      split at h0
      · rename_i h3; rw [if_pos h3]
      · exact absurd rfl h0

set_option maxRecDepth 100000 in set_option maxHeartbeats 1600000 in
theorem isKey_any' (oid ver : Int) (nm : ByteArray) (id : Int) (cols : List Col) (a2 : Option Addr) (cap2 : Nat) (l : List K) (a : Option Addr) (cap : Nat) (w : World) (hl2 : Sl w (.slice a2 cols.length cap2) 3 (cols.map Col.cells)) (hcap2 : cols.length ≤ cap2) (hlen2 : cols.length ≤ 1000) (hl : Sl w (.slice a l.length cap) 5 (l.map K.pc)) (hlen : l.length ≤ 1000) (hs : ∀ c ∈ l, c.wk) (hs2 : ∀ c ∈ cols, c.nm.size ≤ 9223372036854775807) (hnm : nm.size ≤ 9223372036854775807) :
    Calls Tryz.prog 126 #[.agg #[.int .u32 oid, .int .u32 ver, .string nm, .int .u8 id, .slice a2 cols.length cap2], .slice a l.length cap] w fun e w' => e = .returned (.int .i64 (isKeyE l (⟨oid, ver, nm, id, cols⟩ : Rl))) ∧ Ext w w' := by
  have HKD := Hid.mk' (fun W (h : Ext w W) => keyedI_any oid ver nm id cols a2 cap2 l a cap W (hl2.ext h) hcap2 hlen2 (hl.ext h) hlen hs hs2 hnm)
  have HKO := Hid.mk' (fun W (h : Ext w W) => keyOf_any oid ver nm id cols a2 cap2 l a cap W (hl2.ext h) hlen2 (hl.ext h) hlen)
  have HL := Hid.mk' hl
  have HRW := Hid.mk' (fun h => isKey_row (l := l) (r := (⟨oid, ver, nm, id, cols⟩ : Rl)) h hs)
  have HKE : Hid (isKeyE l (⟨oid, ver, nm, id, cols⟩ : Rl) = if keyedE l (⟨oid, ver, nm, id, cols⟩ : Rl) ≠ 0 then keyedE l (⟨oid, ver, nm, id, cols⟩ : Rl) else firstE (nonE cols l) l.length) := Hid.mk' rfl
  obtain ⟨E, hE⟩ : ∃ E, E = keyedE l (⟨oid, ver, nm, id, cols⟩ : Rl) := ⟨_, rfl⟩
  rw [← hE] at HKD HKE
  have HEQ := Hid.mk' hE
  clear hl hl2 hs hs2 hE
  by_cases h0 : E = 0
  case neg =>
    have HKE2 := Hid.mk' (HKE.out.trans (if_pos h0))
    have h0' : (E != 0) = true := by simpa using h0
    clear h0 HKE HEQ
    go_enter Tryz.func126, Tryz.ntmps126
    go_wp2_with (go_at_call 128; refine (HKD.out _ (by exact eX)).mono ?_; rintro e w1 ⟨rfl, hb1⟩; have hE1 : Ext w w1 := (by exact eX))
    go_ret
    exact ⟨ret_int HKE2.out.symm, hE1⟩
  subst h0
  have HKE2 := Hid.mk' (HKE.out.trans (if_neg (by simp)))
  have HRW2 := Hid.mk' (HRW.out HEQ.out.symm)
  have HAL := Hid.mk' (fun W g c (h : Ext w W) (hr : RowAt W g (keyOf cols l)) => (alike_any l (keyOf cols l) a (some ⟨g, 0, none⟩) cap c W (HL.out.ext h) (hr.sl c) hlen (by rw [keyOf_len]; exact hlen)))
  rw [HRW2.out, keyOf_len] at HAL
  clear HKE HEQ HRW
  by_cases h1 : firstE (nonE cols l) l.length = 0
  · rw [decide_eq_true h1] at HAL
    have HR := Hid.mk' (HKE2.out.trans h1)
    clear h1 HRW2
    go_enter Tryz.func126, Tryz.ntmps126
    go_wp2_with (first
      | (go_at_call 128; refine (HKD.out _ (by exact eX)).mono ?_; rintro e w1 ⟨rfl, hb1⟩; have hE1 : Ext w w1 := (by exact eX); have g0 := ((Blk.new w #[.int .u32 oid, .int .u32 ver, .string nm, .int .u8 id, .slice a2 cols.length cap2] 112).ext hb1).cell)
      | (go_at_call 129; refine (HKO.out _ hE1).mono ?_; rintro e w2 ⟨g, c, rfl, hc, hg, hr, hb2⟩; have HR2 := Hid.mk' hr; have hE2 := hE1.trans hb2; clear hr hc hg)
      | (go_at_call 71; refine (HAL.out _ _ _ hE2 HR2.out).mono ?_; rintro e w3 ⟨rfl, hb3⟩))
    go_ret
    exact ⟨ret_int HR.out.symm, hE2.trans hb3⟩
  · rw [decide_eq_false h1] at HAL
    have HR := Hid.mk' (HKE2.out.trans (show firstE (nonE cols l) l.length = 14 by
      obtain ⟨k, hk, _, h2⟩ := firstE_get h1
      rw [h2] at h1 ⊢
      unfold nonE at h1 ⊢
      split at h1
      · rename_i h3; rw [if_pos h3]
      · exact absurd rfl h1))
    clear h1 HRW2
    go_enter Tryz.func126, Tryz.ntmps126
    go_wp2_with (first
      | (go_at_call 128; refine (HKD.out _ (by exact eX)).mono ?_; rintro e w1 ⟨rfl, hb1⟩; have hE1 : Ext w w1 := (by exact eX); have g0 := ((Blk.new w #[.int .u32 oid, .int .u32 ver, .string nm, .int .u8 id, .slice a2 cols.length cap2] 112).ext hb1).cell)
      | (go_at_call 129; refine (HKO.out _ hE1).mono ?_; rintro e w2 ⟨g, c, rfl, hc, hg, hr, hb2⟩; have HR2 := Hid.mk' hr; have hE2 := hE1.trans hb2; clear hr hc hg)
      | (go_at_call 71; refine (HAL.out _ _ _ hE2 HR2.out).mono ?_; rintro e w3 ⟨rfl, hb3⟩))
    go_ret
    exact ⟨ret_int HR.out.symm, hE2.trans hb3⟩

set_option maxRecDepth 100000 in set_option maxHeartbeats 1600000 in
theorem isFull_any' (oid ver : Int) (nm : ByteArray) (id : Int) (cols : List Col) (a2 : Option Addr) (cap2 : Nat) (l : List K) (a : Option Addr) (cap : Nat) (w : World) (hl2 : Sl w (.slice a2 cols.length cap2) 3 (cols.map Col.cells)) (hcap2 : cols.length ≤ cap2) (hlen2 : cols.length ≤ 1000) (hl : Sl w (.slice a l.length cap) 5 (l.map K.pc)) (hlen : l.length ≤ 1000) (hs : ∀ c ∈ l, c.wk) (hs2 : ∀ c ∈ cols, c.nm.size ≤ 9223372036854775807) (hnm : nm.size ≤ 9223372036854775807) :
    Calls Tryz.prog 127 #[.agg #[.int .u32 oid, .int .u32 ver, .string nm, .int .u8 id, .slice a2 cols.length cap2], .slice a l.length cap] w fun e w' => e = .returned (.int .i64 (isFullE l (⟨oid, ver, nm, id, cols⟩ : Rl))) ∧ Ext w w' := by
  have HKD := Hid.mk' (fun W (h : Ext w W) => keyedI_any oid ver nm id cols a2 cap2 l a cap W (hl2.ext h) hcap2 hlen2 (hl.ext h) hlen hs hs2 hnm)
  have HCF := Hid.mk' (fun W (h : Ext w W) => samehas_any l a cap W (hl.ext h) hlen)
  have HKE : Hid (isFullE l (⟨oid, ver, nm, id, cols⟩ : Rl) = if keyedE l (⟨oid, ver, nm, id, cols⟩ : Rl) ≠ 0 then keyedE l (⟨oid, ver, nm, id, cols⟩ : Rl) else firstE (sameE l) l.length) := Hid.mk' rfl
  have HSA := Hid.mk' (same_any (l := l))
  generalize keyedE l (⟨oid, ver, nm, id, cols⟩ : Rl) = E at HKD HKE
  generalize (l.any fun c => c.k == 1) = B at HCF HSA
  clear hl hl2 hs hs2
  by_cases h0 : E = 0
  case neg =>
    have HKE2 := Hid.mk' (HKE.out.trans (if_pos h0))
    have h0' : (E != 0) = true := by simpa using h0
    clear h0 HKE
    go_enter Tryz.func127, Tryz.ntmps127
    go_wp2_with (go_at_call 128; refine (HKD.out _ (by exact eX)).mono ?_; rintro e w1 ⟨rfl, hb1⟩; have hE1 : Ext w w1 := (by exact eX))
    go_ret
    exact ⟨ret_int HKE2.out.symm, hE1⟩
  subst h0
  have HKE2 := Hid.mk' ((HKE.out.trans (if_neg (by simp))).trans HSA.out)
  clear HKE HSA
  cases B
  all_goals
    go_enter Tryz.func127, Tryz.ntmps127
    go_wp2_with (first
      | (go_at_call 128; refine (HKD.out _ (by exact eX)).mono ?_; rintro e w1 ⟨rfl, hb1⟩; have hE1 : Ext w w1 := (by exact eX))
      | (go_at_call 162; refine (HCF.out _ hE1).mono ?_; rintro e w2 ⟨rfl, hb2⟩))
    go_ret
    exact ⟨ret_int (by rw [HKE2.out]; simp), hE1.trans hb2⟩

end Go.Proofs.YtlobghojjfkchaaGreat
