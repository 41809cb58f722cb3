/-
Whether a row fits a relation: the program's answer, the reference's.
-/
import Derived.Test.YtdbepkfblfhlhaaRowK
import Derived.Test.YtdbepkfblfhlhaaRefRel
import Derived.Test.YtdbepkfblfhlhaaCell
import Derived.Test.YtdbepkfblfhlhaaRefCell
namespace Go.Proofs.Ytdbepkfblfhlhaa
open Go.RowKit

/-- What is wrong with the cell of a column. -/
def fitAt (l : List K) (cols : List Col) (i : Nat) : Int := if h : i < l.length ∧ i < cols.length then (l[i]'h.1).right (cols[i]'h.2).ty else 0
theorem fitAt_lt {l : List K} {cols : List Col} {i : Nat} (h : i < l.length) (h2 : i < cols.length) : fitAt l cols i = l[i].right cols[i].ty := by unfold fitAt; rw [dif_pos ⟨h, h2⟩]
/-- What is wrong with a row of a relation. -/
def fitsE (l : List K) (r : Rl) : Int := if r.right ≠ 0 then r.right else if l.length ≠ r.cols.length then 17 else firstE (fitAt l r.cols) l.length

structure K.wk (c : K) : Prop where
  k : 0 ≤ c.k
  s : c.v.s.size ≤ 9223372036854775807

set_option maxRecDepth 100000 in set_option maxHeartbeats 4000000 in
theorem fits_any (l : List K) (a : Option Addr) (cap : Nat) (oid ver : Int) (nm : ByteArray) (id : Int) (cols : List Col) (a2 : Option Addr) (cap2 : Nat) (w : World) (hl : Sl w (.slice a l.length cap) 5 (l.map K.pc)) (hl2 : Sl w (.slice a2 cols.length cap2) 3 (cols.map Col.cells))
    (hcap2 : cols.length ≤ cap2) (hlen : l.length ≤ 1000) (hlen2 : cols.length ≤ 1000) (hs : ∀ c ∈ l, c.wk) (hs2 : ∀ c ∈ cols, c.nm.size ≤ 9223372036854775807) (hnm : nm.size ≤ 9223372036854775807) :
    Calls Try.prog 42 #[.slice a l.length cap, .agg #[.int .u32 oid, .int .u32 ver, .string nm, .int .u8 id, .slice a2 cols.length cap2]] w fun e w' => e = .returned (.int .i64 (fitsE l (⟨oid, ver, nm, id, cols⟩ : Rl))) ∧ Ext w w' := by
  have HR := Hid.mk' (fun W (h : Ext w W) => right8_any oid ver nm id cols a2 cap2 W (hl2.ext h) hcap2 hlen2 hnm hs2)
  have HF : Hid (fitsE l (⟨oid, ver, nm, id, cols⟩ : Rl) = if (⟨oid, ver, nm, id, cols⟩ : Rl).right ≠ 0 then (⟨oid, ver, nm, id, cols⟩ : Rl).right else if l.length ≠ cols.length then 17 else firstE (fitAt l cols) l.length) := Hid.mk' rfl
  have HL := Hid.mk' hl
  have HL2 := Hid.mk' hl2
  have HS := Hid.mk' hs
  clear hl hl2 hs hs2
  generalize (⟨oid, ver, nm, id, cols⟩ : Rl).right = E at *
  by_cases h0 : E = 0
  case neg =>
    have HF2 := Hid.mk' (HF.out.trans (if_pos h0))
    have h0' : (E != 0) = true := by simpa using h0
    clear h0 HF
    go_enter Try.func42, Try.ntmps42
    go_wp2_with (go_at_call 57; refine (HR.out _ (by (repeat (with_reducible (first | exact Ext.refl _ | assumption | exact held_left (by assumption) | apply Ext.drewN | apply Ext.drew | apply Ext.alloc | (refine Ext.setCell ?_ (by first | (simp; done) | (simp; omega) | omega) _) | (refine Ext.trans ?_ (by assumption)) | (refine Ext.trans ?_ (held_left (by assumption)))))))).mono ?_; rintro e w1 ⟨rfl, hb1⟩; have hE1 : Ext w w1 := (by (repeat (with_reducible (first | exact Ext.refl _ | assumption | exact held_left (by assumption) | apply Ext.drewN | apply Ext.drew | apply Ext.alloc | (refine Ext.setCell ?_ (by first | (simp; done) | (simp; omega) | omega) _) | (refine Ext.trans ?_ (by assumption)) | (refine Ext.trans ?_ (held_left (by assumption))))))))
    go_ret
    exact ⟨ret_int HF2.out.symm, hE1⟩
  subst h0
  have HF2 := Hid.mk' (HF.out.trans (if_neg (by simp)))
  clear HF
  by_cases hn : l.length = cols.length
  case neg =>
    have HF3 := Hid.mk' (HF2.out.trans (if_pos hn))
    have hn' : (((l.length : Nat) : Int) != ((cols.length : Nat) : Int)) = true := by simp; omega
    clear hn HF2
    go_enter Try.func42, Try.ntmps42
    go_wp2_with (go_at_call 57; refine (HR.out _ (by (repeat (with_reducible (first | exact Ext.refl _ | assumption | exact held_left (by assumption) | apply Ext.drewN | apply Ext.drew | apply Ext.alloc | (refine Ext.setCell ?_ (by first | (simp; done) | (simp; omega) | omega) _) | (refine Ext.trans ?_ (by assumption)) | (refine Ext.trans ?_ (held_left (by assumption)))))))).mono ?_; rintro e w1 ⟨rfl, hb1⟩; have hE1 : Ext w w1 := (by (repeat (with_reducible (first | exact Ext.refl _ | assumption | exact held_left (by assumption) | apply Ext.drewN | apply Ext.drew | apply Ext.alloc | (refine Ext.setCell ?_ (by first | (simp; done) | (simp; omega) | omega) _) | (refine Ext.trans ?_ (by assumption)) | (refine Ext.trans ?_ (held_left (by assumption))))))); have g0 := ((Blk.new w #[.int .u32 oid, .int .u32 ver, .string nm, .int .u8 id, .slice a2 cols.length cap2] 42).ext hb1).cell)
    go_ret
    exact ⟨ret_int HF3.out.symm, hE1⟩
  have HF3 := Hid.mk' (HF2.out.trans (if_neg (by simpa using hn)))
  have hn' : (((l.length : Nat) : Int) != ((cols.length : Nat) : Int)) = false := by simp; omega
  have hnl : l.length ≤ cols.length := by omega
  clear HF2
  have HNE := Hid.mk' hn
  clear hn
  go_enter Try.func42, Try.ntmps42
  go_wp2_with (go_at_call 57; refine (HR.out _ (by (repeat (with_reducible (first | exact Ext.refl _ | assumption | exact held_left (by assumption) | apply Ext.drewN | apply Ext.drew | apply Ext.alloc | (refine Ext.setCell ?_ (by first | (simp; done) | (simp; omega) | omega) _) | (refine Ext.trans ?_ (by assumption)) | (refine Ext.trans ?_ (held_left (by assumption)))))))).mono ?_; rintro e w1 ⟨rfl, hb1⟩; have hE1 := Hid.mk' hb1; have g0 := ((Blk.new w #[.int .u32 oid, .int .u32 ver, .string nm, .int .u8 id, .slice a2 cols.length cap2] 42).ext hb1).cell; clear hb1)
  go_loopw [22] (fun i wr => ∃ k : Nat, k ≤ l.length ∧ i = .int .i64 k ∧ Hid (∀ j, j < k → fitAt l cols j = 0) ∧ Hid (Ext (w.alloc (.cells #[.int .u32 oid, .int .u32 ver, .string nm, .int .u8 id, .slice a2 cols.length cap2] 42)) wr)) (fun i _ => l.length - (intOf i).toNat)
  case atStart => exact ⟨0, Nat.zero_le _, rfl, fun j h => by omega, hE1⟩
  case round =>
    obtain ⟨k, hk, rfl, hrel, hE⟩ := hrel
    have hEw : Hid (Ext w wr) := Hid.mk' (((Ext.refl w).alloc _).trans hE.out)
    by_cases hlt : k < l.length
    · have hlt2 : k < cols.length := by omega
      have hBx := (Blk.new w #[.int .u32 oid, .int .u32 ver, .string nm, .int .u8 id, .slice a2 cols.length cap2] 42).ext hE.out
      have g0 := hBx.cell
      have z0 := hBx.lt
      obtain ⟨b, o, rfl, hb, hx⟩ := HL.out.at_ (i := k) (by simpa using hlt)
      obtain ⟨f0, f1, f2, f3, f4⟩ := K.pcAt hlt hx hb hEw.out
      obtain ⟨b2, o2, rfl, hb2, hx2⟩ := HL2.out.at_ (i := k) (by simpa using hlt2)
      obtain ⟨p0, p1, p2⟩ := Col.at_ hlt2 hx2 hb2 hEw.out
      have hbw : b < wr.heap.size := Nat.lt_of_lt_of_le hb hEw.out.size
      have hbw2 : b2 < wr.heap.size := Nat.lt_of_lt_of_le hb2 hEw.out.size
      have hwk := HS.out _ (List.getElem_mem hlt)
      have HC := Hid.mk' (fun W => cright_any l[k].k l[k].v.ty l[k].v.n l[k].v.x l[k].v.y l[k].v.s cols[k].ty W hwk.k hwk.s)
      have hAt := fitAt_lt hlt hlt2
      unfold K.right at hAt
      obtain ⟨E, hE0⟩ : ∃ E, E = rightC l[k].k l[k].v.ty l[k].v.n l[k].v.x l[k].v.y l[k].v.s cols[k].ty := ⟨_, rfl⟩
      rw [← hE0] at HC hAt
      have HAt := Hid.mk' hAt
      clear hx hx2 hAt hE0 hBx hwk
      by_cases h0 : E = 0
      · subst h0
        go_wp2
        go_region_held3 (fun w' => Ext (wr.alloc (.cells #[.int .u8 l[k].k, .int .u8 l[k].v.ty, .int .i64 l[k].v.n, .complex .f64 l[k].v.x l[k].v.y, .string l[k].v.s] 78)) w' ∧ (∀ b o, b < (wr.alloc (.cells #[.int .u8 l[k].k, .int .u8 l[k].v.ty, .int .i64 l[k].v.n, .complex .f64 l[k].v.x l[k].v.y, .string l[k].v.s] 78)).heap.size → w'.cell? ⟨b, o, none⟩ = (wr.alloc (.cells #[.int .u8 l[k].k, .int .u8 l[k].v.ty, .int .i64 l[k].v.n, .complex .f64 l[k].v.x l[k].v.y, .string l[k].v.s] 78)).cell? ⟨b, o, none⟩) ∧ (∀ b o, b < (wr.alloc (.cells #[.int .u8 l[k].k, .int .u8 l[k].v.ty, .int .i64 l[k].v.n, .complex .f64 l[k].v.x l[k].v.y, .string l[k].v.s] 78)).heap.size → w'.frozen? ⟨b, o, none⟩ = (wr.alloc (.cells #[.int .u8 l[k].k, .int .u8 l[k].v.ty, .int .i64 l[k].v.n, .complex .f64 l[k].v.x l[k].v.y, .string l[k].v.s] 78)).frozen? ⟨b, o, none⟩)) ((exact held_of (by (repeat (with_reducible (first | exact Ext.refl _ | assumption | exact held_left (by assumption) | apply Ext.drewN | apply Ext.drew | apply Ext.alloc | (refine Ext.setCell ?_ (by first | (simp; done) | (simp; omega) | omega) _) | (refine Ext.trans ?_ (by assumption)) | (refine Ext.trans ?_ (held_left (by assumption)))))))))
          (first
            | (go_at_call 83; refine (HC.out _).mono ?_; rintro e w2 ⟨rfl, hb2'⟩))
        go_wp2
        go_roundw
        case rel => exact ⟨k + 1, by omega, by go_num, fun j hj => by
          by_cases e : j = k
          · subst e; exact HAt.out
          · exact hrel.out j (by omega), Hid.mk' (hE.out.trans (by (repeat (with_reducible (first | exact Ext.refl _ | assumption | exact held_left (by assumption) | apply Ext.drewN | apply Ext.drew | apply Ext.alloc | (refine Ext.setCell ?_ (by first | (simp; done) | (simp; omega) | omega) _) | (refine Ext.trans ?_ (by assumption)) | (refine Ext.trans ?_ (held_left (by assumption))))))))⟩
        case measure => simp [intOf]; omega
      · have h0' : (E != 0) = true := by simpa using h0
        have HR2 := Hid.mk' (HF3.out.trans (show firstE (fitAt l cols) l.length = E by rw [firstE_at hrel.out hlt (by rw [HAt.out]; exact h0), HAt.out]))
        clear h0
        go_wp2
        go_region_held3 (fun w' => Ext (wr.alloc (.cells #[.int .u8 l[k].k, .int .u8 l[k].v.ty, .int .i64 l[k].v.n, .complex .f64 l[k].v.x l[k].v.y, .string l[k].v.s] 78)) w' ∧ (∀ b o, b < (wr.alloc (.cells #[.int .u8 l[k].k, .int .u8 l[k].v.ty, .int .i64 l[k].v.n, .complex .f64 l[k].v.x l[k].v.y, .string l[k].v.s] 78)).heap.size → w'.cell? ⟨b, o, none⟩ = (wr.alloc (.cells #[.int .u8 l[k].k, .int .u8 l[k].v.ty, .int .i64 l[k].v.n, .complex .f64 l[k].v.x l[k].v.y, .string l[k].v.s] 78)).cell? ⟨b, o, none⟩) ∧ (∀ b o, b < (wr.alloc (.cells #[.int .u8 l[k].k, .int .u8 l[k].v.ty, .int .i64 l[k].v.n, .complex .f64 l[k].v.x l[k].v.y, .string l[k].v.s] 78)).heap.size → w'.frozen? ⟨b, o, none⟩ = (wr.alloc (.cells #[.int .u8 l[k].k, .int .u8 l[k].v.ty, .int .i64 l[k].v.n, .complex .f64 l[k].v.x l[k].v.y, .string l[k].v.s] 78)).frozen? ⟨b, o, none⟩)) ((exact held_of (by (repeat (with_reducible (first | exact Ext.refl _ | assumption | exact held_left (by assumption) | apply Ext.drewN | apply Ext.drew | apply Ext.alloc | (refine Ext.setCell ?_ (by first | (simp; done) | (simp; omega) | omega) _) | (refine Ext.trans ?_ (by assumption)) | (refine Ext.trans ?_ (held_left (by assumption)))))))))
          (first
            | (go_at_call 83; refine (HC.out _).mono ?_; rintro e w2 ⟨rfl, hb2'⟩))
        go_wp2
        go_ret
        exact ⟨ret_int HR2.out.symm, hEw.out.trans (by (repeat (with_reducible (first | exact Ext.refl _ | assumption | exact held_left (by assumption) | apply Ext.drewN | apply Ext.drew | apply Ext.alloc | (refine Ext.setCell ?_ (by first | (simp; done) | (simp; omega) | omega) _) | (refine Ext.trans ?_ (by assumption)) | (refine Ext.trans ?_ (held_left (by assumption)))))))⟩
    · have hkk : k = l.length := by omega
      have HR2 := Hid.mk' (HF3.out.trans (firstE_zero (fun i hi => hrel.out i (by omega))))
      subst hkk
      go_wp2
      go_ret
      exact ⟨ret_int HR2.out.symm, hEw.out⟩

set_option maxRecDepth 100000 in set_option maxHeartbeats 4000000 in
theorem rfits_any (l : List K) (a : Option Addr) (cap : Nat) (oid ver : Int) (nm : ByteArray) (id : Int) (cols : List Col) (a2 : Option Addr) (cap2 : Nat) (w : World) (hl : Sl w (.slice a l.length cap) 6 (l.map K.rc)) (hl2 : Sl w (.slice a2 cols.length cap2) 3 (cols.map Col.cells))
    (hlen : l.length ≤ 1000) (hlen2 : cols.length ≤ 1000) (hs : ∀ c ∈ l, c.wk) (hs2 : ∀ c ∈ cols, c.nm.size ≤ 9223372036854775807) (hnm : nm.size ≤ 9223372036854775807) :
    Calls Try.prog 43 #[.slice a l.length cap, .agg #[.int .u32 oid, .int .u32 ver, .string nm, .int .u8 id, .slice a2 cols.length cap2]] w fun e w' => e = .returned (.int .i64 (fitsE l (⟨oid, ver, nm, id, cols⟩ : Rl))) ∧ Ext w w' := by
  have HR := Hid.mk' (fun W (h : Ext w W) => rright8_any oid ver nm id cols a2 cap2 W (hl2.ext h) hlen2 hnm hs2)
  have HF : Hid (fitsE l (⟨oid, ver, nm, id, cols⟩ : Rl) = if (⟨oid, ver, nm, id, cols⟩ : Rl).right ≠ 0 then (⟨oid, ver, nm, id, cols⟩ : Rl).right else if l.length ≠ cols.length then 17 else firstE (fitAt l cols) l.length) := Hid.mk' rfl
  have HL := Hid.mk' hl
  have HL2 := Hid.mk' hl2
  have HS := Hid.mk' hs
  clear hl hl2 hs hs2
  generalize (⟨oid, ver, nm, id, cols⟩ : Rl).right = E at *
  by_cases h0 : E = 0
  case neg =>
    have HF2 := Hid.mk' (HF.out.trans (if_pos h0))
    have h0' : (E != 0) = true := by simpa using h0
    clear h0 HF
    go_enter Try.func43, Try.ntmps43
    go_wp2_with (go_at_call 59; refine (HR.out _ (by (repeat (with_reducible (first | exact Ext.refl _ | assumption | exact held_left (by assumption) | apply Ext.drewN | apply Ext.drew | apply Ext.alloc | (refine Ext.setCell ?_ (by first | (simp; done) | (simp; omega) | omega) _) | (refine Ext.trans ?_ (by assumption)) | (refine Ext.trans ?_ (held_left (by assumption)))))))).mono ?_; rintro e w1 ⟨rfl, hb1⟩; have hE1 : Ext w w1 := (by (repeat (with_reducible (first | exact Ext.refl _ | assumption | exact held_left (by assumption) | apply Ext.drewN | apply Ext.drew | apply Ext.alloc | (refine Ext.setCell ?_ (by first | (simp; done) | (simp; omega) | omega) _) | (refine Ext.trans ?_ (by assumption)) | (refine Ext.trans ?_ (held_left (by assumption))))))))
    go_ret
    exact ⟨ret_int HF2.out.symm, hE1⟩
  subst h0
  have HF2 := Hid.mk' (HF.out.trans (if_neg (by simp)))
  clear HF
  by_cases hn : l.length = cols.length
  case neg =>
    have HF3 := Hid.mk' (HF2.out.trans (if_pos hn))
    have hn' : (((l.length : Nat) : Int) != ((cols.length : Nat) : Int)) = true := by simp; omega
    clear hn HF2
    go_enter Try.func43, Try.ntmps43
    go_wp2_with (go_at_call 59; refine (HR.out _ (by (repeat (with_reducible (first | exact Ext.refl _ | assumption | exact held_left (by assumption) | apply Ext.drewN | apply Ext.drew | apply Ext.alloc | (refine Ext.setCell ?_ (by first | (simp; done) | (simp; omega) | omega) _) | (refine Ext.trans ?_ (by assumption)) | (refine Ext.trans ?_ (held_left (by assumption)))))))).mono ?_; rintro e w1 ⟨rfl, hb1⟩; have hE1 : Ext w w1 := (by (repeat (with_reducible (first | exact Ext.refl _ | assumption | exact held_left (by assumption) | apply Ext.drewN | apply Ext.drew | apply Ext.alloc | (refine Ext.setCell ?_ (by first | (simp; done) | (simp; omega) | omega) _) | (refine Ext.trans ?_ (by assumption)) | (refine Ext.trans ?_ (held_left (by assumption))))))); have g0 := ((Blk.new w #[.int .u32 oid, .int .u32 ver, .string nm, .int .u8 id, .slice a2 cols.length cap2] 27).ext hb1).cell)
    go_ret
    exact ⟨ret_int HF3.out.symm, hE1⟩
  have HF3 := Hid.mk' (HF2.out.trans (if_neg (by simpa using hn)))
  have hn' : (((l.length : Nat) : Int) != ((cols.length : Nat) : Int)) = false := by simp; omega
  have hnl : l.length ≤ cols.length := by omega
  clear HF2
  have HNE := Hid.mk' hn
  clear hn
  go_enter Try.func43, Try.ntmps43
  go_wp2_with (go_at_call 59; refine (HR.out _ (by (repeat (with_reducible (first | exact Ext.refl _ | assumption | exact held_left (by assumption) | apply Ext.drewN | apply Ext.drew | apply Ext.alloc | (refine Ext.setCell ?_ (by first | (simp; done) | (simp; omega) | omega) _) | (refine Ext.trans ?_ (by assumption)) | (refine Ext.trans ?_ (held_left (by assumption)))))))).mono ?_; rintro e w1 ⟨rfl, hb1⟩; have hE1 := Hid.mk' hb1; have g0 := ((Blk.new w #[.int .u32 oid, .int .u32 ver, .string nm, .int .u8 id, .slice a2 cols.length cap2] 27).ext hb1).cell; clear hb1)
  go_loopw [6] (fun i wr => ∃ k : Nat, k ≤ l.length ∧ i = .int .i64 k ∧ Hid (∀ j, j < k → fitAt l cols j = 0) ∧ Hid (Ext (w.alloc (.cells #[.int .u32 oid, .int .u32 ver, .string nm, .int .u8 id, .slice a2 cols.length cap2] 27)) wr)) (fun i _ => l.length - (intOf i).toNat)
  case atStart => exact ⟨0, Nat.zero_le _, rfl, fun j h => by omega, hE1⟩
  case round =>
    obtain ⟨k, hk, rfl, hrel, hE⟩ := hrel
    have hEw : Hid (Ext w wr) := Hid.mk' (((Ext.refl w).alloc _).trans hE.out)
    by_cases hlt : k < l.length
    · have hlt2 : k < cols.length := by omega
      have hBx := (Blk.new w #[.int .u32 oid, .int .u32 ver, .string nm, .int .u8 id, .slice a2 cols.length cap2] 27).ext hE.out
      have g0 := hBx.cell
      have z0 := hBx.lt
      obtain ⟨b, o, rfl, hb, hx⟩ := HL.out.at_ (i := k) (by simpa using hlt)
      obtain ⟨f0, f1, f2, f3, f4, f5⟩ := K.rcAt hlt hx hb hEw.out
      obtain ⟨b2, o2, rfl, hb2, hx2⟩ := HL2.out.at_ (i := k) (by simpa using hlt2)
      obtain ⟨p0, p1, p2⟩ := Col.at_ hlt2 hx2 hb2 hEw.out
      have hbw : b < wr.heap.size := Nat.lt_of_lt_of_le hb hEw.out.size
      have hbw2 : b2 < wr.heap.size := Nat.lt_of_lt_of_le hb2 hEw.out.size
      have hwk := HS.out _ (List.getElem_mem hlt)
      have HC := Hid.mk' (fun W => rcright_any l[k].k l[k].v.ty l[k].v.n l[k].v.x l[k].v.y l[k].v.s cols[k].ty W hwk.k hwk.s)
      have hAt := fitAt_lt hlt hlt2
      unfold K.right at hAt
      obtain ⟨E, hE0⟩ : ∃ E, E = rightC l[k].k l[k].v.ty l[k].v.n l[k].v.x l[k].v.y l[k].v.s cols[k].ty := ⟨_, rfl⟩
      rw [← hE0] at HC hAt
      have HAt := Hid.mk' hAt
      clear hx hx2 hAt hE0 hBx hwk
      by_cases h0 : E = 0
      · subst h0
        go_wp2
        go_region_held3 (fun w' => Ext (wr) w' ∧ (∀ b o, b < (wr).heap.size → w'.cell? ⟨b, o, none⟩ = (wr).cell? ⟨b, o, none⟩) ∧ (∀ b o, b < (wr).heap.size → w'.frozen? ⟨b, o, none⟩ = (wr).frozen? ⟨b, o, none⟩)) ((exact held_of (by (repeat (with_reducible (first | exact Ext.refl _ | assumption | exact held_left (by assumption) | apply Ext.drewN | apply Ext.drew | apply Ext.alloc | (refine Ext.setCell ?_ (by first | (simp; done) | (simp; omega) | omega) _) | (refine Ext.trans ?_ (by assumption)) | (refine Ext.trans ?_ (held_left (by assumption)))))))))
          (first
            | (go_at_call 84; refine (HC.out _).mono ?_; rintro e w2 ⟨rfl, hb2'⟩))
        go_wp2
        go_roundw
        case rel => exact ⟨k + 1, by omega, by go_num, fun j hj => by
          by_cases e : j = k
          · subst e; exact HAt.out
          · exact hrel.out j (by omega), Hid.mk' (hE.out.trans (by (repeat (with_reducible (first | exact Ext.refl _ | assumption | exact held_left (by assumption) | apply Ext.drewN | apply Ext.drew | apply Ext.alloc | (refine Ext.setCell ?_ (by first | (simp; done) | (simp; omega) | omega) _) | (refine Ext.trans ?_ (by assumption)) | (refine Ext.trans ?_ (held_left (by assumption))))))))⟩
        case measure => simp [intOf]; omega
      · have h0' : (E != 0) = true := by simpa using h0
        have HR2 := Hid.mk' (HF3.out.trans (show firstE (fitAt l cols) l.length = E by rw [firstE_at hrel.out hlt (by rw [HAt.out]; exact h0), HAt.out]))
        clear h0
        go_wp2
        go_region_held3 (fun w' => Ext (wr) w' ∧ (∀ b o, b < (wr).heap.size → w'.cell? ⟨b, o, none⟩ = (wr).cell? ⟨b, o, none⟩) ∧ (∀ b o, b < (wr).heap.size → w'.frozen? ⟨b, o, none⟩ = (wr).frozen? ⟨b, o, none⟩)) ((exact held_of (by (repeat (with_reducible (first | exact Ext.refl _ | assumption | exact held_left (by assumption) | apply Ext.drewN | apply Ext.drew | apply Ext.alloc | (refine Ext.setCell ?_ (by first | (simp; done) | (simp; omega) | omega) _) | (refine Ext.trans ?_ (by assumption)) | (refine Ext.trans ?_ (held_left (by assumption)))))))))
          (first
            | (go_at_call 84; refine (HC.out _).mono ?_; rintro e w2 ⟨rfl, hb2'⟩))
        go_wp2
        go_ret
        exact ⟨ret_int HR2.out.symm, hEw.out.trans (by (repeat (with_reducible (first | exact Ext.refl _ | assumption | exact held_left (by assumption) | apply Ext.drewN | apply Ext.drew | apply Ext.alloc | (refine Ext.setCell ?_ (by first | (simp; done) | (simp; omega) | omega) _) | (refine Ext.trans ?_ (by assumption)) | (refine Ext.trans ?_ (held_left (by assumption)))))))⟩
    · have hkk : k = l.length := by omega
      have HR2 := Hid.mk' (HF3.out.trans (firstE_zero (fun i hi => hrel.out i (by omega))))
      subst hkk
      go_wp2
      go_ret
      exact ⟨ret_int HR2.out.symm, hEw.out⟩

end Go.Proofs.Ytdbepkfblfhlhaa
