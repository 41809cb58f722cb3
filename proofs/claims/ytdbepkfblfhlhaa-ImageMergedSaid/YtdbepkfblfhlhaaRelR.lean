/-
What is wrong with a relation, the program's answer.
-/
import Derived.Test.YtdbepkfblfhlhaaKeyed
namespace Go.Proofs.Ytdbepkfblfhlhaa
open Go.RowKit

theorem Sl.take {w : World} {a : Option Addr} {n cap k : Nat} {xss : List (List Value)} (h : Sl w (.slice a n cap) k xss) {i : Nat} (hi : i ≤ xss.length) : Sl w (.slice a i cap) k (xss.take i) := by
  obtain ⟨a', cap', hv, hs⟩ := h
  simp only [Value.slice.injEq] at hv
  obtain ⟨rfl, -, rfl⟩ := hv
  have hl : (xss.take i).length = i := by rw [List.length_take]; omega
  refine ⟨a, cap, by rw [hl], ?_⟩
  rcases hs with rfl | ⟨b, o, rfl, hb, hc⟩
  · left; simp
  · refine .inr ⟨b, o, rfl, hb, fun j hj q hq => ?_⟩
    rw [hl] at hj
    rw [hc j (by omega) q hq]
    simp [List.getElem?_take, hj]

/-- The body's verdicts, in the order of the text. -/
theorem Rl.right_cols {r : Rl} (h1 : r.oid ≠ 0) (h2 : r.ver ≠ 0) (h3 : namedB r.nm = true) (h4 : r.id ≤ 2) (h5 : 1 ≤ r.cols.length) (h6 : r.cols.length ≤ 16) :
    r.right = if firstE (colAt r.cols) r.cols.length ≠ 0 then firstE (colAt r.cols) r.cols.length else if r.id = 1 ∧ r.cols.any Col.key = false then 13 else 0 := by
  unfold Rl.right
  rw [if_neg (by omega), if_neg (by rw [h3]; simp), if_neg (by omega), if_neg (by omega)]

set_option maxRecDepth 100000 in set_option maxHeartbeats 4000000 in
theorem right8_any (oid ver : Int) (nm : ByteArray) (id : Int) (cols : List Col) (a : Option Addr) (cap : Nat) (w : World) (hl : Sl w (.slice a cols.length cap) 3 (cols.map Col.cells)) (hcap : cols.length ≤ cap) (hlen : cols.length ≤ 1000)
    (hnm : nm.size ≤ 9223372036854775807) (hcs : ∀ c ∈ cols, c.nm.size ≤ 9223372036854775807) :
    Calls Try.prog 57 #[.agg #[.int .u32 oid, .int .u32 ver, .string nm, .int .u8 id, .slice a cols.length cap]] w fun e w' => e = .returned (.int .i64 (⟨oid, ver, nm, id, cols⟩ : Rl).right) ∧ Ext w w' := by
  have HN := Hid.mk' (fun w => named_any nm w hnm)
  have HK := Hid.mk' (fun W (h : Ext w W) => keyed_any oid ver nm id cols a cap W (hl.ext h) hlen)
  have HL := Hid.mk' hl
  have HCS := Hid.mk' hcs
  clear hl hcs
  by_cases h1 : oid = 0
  · have HR := Hid.mk' (show (⟨oid, ver, nm, id, cols⟩ : Rl).right = 4 by unfold Rl.right; rw [if_pos (.inl h1)])
    have e1 : (oid == 0) = true := by simpa using h1
    clear h1
    go_enter Try.func57, Try.ntmps57
    go_wp2
    go_ret
    exact ⟨ret_int HR.out.symm, by (repeat (with_reducible (first | exact Ext.refl _ | assumption | exact held_left (by assumption) | apply Ext.drewN | apply Ext.drew | apply Ext.alloc | (refine Ext.setCell ?_ (by first | (simp; done) | (simp; omega) | omega) _) | (refine Ext.trans ?_ (by assumption)) | (refine Ext.trans ?_ (held_left (by assumption))))))⟩
  have e1 : (oid == 0) = false := by simpa using h1
  by_cases h2 : ver = 0
  · have HR := Hid.mk' (show (⟨oid, ver, nm, id, cols⟩ : Rl).right = 4 by unfold Rl.right; rw [if_pos (.inr h2)])
    have e2 : (ver == 0) = true := by simpa using h2
    clear h2 h1
    go_enter Try.func57, Try.ntmps57
    go_wp2
    go_ret
    exact ⟨ret_int HR.out.symm, by (repeat (with_reducible (first | exact Ext.refl _ | assumption | exact held_left (by assumption) | apply Ext.drewN | apply Ext.drew | apply Ext.alloc | (refine Ext.setCell ?_ (by first | (simp; done) | (simp; omega) | omega) _) | (refine Ext.trans ?_ (by assumption)) | (refine Ext.trans ?_ (held_left (by assumption))))))⟩
  have e2 : (ver == 0) = false := by simpa using h2
  cases h3 : namedB nm with
  | false =>
    have HR := Hid.mk' (show (⟨oid, ver, nm, id, cols⟩ : Rl).right = 3 by unfold Rl.right; rw [if_neg (by simp only; omega), if_pos h3])
    rw [h3] at HN
    clear h3 h2 h1
    go_enter Try.func57, Try.ntmps57
    go_wp2_with (go_at_call 94; refine (HN.out _).mono ?_; rintro e w1 ⟨rfl, rfl⟩)
    go_ret
    exact ⟨ret_int HR.out.symm, by (repeat (with_reducible (first | exact Ext.refl _ | assumption | exact held_left (by assumption) | apply Ext.drewN | apply Ext.drew | apply Ext.alloc | (refine Ext.setCell ?_ (by first | (simp; done) | (simp; omega) | omega) _) | (refine Ext.trans ?_ (by assumption)) | (refine Ext.trans ?_ (held_left (by assumption))))))⟩
  | true =>
  by_cases h4 : 2 < id
  · have HR := Hid.mk' (show (⟨oid, ver, nm, id, cols⟩ : Rl).right = 7 by unfold Rl.right; rw [if_neg (by simp only; omega), if_neg (by simp only [h3]; simp), if_pos h4])
    rw [h3] at HN
    clear h3 h2 h1
    go_enter Try.func57, Try.ntmps57
    go_wp2_with (go_at_call 94; refine (HN.out _).mono ?_; rintro e w1 ⟨rfl, rfl⟩)
    go_ret
    exact ⟨ret_int HR.out.symm, by (repeat (with_reducible (first | exact Ext.refl _ | assumption | exact held_left (by assumption) | apply Ext.drewN | apply Ext.drew | apply Ext.alloc | (refine Ext.setCell ?_ (by first | (simp; done) | (simp; omega) | omega) _) | (refine Ext.trans ?_ (by assumption)) | (refine Ext.trans ?_ (held_left (by assumption))))))⟩
  by_cases h5 : cols.length < 1
  · have HR := Hid.mk' (show (⟨oid, ver, nm, id, cols⟩ : Rl).right = 17 by unfold Rl.right; rw [if_neg (by simp only; omega), if_neg (by simp only [h3]; simp), if_neg (by simp only; omega), if_pos (.inl h5)])
    have h4' : id ≤ 2 := by omega
    rw [h3] at HN
    clear h3 h2 h1
    go_enter Try.func57, Try.ntmps57
    go_wp2_with (go_at_call 94; refine (HN.out _).mono ?_; rintro e w1 ⟨rfl, rfl⟩)
    go_ret
    exact ⟨ret_int HR.out.symm, by (repeat (with_reducible (first | exact Ext.refl _ | assumption | exact held_left (by assumption) | apply Ext.drewN | apply Ext.drew | apply Ext.alloc | (refine Ext.setCell ?_ (by first | (simp; done) | (simp; omega) | omega) _) | (refine Ext.trans ?_ (by assumption)) | (refine Ext.trans ?_ (held_left (by assumption))))))⟩
  by_cases h6 : 16 < cols.length
  · have HR := Hid.mk' (show (⟨oid, ver, nm, id, cols⟩ : Rl).right = 17 by unfold Rl.right; rw [if_neg (by simp only; omega), if_neg (by simp only [h3]; simp), if_neg (by simp only; omega), if_pos (.inr h6)])
    have h4' : id ≤ 2 := by omega
    have h5' : 1 ≤ cols.length := by omega
    rw [h3] at HN
    clear h3 h2 h1
    go_enter Try.func57, Try.ntmps57
    go_wp2_with (go_at_call 94; refine (HN.out _).mono ?_; rintro e w1 ⟨rfl, rfl⟩)
    go_ret
    exact ⟨ret_int HR.out.symm, by (repeat (with_reducible (first | exact Ext.refl _ | assumption | exact held_left (by assumption) | apply Ext.drewN | apply Ext.drew | apply Ext.alloc | (refine Ext.setCell ?_ (by first | (simp; done) | (simp; omega) | omega) _) | (refine Ext.trans ?_ (by assumption)) | (refine Ext.trans ?_ (held_left (by assumption))))))⟩
  have HR := Hid.mk' (Rl.right_cols (r := (⟨oid, ver, nm, id, cols⟩ : Rl)) h1 h2 h3 (by simp only; omega) (by simp only; omega) (by simp only; omega))
  simp only at HR
  rw [h3] at HN
  have h4' : id ≤ 2 := by omega
  have h5' : 1 ≤ cols.length := by omega
  have h6' : cols.length ≤ 16 := by omega
  clear h3 h2 h1 h4 h5 h6
  go_enter Try.func57, Try.ntmps57
  go_wp2_with (go_at_call 94; refine (HN.out _).mono ?_; rintro e w1 ⟨rfl, rfl⟩)
  go_loopw [40] (fun i wr => ∃ k : Nat, k ≤ cols.length ∧ i = .int .i64 k ∧ Hid (∀ j, j < k → colAt cols j = 0) ∧ Hid (Ext (w.alloc (.cells #[.int .u32 oid, .int .u32 ver, .string nm, .int .u8 id, .slice a cols.length cap] 42)) wr)) (fun i _ => cols.length - (intOf i).toNat)
  case atStart => exact ⟨0, Nat.zero_le _, rfl, fun j h => by omega, Ext.refl _⟩
  case round =>
    obtain ⟨k, hk, rfl, hrel, hE⟩ := hrel
    have hBx := (Blk.new w #[.int .u32 oid, .int .u32 ver, .string nm, .int .u8 id, .slice a cols.length cap] 42).ext hE.out
    have g0 := hBx.cell
    have z0 := hBx.lt
    clear hBx
    by_cases hlt : k < cols.length
    · obtain ⟨b, o, rfl, hb, hx⟩ := HL.out.at_ (i := k) (by simpa using hlt)
      have hEw : Hid (Ext w wr) := Hid.mk' (((Ext.refl w).alloc _).trans hE.out)
      obtain ⟨f0, f1, f2⟩ := Col.at_ hlt hx hb hEw.out
      have hbw : b < wr.heap.size := Nat.lt_of_lt_of_le hb hEw.out.size
      have HF := Hid.mk' (fun W (h : Ext wr W) => column_any cols[k] (cols.take k) (some ⟨b, o, none⟩) k cap W (by rw [List.length_take]; omega) (by have := (HL.out.ext (hEw.out.trans h)).take (i := k) (by rw [List.length_map]; omega); rwa [← List.map_take] at this) (by rw [List.length_take]; omega) (HCS.out _ (List.getElem_mem hlt)))
      have hAt := colAt_lt hlt
      have q1 : (0 : Int) ≤ (k : Int) := by omega
      have q2 : (k : Int) ≤ (cap : Int) := by omega
      obtain ⟨E, hE0⟩ : ∃ E, E = colE cols[k] (cols.take k) := ⟨_, rfl⟩
      rw [← hE0] at HF hAt
      have HAt := Hid.mk' hAt
      clear hx hAt hE0
      by_cases h0 : E = 0
      · subst h0
        go_wp2
        go_region_held3 (fun w' => Ext (wr.alloc (.cells #[.string cols[k].nm, .int .u8 cols[k].ty, .bool cols[k].key] 126)) w' ∧ (∀ b o, b < (wr.alloc (.cells #[.string cols[k].nm, .int .u8 cols[k].ty, .bool cols[k].key] 126)).heap.size → w'.cell? ⟨b, o, none⟩ = (wr.alloc (.cells #[.string cols[k].nm, .int .u8 cols[k].ty, .bool cols[k].key] 126)).cell? ⟨b, o, none⟩) ∧ (∀ b o, b < (wr.alloc (.cells #[.string cols[k].nm, .int .u8 cols[k].ty, .bool cols[k].key] 126)).heap.size → w'.frozen? ⟨b, o, none⟩ = (wr.alloc (.cells #[.string cols[k].nm, .int .u8 cols[k].ty, .bool cols[k].key] 126)).frozen? ⟨b, o, none⟩)) ((exact held_of (by (repeat (with_reducible (first | exact Ext.refl _ | assumption | exact held_left (by assumption) | apply Ext.drewN | apply Ext.drew | apply Ext.alloc | (refine Ext.setCell ?_ (by first | (simp; done) | (simp; omega) | omega) _) | (refine Ext.trans ?_ (by assumption)) | (refine Ext.trans ?_ (held_left (by assumption)))))))))
          (first
            | (go_at_call 95; refine (HF.out _ (by (repeat (with_reducible (first | exact Ext.refl _ | assumption | exact held_left (by assumption) | apply Ext.drewN | apply Ext.drew | apply Ext.alloc | (refine Ext.setCell ?_ (by first | (simp; done) | (simp; omega) | omega) _) | (refine Ext.trans ?_ (by assumption)) | (refine Ext.trans ?_ (held_left (by assumption)))))))).mono ?_; rintro e w2 ⟨rfl, hb2⟩))
        go_wp2
        go_roundw
        case rel => exact ⟨k + 1, by omega, by go_num, fun j hj => by
          by_cases e : j = k
          · subst e; exact HAt.out
          · exact hrel.out j (by omega), Hid.mk' (hE.out.trans (by (repeat (with_reducible (first | exact Ext.refl _ | assumption | exact held_left (by assumption) | apply Ext.drewN | apply Ext.drew | apply Ext.alloc | (refine Ext.setCell ?_ (by first | (simp; done) | (simp; omega) | omega) _) | (refine Ext.trans ?_ (by assumption)) | (refine Ext.trans ?_ (held_left (by assumption))))))))⟩
        case measure => simp [intOf]; omega
      · have h0' : (E != 0) = true := by simpa using h0
        have HR2 := Hid.mk' (show (⟨oid, ver, nm, id, cols⟩ : Rl).right = E by rw [HR.out, firstE_at hrel.out hlt (by rw [HAt.out]; exact h0), HAt.out, if_pos h0])
        clear h0
        go_wp2
        go_region_held3 (fun w' => Ext (wr.alloc (.cells #[.string cols[k].nm, .int .u8 cols[k].ty, .bool cols[k].key] 126)) w' ∧ (∀ b o, b < (wr.alloc (.cells #[.string cols[k].nm, .int .u8 cols[k].ty, .bool cols[k].key] 126)).heap.size → w'.cell? ⟨b, o, none⟩ = (wr.alloc (.cells #[.string cols[k].nm, .int .u8 cols[k].ty, .bool cols[k].key] 126)).cell? ⟨b, o, none⟩) ∧ (∀ b o, b < (wr.alloc (.cells #[.string cols[k].nm, .int .u8 cols[k].ty, .bool cols[k].key] 126)).heap.size → w'.frozen? ⟨b, o, none⟩ = (wr.alloc (.cells #[.string cols[k].nm, .int .u8 cols[k].ty, .bool cols[k].key] 126)).frozen? ⟨b, o, none⟩)) ((exact held_of (by (repeat (with_reducible (first | exact Ext.refl _ | assumption | exact held_left (by assumption) | apply Ext.drewN | apply Ext.drew | apply Ext.alloc | (refine Ext.setCell ?_ (by first | (simp; done) | (simp; omega) | omega) _) | (refine Ext.trans ?_ (by assumption)) | (refine Ext.trans ?_ (held_left (by assumption)))))))))
          (first
            | (go_at_call 95; refine (HF.out _ (by (repeat (with_reducible (first | exact Ext.refl _ | assumption | exact held_left (by assumption) | apply Ext.drewN | apply Ext.drew | apply Ext.alloc | (refine Ext.setCell ?_ (by first | (simp; done) | (simp; omega) | omega) _) | (refine Ext.trans ?_ (by assumption)) | (refine Ext.trans ?_ (held_left (by assumption)))))))).mono ?_; rintro e w2 ⟨rfl, hb2⟩))
        go_wp2
        go_ret
        exact ⟨ret_int HR2.out.symm, hEw.out.trans (by (repeat (with_reducible (first | exact Ext.refl _ | assumption | exact held_left (by assumption) | apply Ext.drewN | apply Ext.drew | apply Ext.alloc | (refine Ext.setCell ?_ (by first | (simp; done) | (simp; omega) | omega) _) | (refine Ext.trans ?_ (by assumption)) | (refine Ext.trans ?_ (held_left (by assumption)))))))⟩
    · have hkk : k = cols.length := by omega
      have hEw : Hid (Ext w wr) := Hid.mk' (((Ext.refl w).alloc _).trans hE.out)
      have HR2 := Hid.mk' (show (⟨oid, ver, nm, id, cols⟩ : Rl).right = if id = 1 ∧ cols.any Col.key = false then 13 else 0 by rw [HR.out, firstE_zero (fun i hi => hrel.out i (by omega)), if_neg (by simp)])
      subst hkk
      clear hrel HR
      by_cases h7 : id = 1
      · subst h7
        cases h8 : cols.any Col.key with
        | false =>
          rw [h8] at HK HR2
          clear h8
          go_wp2_with (go_at_call 96; refine (HK.out _ hEw.out).mono ?_; rintro e w2 ⟨rfl, hb2⟩)
          go_ret
          exact ⟨ret_int (by rw [HR2.out]; simp), hEw.out.trans (by (repeat (with_reducible (first | exact Ext.refl _ | assumption | exact held_left (by assumption) | apply Ext.drewN | apply Ext.drew | apply Ext.alloc | (refine Ext.setCell ?_ (by first | (simp; done) | (simp; omega) | omega) _) | (refine Ext.trans ?_ (by assumption)) | (refine Ext.trans ?_ (held_left (by assumption)))))))⟩
        | true =>
          rw [h8] at HK HR2
          clear h8
          go_wp2_with (go_at_call 96; refine (HK.out _ hEw.out).mono ?_; rintro e w2 ⟨rfl, hb2⟩)
          go_ret
          exact ⟨ret_int (by rw [HR2.out]; simp), hEw.out.trans (by (repeat (with_reducible (first | exact Ext.refl _ | assumption | exact held_left (by assumption) | apply Ext.drewN | apply Ext.drew | apply Ext.alloc | (refine Ext.setCell ?_ (by first | (simp; done) | (simp; omega) | omega) _) | (refine Ext.trans ?_ (by assumption)) | (refine Ext.trans ?_ (held_left (by assumption)))))))⟩
      · have e7 : (id == 1) = false := by simpa using h7
        have HR3 := Hid.mk' (HR2.out.trans (if_neg (fun h => h7 h.1)))
        clear h7 HR2
        go_wp2
        go_ret
        exact ⟨ret_int HR3.out.symm, hEw.out⟩

end Go.Proofs.Ytdbepkfblfhlhaa
