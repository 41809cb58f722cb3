/-
Has a relation a column of the key?
-/
import Derived.Test.YtdlhaidlokkmnaaGreatDoorP7
set_option maxRecDepth 100000
set_option maxHeartbeats 16000000
namespace Go.Proofs.YtdlhaidlokkmnaaGreatDoor
open Go.RowKit Go.Shelf
attribute [local go_sem] Oper.semAt_some
theorem fold_two (t : Array Value) (p q : Nat) (u v : Value) : Array.foldl (fun t x => t.setIfInBounds x.1 x.2) t (#[p, q].zip #[u, v]) = (t.setIfInBounds p u).setIfInBounds q v := by
  simp [List.zip_toArray]
theorem keysUp_any {cols : List Col} {k : Nat} (h : keysUp cols k ≠ []) : cols.any Col.key = true := by
  rw [List.any_eq_true]
  obtain ⟨x, hx⟩ := List.exists_mem_of_ne_nil _ h
  obtain ⟨⟨i, c⟩, hi, hc, hk⟩ := x
  exact ⟨c, List.mem_of_getElem? hc, hk⟩
theorem keyed_in (F : Fence) (n : Nat) (h1F : F.fn 143) (hKF : F.fn 116) (hDF : F.fn 87) (hro : F.round = none) (hn : 3 ≤ n) (oid ver : Int) (nm : ByteArray) (id : Int) (cols : List Col) (a : Option Addr) (cap : Nat) (w : World) (hl : Sl w (.slice a cols.length cap) 3 (cols.map Col.cells)) (hlen : cols.length ≤ 1000) :
    CallsIn F n Tryz.prog 87 #[.agg #[.int .u32 oid, .int .u32 ver, .string nm, .int .u8 id, .slice a cols.length cap]] w fun e w' => e = .returned (.bool (cols.any Col.key)) ∧ Ext w w' := by
  have h1 : 1 ≤ n := by omega
  have HL := Hm hl
  clear hl
  refine callsIn_of_wp_marks Tryz.func87 rfl hDF ?_ hro
  simp only [Tryz.ntmps87, List.size_toArray, List.length_cons, List.length_nil, Nat.reduceAdd, Nat.reduceSub, Array.replicate_succ, Array.replicate_zero, List.push_toArray, List.append_toArray, List.nil_append, List.cons_append]
  gi_wp2_with (gi_at_call 116; refine (keys_in F (n - 1) hKF hro _ _ _ _ _ _).mono ?_; rintro e w' ⟨rfl, rfl⟩)
  have hE3 : Ext w (((w.alloc (.cells #[.int .u32 oid, .int .u32 ver, .string nm, .int .u8 id, .slice a cols.length cap] 69)).alloc (.cells #[.bool false] 4)).alloc (.cells #[.int .u32 oid, .int .u32 ver, .string nm, .int .u8 id, .slice a cols.length cap] 69)) := ((Ext.refl w).alloc _).alloc _ |>.alloc _
  have hB1 : Blk (((w.alloc (.cells #[.int .u32 oid, .int .u32 ver, .string nm, .int .u8 id, .slice a cols.length cap] 69)).alloc (.cells #[.bool false] 4)).alloc (.cells #[.int .u32 oid, .int .u32 ver, .string nm, .int .u8 id, .slice a cols.length cap] 69)) (w.heap.size + 1) #[.bool false] 4 := (Blk.new' _ _ (by simp)).alloc _
  have hB2 : Blk (((w.alloc (.cells #[.int .u32 oid, .int .u32 ver, .string nm, .int .u8 id, .slice a cols.length cap] 69)).alloc (.cells #[.bool false] 4)).alloc (.cells #[.int .u32 oid, .int .u32 ver, .string nm, .int .u8 id, .slice a cols.length cap] 69)) (w.heap.size + 1 + 1) #[.int .u32 oid, .int .u32 ver, .string nm, .int .u8 id, .slice a cols.length cap] 69 := Blk.new' _ _ (by simp)
  refine wpIn_rangeFunc_ownG hro h1 (gf := 143) (lb := #[.pointer (some ⟨w.heap.size + 1 + 1, 0, none⟩)]) rfl h1F (enters_of Tryz.func143 (by kernel_rfl) rfl)
    (keys_stops F (n - 1) h1F hro (by omega) (w.heap.size + 1 + 1) w a cap cols hlen HL.out _ hE3 (hB2.cell 4) hB2.lt) belowK_t (belowK_b (by simp; omega)) (Below.refl _ _) (fun _ => rfl)
    (fun pre W => (pre = [] ∧ W.cell? ⟨w.heap.size + 1, 0, none⟩ = some (.bool false) ∧ W.frozen? ⟨w.heap.size + 1, 0, none⟩ = false) ∧ Below w.heap.size w W)
    (fun c pre W => (c = .ret ∧ pre ≠ [] ∧ W.cell? ⟨w.heap.size + 1, 0, none⟩ = some (.bool true)) ∧ Below w.heap.size w W)
    (OwnFrom.and (Own.from (fun s A B row hs hg hr => ⟨hs.1, cell_kept hs.2.1 hg hr, (frozen_kept hs.2.1 hg hr).trans hs.2.2⟩) _) (ownFrom_below (Nat.le_refl _) (by simp; omega)))
    (fun c => OwnFrom.and (Own.from (fun s A B row hs hg hr => ⟨hs.1, hs.2.1, cell_kept hs.2.2 hg hr⟩) _) (ownFrom_below (Nat.le_refl _) (by simp; omega)))
    ⟨⟨rfl, hB1.cell 0, hB1.frozen 0⟩, hE3⟩
    (fun x => { tmps := #[.agg #[.int .u32 oid, .int .u32 ver, .string nm, .int .u8 id, .slice a cols.length cap], .pointer (some ⟨w.heap.size, 0, none⟩), .pointer (some ⟨w.heap.size + 1, 0, none⟩), .agg #[.int .u32 oid, .int .u32 ver, .string nm, .int .u8 id, .slice a cols.length cap], .func (.func 143) #[] #[.pointer (some ⟨w.heap.size + 1 + 1, 0, none⟩)], .int .i64 (x.1.1 : Int), .agg #[.string x.1.2.nm, .int .u8 x.1.2.ty, .bool x.1.2.key]], defers := [] }) ?assign ?body ?done ?stop
  case assign =>
    intro l x W K hK
    unfold encK
    rw [fold_two]
    gi_wp2
    exact hK
  case body =>
    rintro l pre x W ⟨⟨rfl, hc, hf⟩, hB⟩ _
    gi_wp2
    exact ⟨(KeepsOthers.setCell _ _ _).from _, ⟨rfl, by simp, World.cell?_setCell_same' _ _ _ (by rw [hc]; rfl)⟩, hB.setCell (p := ⟨w.heap.size + 1, 0, none⟩) (by simp) _⟩
  case done =>
    rintro D ys W hD hys ⟨⟨rfl, hc, hf⟩, hB⟩ hK
    gi_wp2
    have hK' := (KeepsOthers.setCell W ⟨w.heap.size + 1, 0, none⟩ (.bool false)).same D _ hK rfl
    refine ⟨by simp, .inl ⟨_, _, rfl, run_takeDeferred hK', ?_⟩⟩
    have hc5 := cell_kept (World.cell?_setCell_same' W ⟨w.heap.size + 1, 0, none⟩ (.bool false) (by rw [hc]; rfl)) (grownBy_putObj' _ D (.deferred none)) (fun r e => by cases e; exact ⟨_, hK', rfl⟩)
    refine ⟨.bool false, ?_, by rw [keysUp_none.1 hys.symm], (hB.setCell (p := ⟨w.heap.size + 1, 0, none⟩) (by simp) _).trans (belowK_b (w := w) (Nat.le_refl _) _ D _ _ (by simp at hD; omega) hK' rfl rfl)⟩
    simp [results, Tryz.f87, go_sem, hc5]
  case stop =>
    rintro D c pre W hD ⟨k, hk, rfl⟩ ⟨⟨rfl, hne, hc⟩, hB⟩ hK
    gi_wp2
    refine ⟨by simp, .inl ⟨_, _, rfl, run_takeDeferred hK, ?_⟩⟩
    have hc5 := cell_kept hc (grownBy_putObj' _ D (.deferred none)) (fun r e => by cases e; exact ⟨_, hK, rfl⟩)
    refine ⟨.bool true, ?_, by rw [keysUp_any hne], hB.trans (belowK_b (w := w) (Nat.le_refl _) W D _ _ (by simp at hD; omega) hK rfl rfl)⟩
    simp [results, Tryz.f87, go_sem, hc5]
theorem keyed_any (oid ver : Int) (nm : ByteArray) (id : Int) (cols : List Col) (a : Option Addr) (cap : Nat) (w : World) (hl : Sl w (.slice a cols.length cap) 3 (cols.map Col.cells)) (hlen : cols.length ≤ 1000) :
    Calls Tryz.prog 87 #[.agg #[.int .u32 oid, .int .u32 ver, .string nm, .int .u8 id, .slice a cols.length cap]] w fun e w' => e = .returned (.bool (cols.any Col.key)) ∧ Ext w w' :=
  callsIn_wide.1 (keyed_in Fence.wide 3 trivial trivial trivial rfl (Nat.le_refl _) oid ver nm id cols a cap w hl hlen)
end Go.Proofs.YtdlhaidlokkmnaaGreatDoor
namespace Go.Proofs.YtdlhaidlokkmnaaGreatDoor
open Go.RowKit
theorem Sl.take {w : World} {a : Option Addr} {n cap k : Nat} {xss : List (List Value)} (h : Sl w (.slice a n cap) k xss) {i : Nat} (hi : i ≤ xss.length) : Sl w (.slice a i cap) k (xss.take i) := by
  obtain ⟨a', cap', hv, hs⟩ := h
  simp only [Value.slice.injEq] at hv
  obtain ⟨rfl, -, rfl⟩ := hv
  have hl : (xss.take i).length = i := by rw [List.length_take]; omega
  refine ⟨a, cap, by rw [hl], ?_⟩
  rcases hs with rfl | ⟨b, o, rfl, hb, hc⟩
  · left; simp
  · refine .inr ⟨b, o, rfl, hb, fun j hj q hq => ?_⟩
    rw [hl] at hj
    rw [hc j (by omega) q hq]
    simp [hj]
theorem Rl.right_cols {r : Rl} (h1 : r.oid ≠ 0) (h2 : r.ver ≠ 0) (h3 : namedB r.nm = true) (h4 : r.id ≤ 2) (h5 : 1 ≤ r.cols.length) (h6 : r.cols.length ≤ 16) :
    r.right = if firstE (colAt r.cols) r.cols.length ≠ 0 then firstE (colAt r.cols) r.cols.length else if r.id = 1 ∧ r.cols.any Col.key = false then 13 else 0 := by
  unfold Rl.right
  rw [if_neg (by omega), if_neg (by rw [h3]; simp), if_neg (by omega), if_neg (by omega)]
theorem right8_any (oid ver : Int) (nm : ByteArray) (id : Int) (cols : List Col) (a : Option Addr) (cap : Nat) (w : World) (hl : Sl w (.slice a cols.length cap) 3 (cols.map Col.cells)) (hcap : cols.length ≤ cap) (hlen : cols.length ≤ 1000)
    (hnm : nm.size ≤ 9223372036854775807) (hcs : ∀ c ∈ cols, c.nm.size ≤ 9223372036854775807) :
    Calls Tryz.prog 56 #[.agg #[.int .u32 oid, .int .u32 ver, .string nm, .int .u8 id, .slice a cols.length cap]] w fun e w' => e = .returned (.int .i64 (⟨oid, ver, nm, id, cols⟩ : Rl).right) ∧ Ext w w' := by
  have HN := Hm (fun w => named_any nm w hnm)
  have HK := Hm (fun W (h : Ext w W) => keyed_any oid ver nm id cols a cap W (hl.ext h) hlen)
  have HL := Hm hl
  have HCS := Hm hcs
  clear hl hcs
  by_cases h1 : oid = 0
  · have HR := Hm (show (⟨oid, ver, nm, id, cols⟩ : Rl).right = 4 by unfold Rl.right; rw [if_pos (.inl h1)])
    have e1 : (oid == 0) = true := by simpa using h1
    clear h1
    go_enter Tryz.func56, Tryz.ntmps56
    go_wp2
    go_ret
    exact ⟨ret_int HR.out.symm, by exact eX⟩
  have e1 : (oid == 0) = false := by simpa using h1
  by_cases h2 : ver = 0
  · have HR := Hm (show (⟨oid, ver, nm, id, cols⟩ : Rl).right = 4 by unfold Rl.right; rw [if_pos (.inr h2)])
    have e2 : (ver == 0) = true := by simpa using h2
    clear h2 h1
    go_enter Tryz.func56, Tryz.ntmps56
    go_wp2
    go_ret
    exact ⟨ret_int HR.out.symm, by exact eX⟩
  have e2 : (ver == 0) = false := by simpa using h2
  cases h3 : namedB nm with
  | false =>
    have HR := Hm (show (⟨oid, ver, nm, id, cols⟩ : Rl).right = 3 by unfold Rl.right; rw [if_neg (by simp only; omega), if_pos h3])
    rw [h3] at HN
    clear h3 h2 h1
    go_enter Tryz.func56, Tryz.ntmps56
    go_wp2_with (go_at_call 85; refine (HN.out _).mono ?_; rintro e w1 ⟨rfl, rfl⟩)
    go_ret
    exact ⟨ret_int HR.out.symm, by exact eX⟩
  | true =>
  by_cases h4 : 2 < id
  · have HR := Hm (show (⟨oid, ver, nm, id, cols⟩ : Rl).right = 7 by unfold Rl.right; rw [if_neg (by simp only; omega), if_neg (by simp only [h3]; simp), if_pos h4])
    rw [h3] at HN
    clear h3 h2 h1
    go_enter Tryz.func56, Tryz.ntmps56
    go_wp2_with (go_at_call 85; refine (HN.out _).mono ?_; rintro e w1 ⟨rfl, rfl⟩)
    go_ret
    exact ⟨ret_int HR.out.symm, by exact eX⟩
  by_cases h5 : cols.length < 1
  · have HR := Hm (show (⟨oid, ver, nm, id, cols⟩ : Rl).right = 17 by unfold Rl.right; rw [if_neg (by simp only; omega), if_neg (by simp only [h3]; simp), if_neg (by simp only; omega), if_pos (.inl h5)])
    have h4' : id ≤ 2 := by omega
    rw [h3] at HN
    clear h3 h2 h1
    go_enter Tryz.func56, Tryz.ntmps56
    go_wp2_with (go_at_call 85; refine (HN.out _).mono ?_; rintro e w1 ⟨rfl, rfl⟩)
    go_ret
    exact ⟨ret_int HR.out.symm, by exact eX⟩
  by_cases h6 : 16 < cols.length
  · have HR := Hm (show (⟨oid, ver, nm, id, cols⟩ : Rl).right = 17 by unfold Rl.right; rw [if_neg (by simp only; omega), if_neg (by simp only [h3]; simp), if_neg (by simp only; omega), if_pos (.inr h6)])
    have h4' : id ≤ 2 := by omega
    have h5' : 1 ≤ cols.length := by omega
    rw [h3] at HN
    clear h3 h2 h1
    go_enter Tryz.func56, Tryz.ntmps56
    go_wp2_with (go_at_call 85; refine (HN.out _).mono ?_; rintro e w1 ⟨rfl, rfl⟩)
    go_ret
    exact ⟨ret_int HR.out.symm, by exact eX⟩
  have HR := Hm (Rl.right_cols (r := (⟨oid, ver, nm, id, cols⟩ : Rl)) h1 h2 h3 (by simp only; omega) (by simp only; omega) (by simp only; omega))
  simp only at HR
  rw [h3] at HN
  have h4' : id ≤ 2 := by omega
  have h5' : 1 ≤ cols.length := by omega
  have h6' : cols.length ≤ 16 := by omega
  clear h3 h2 h1 h4 h5 h6
  go_enter Tryz.func56, Tryz.ntmps56
  go_wp2_with (go_at_call 85; refine (HN.out _).mono ?_; rintro e w1 ⟨rfl, rfl⟩)
  go_loopw [40] (fun i wr => ∃ k : Nat, k ≤ cols.length ∧ i = .int .i64 k ∧ Hid (∀ j, j < k → colAt cols j = 0) ∧ Hid (Ext (w.alloc (.cells #[.int .u32 oid, .int .u32 ver, .string nm, .int .u8 id, .slice a cols.length cap] 69)) wr)) (fun i _ => cols.length - (intOf i).toNat)
  case atStart => exact ⟨0, Nat.zero_le _, rfl, fun j h => by omega, Ext.refl _⟩
  case round =>
    obtain ⟨k, hk, rfl, hrel, hE⟩ := hrel
    have hBx := (Blk.new w #[.int .u32 oid, .int .u32 ver, .string nm, .int .u8 id, .slice a cols.length cap] 69).ext hE.out
    have g0 := hBx.cell
    have z0 := hBx.lt
    clear hBx
    by_cases hlt : k < cols.length
    · obtain ⟨b, o, rfl, hb, hx⟩ := HL.out.at_ (i := k) (by simpa using hlt)
      have hEw : Hid (Ext w wr) := Hm (((Ext.refl w).alloc _).trans hE.out)
      obtain ⟨f0, f1, f2⟩ := Col.at_ hlt hx hb hEw.out
      have hbw : b < wr.heap.size := Nat.lt_of_lt_of_le hb hEw.out.size
      have HF := Hm (fun W (h : Ext wr W) => column_any cols[k] (cols.take k) (some ⟨b, o, none⟩) k cap W (by rw [List.length_take]; omega) (by have := (HL.out.ext (hEw.out.trans h)).take (i := k) (by rw [List.length_map]; omega); rwa [← List.map_take] at this) (by rw [List.length_take]; omega) (HCS.out _ (List.getElem_mem hlt)))
      have hAt := colAt_lt hlt
      have q1 : (0 : Int) ≤ (k : Int) := by omega
      have q2 : (k : Int) ≤ (cap : Int) := by omega
      obtain ⟨E, hE0⟩ : ∃ E, E = colE cols[k] (cols.take k) := ⟨_, rfl⟩
      rw [← hE0] at HF hAt
      have HAt := Hm hAt
      clear hx hAt hE0
      by_cases h0 : E = 0
      · subst h0
        go_wp2
        go_region_held3 (fun w' => Ext (wr.alloc (.cells #[.string cols[k].nm, .int .u8 cols[k].ty, .bool cols[k].key] 146)) w' ∧ (∀ b o, b < (wr.alloc (.cells #[.string cols[k].nm, .int .u8 cols[k].ty, .bool cols[k].key] 146)).heap.size → w'.cell? ⟨b, o, none⟩ = (wr.alloc (.cells #[.string cols[k].nm, .int .u8 cols[k].ty, .bool cols[k].key] 146)).cell? ⟨b, o, none⟩) ∧ (∀ b o, b < (wr.alloc (.cells #[.string cols[k].nm, .int .u8 cols[k].ty, .bool cols[k].key] 146)).heap.size → w'.frozen? ⟨b, o, none⟩ = (wr.alloc (.cells #[.string cols[k].nm, .int .u8 cols[k].ty, .bool cols[k].key] 146)).frozen? ⟨b, o, none⟩)) ((exact held_of (by exact eX)))
          (first
            | (go_at_call 86; refine (HF.out _ (by exact eX)).mono ?_; rintro e w2 ⟨rfl, hb2⟩))
        go_wp2
        go_roundw
        case rel => exact ⟨k + 1, by omega, by go_num, fun j hj => by
          by_cases e : j = k
          · subst e; exact HAt.out
          · exact hrel.out j (by omega), Hm (hE.out.trans (by exact eX))⟩
        case measure => simp [intOf]; omega
      · have h0' : (E != 0) = true := by simpa using h0
        have HR2 := Hm (show (⟨oid, ver, nm, id, cols⟩ : Rl).right = E by rw [HR.out, firstE_at hrel.out hlt (by rw [HAt.out]; exact h0), HAt.out, if_pos h0])
        clear h0
        go_wp2
        go_region_held3 (fun w' => Ext (wr.alloc (.cells #[.string cols[k].nm, .int .u8 cols[k].ty, .bool cols[k].key] 146)) w' ∧ (∀ b o, b < (wr.alloc (.cells #[.string cols[k].nm, .int .u8 cols[k].ty, .bool cols[k].key] 146)).heap.size → w'.cell? ⟨b, o, none⟩ = (wr.alloc (.cells #[.string cols[k].nm, .int .u8 cols[k].ty, .bool cols[k].key] 146)).cell? ⟨b, o, none⟩) ∧ (∀ b o, b < (wr.alloc (.cells #[.string cols[k].nm, .int .u8 cols[k].ty, .bool cols[k].key] 146)).heap.size → w'.frozen? ⟨b, o, none⟩ = (wr.alloc (.cells #[.string cols[k].nm, .int .u8 cols[k].ty, .bool cols[k].key] 146)).frozen? ⟨b, o, none⟩)) ((exact held_of (by exact eX)))
          (first
            | (go_at_call 86; refine (HF.out _ (by exact eX)).mono ?_; rintro e w2 ⟨rfl, hb2⟩))
        go_wp2
        go_ret
        exact ⟨ret_int HR2.out.symm, hEw.out.trans (by exact eX)⟩
    · have hkk : k = cols.length := by omega
      have hEw : Hid (Ext w wr) := Hm (((Ext.refl w).alloc _).trans hE.out)
      have HR2 := Hm (show (⟨oid, ver, nm, id, cols⟩ : Rl).right = if id = 1 ∧ cols.any Col.key = false then 13 else 0 by rw [HR.out, firstE_zero (fun i hi => hrel.out i (by omega)), if_neg (by simp)])
      subst hkk
      clear hrel HR
      by_cases h7 : id = 1
      · subst h7
        cases h8 : cols.any Col.key with
        | false =>
          rw [h8] at HK HR2
          clear h8
          go_wp2_with (go_at_call 87; refine (HK.out _ hEw.out).mono ?_; rintro e w2 ⟨rfl, hb2⟩)
          go_ret
          exact ⟨ret_int (by rw [HR2.out]; simp), hEw.out.trans (by exact eX)⟩
        | true =>
          rw [h8] at HK HR2
          clear h8
          go_wp2_with (go_at_call 87; refine (HK.out _ hEw.out).mono ?_; rintro e w2 ⟨rfl, hb2⟩)
          go_ret
          exact ⟨ret_int (by rw [HR2.out]; simp), hEw.out.trans (by exact eX)⟩
      · have e7 : (id == 1) = false := by simpa using h7
        have HR3 := Hm (HR2.out.trans (if_neg (fun h => h7 h.1)))
        clear h7 HR2
        go_wp2
        go_ret
        exact ⟨ret_int HR3.out.symm, hEw.out⟩
end Go.Proofs.YtdlhaidlokkmnaaGreatDoor
