/-
The reference's tables in memory; where a ref's stand.
-/
import Derived.Maps.AppendAt
import Derived.Shelf.SlicesE.Delete
import Derived.Shelf.SlMaps.Clone
import Derived.Test.YtdgalkljngigeaaGreatP9
namespace Go.Proofs.YtdgalkljngigeaaGreat
open Go.RowKit

/-- A slice of the reference's rows lies in a block of such rows. -/
def TagR (W : World) (v : Value) : Prop := ∀ b o n c, v = .slice (some ⟨b, o, none⟩) n c → 0 < n → ∃ cs : Array Value, Blk W b cs 45
theorem TagR.kp {W W' : World} {v : Value} (h : TagR W v) (hb : ∀ b cs, Blk W b cs 45 → Blk W' b cs 45) : TagR W' v := fun b o n c e h0 => by
  obtain ⟨cs, h1⟩ := h b o n c e h0
  exact ⟨cs, hb b cs h1⟩
theorem TagR.ext {W W' : World} {v : Value} (h : TagR W v) (he : Ext W W') : TagR W' v := h.kp fun _ _ h => h.ext he
theorem TagR.of {W : World} {g : Nat} {cs : Array Value} (h : Blk W g cs 45) (o n c : Nat) : TagR W (.slice (some ⟨g, o, none⟩) n c) := fun b o' n' c' e _ => by
  simp only [Value.slice.injEq, Option.some.injEq, Addr.mk.injEq] at e
  obtain ⟨⟨rfl, -, -⟩, -, -⟩ := e
  exact ⟨cs, h⟩
theorem TagR.owns {W : World} {base n size : Nat} {v : Value} {xs : List Value} (h : W.ownsRow base 45 size v n xs) : TagR W v := fun b o n' c e _ => by
  rcases h.2 with ⟨rfl, -⟩ | ⟨g, cap, cur, rfl, -, hb, -⟩
  · cases e
  · simp only [Value.slice.injEq, Option.some.injEq, Addr.mk.injEq] at e
    obtain ⟨⟨rfl, -, -⟩, -, -⟩ := e
    exact ⟨cur, hb⟩
/-- Rows of cells as the reference has them, that lie somewhere. -/
def RwR (W : World) (v : Value) (ls : List (List K)) : Prop := ∃ a c, ∃ qs : List PR, v = .slice a qs.length c ∧ Sl W v 1 (qs.map PR.cell) ∧ (∀ q ∈ qs, Sl W q.val 6 (q.l.map K.rc)) ∧ qs.map PR.l = ls ∧ qs.length ≤ c ∧ TagR W v
theorem RwR.ext {W W' : World} {v : Value} {ls : List (List K)} (h : RwR W v ls) (he : Ext W W') : RwR W' v ls := by
  obtain ⟨a, c, qs, rfl, h1, h2, h3, h4, h5⟩ := h
  exact ⟨a, c, qs, rfl, h1.ext he, fun q hq => (h2 q hq).ext he, h3, h4, h5.ext he⟩
theorem RwR.nil (W : World) : RwR W (.slice none 0 0) [] := ⟨none, 0, [], rfl, ⟨none, 0, rfl, .inl rfl⟩, (fun q h => by cases h), rfl, Nat.le_refl _, (fun b o n c e => by cases e)⟩
/-- Where a ref stands. -/
def plI (rs : List Rl) (o v : Int) : Int := idxI (fun i => isR o v (rs.getD i ⟨0, 0, ⟨#[]⟩, 0, []⟩)) rs.length
theorem isR_at {rs : List Rl} {o v : Int} {i : Nat} (h : i < rs.length) : isR o v (rs.getD i ⟨0, 0, ⟨#[]⟩, 0, []⟩) = decide (rs[i].oid = o ∧ rs[i].ver = v) := by
  rw [List.getD_eq_getElem?_getD, List.getElem?_eq_getElem h]; rfl

set_option maxRecDepth 100000 in set_option maxHeartbeats 4000000 in
theorem rplace_any (ps : List RR) (a : Option Addr) (c : Nat) (ta : Option Addr) (n tc : Nat) (o v : Int) (w : World) (hl : RL w (.slice a ps.length c) ps) (hlen : ps.length ≤ 1000) :
    Calls Tryz.prog 47 #[.agg #[.slice a ps.length c, .slice ta n tc], .agg #[.int .u32 o, .int .u32 v]] w fun e w' => e = .returned (.int .i64 (plI (ps.map RR.r) o v)) ∧ Ext w w' := by
  have HL := Hid.mk' hl.row
  obtain ⟨RES, hRES⟩ : ∃ R, R = plI (ps.map RR.r) o v := ⟨_, rfl⟩
  rw [← hRES]
  have HR := Hid.mk' hRES
  clear hl hRES
  go_enter Tryz.func47, Tryz.ntmps47
  go_wp2
  go_loopw [5] (fun i wr => ∃ k : Nat, k ≤ ps.length ∧ i = .int .i64 k ∧ Hid (∀ j (hj : j < ps.length), j < k → ¬ (ps[j].r.oid = o ∧ ps[j].r.ver = v)) ∧ Hid (Ext ((w.alloc (.cells #[.slice a ps.length c, .slice ta n tc] 56)).alloc (.cells #[.int .u32 o, .int .u32 v] 44)) wr)) (fun i _ => ps.length - (intOf i).toNat)
  case atStart => exact ⟨0, Nat.zero_le _, rfl, Hid.mk' (fun j hj h => by omega), Hid.mk' (Ext.refl _)⟩
  case round =>
    obtain ⟨k, hk, rfl, hrel, hE⟩ := hrel
    have hEw : Ext w wr := (((Ext.refl w).alloc _).alloc _).trans hE.out
    have HB0 := Hid.mk' (((Blk.new w #[.slice a ps.length c, .slice ta n tc] 56).alloc (.cells #[.int .u32 o, .int .u32 v] 44)).ext hE.out)
    have HB1 := Hid.mk' ((Blk.new' (w := w.alloc (.cells #[.slice a ps.length c, .slice ta n tc] 56)) (b := w.heap.size + 1) #[.int .u32 o, .int .u32 v] 44 (by simp)).ext hE.out)
    have g0 := HB0.out.cell
    have z0 := HB0.out.lt
    have g1 := HB1.out.cell
    have z1 := HB1.out.lt
    by_cases hlt : k < ps.length
    · obtain ⟨b, q, rfl, hb, hx⟩ := HL.out.at_ (i := k) (by simpa using hlt)
      obtain ⟨f0, f1, f2, f3, f4⟩ := RR.at_ hlt hx hb hEw
      have hbw : b < wr.heap.size := Nat.lt_of_lt_of_le hb hEw.size
      obtain ⟨p, hp⟩ : ∃ p, p = ps[k]'hlt := ⟨_, rfl⟩
      rw [← hp] at f0 f1 f2 f3 f4
      have HP := Hid.mk' hp
      clear hx hp
      have HEW := Hid.mk' hEw
      have HLT := Hid.mk' hlt
      clear hEw
      by_cases h1 : p.r.oid = o ∧ p.r.ver = v
      · have HG := Hid.mk' (show RES = (k : Int) from by
          rw [HR.out]
          refine idxI_at (fun i hi => ?_) ?_ (by rw [List.length_map]; exact HLT.out)
          · have hi2 : i < ps.length := by have := HLT.out; omega
            rw [isR_at (by rw [List.length_map]; exact hi2), List.getElem_map]
            exact decide_eq_false (hrel.out i hi2 hi)
          · rw [isR_at (by rw [List.length_map]; exact HLT.out), List.getElem_map, ← HP.out]
            exact decide_eq_true h1)
        obtain ⟨e1, e2⟩ := h1
        rw [e1] at f0
        rw [e2] at f1
        go_wp2
        go_region_held3 (fun w' => Ext (wr) w' ∧ (∀ b o, b < (wr).heap.size → w'.cell? ⟨b, o, none⟩ = (wr).cell? ⟨b, o, none⟩) ∧ (∀ b o, b < (wr).heap.size → w'.frozen? ⟨b, o, none⟩ = (wr).frozen? ⟨b, o, none⟩)) ((exact held_of (by exact eX))) (fail)
        go_wp2
        go_ret
        exact ⟨by rw [HG.out]; rfl, HEW.out.trans (by exact eX)⟩
      · have HNO := Hid.mk' h1
        by_cases h2 : p.r.oid = o
        · have h3 : (p.r.ver == v) = false := by simpa using (fun h => h1 ⟨h2, h⟩)
          rw [h2] at f0
          clear h1
          go_wp2
          go_region_held3 (fun w' => Ext (wr) w' ∧ (∀ b o, b < (wr).heap.size → w'.cell? ⟨b, o, none⟩ = (wr).cell? ⟨b, o, none⟩) ∧ (∀ b o, b < (wr).heap.size → w'.frozen? ⟨b, o, none⟩ = (wr).frozen? ⟨b, o, none⟩)) ((exact held_of (by exact eX))) (fail)
          go_wp2
          go_roundw
          case rel => exact ⟨k + 1, HLT.out, by go_num, Hid.mk' (fun j hj hjk => by
            by_cases e : j = k
            · subst e; rw [← HP.out]; exact HNO.out
            · exact hrel.out j hj (by omega)), Hid.mk' (by have hE := hE.out; exact eX)⟩
          case measure => have := HLT.out; simp [intOf]; omega
        · have h3 : (p.r.oid == o) = false := by simpa using h2
          clear h1 h2
          go_wp2
          go_region_held3 (fun w' => Ext (wr) w' ∧ (∀ b o, b < (wr).heap.size → w'.cell? ⟨b, o, none⟩ = (wr).cell? ⟨b, o, none⟩) ∧ (∀ b o, b < (wr).heap.size → w'.frozen? ⟨b, o, none⟩ = (wr).frozen? ⟨b, o, none⟩)) ((exact held_of (by exact eX))) (fail)
          go_wp2
          go_roundw
          case rel => exact ⟨k + 1, HLT.out, by go_num, Hid.mk' (fun j hj hjk => by
            by_cases e : j = k
            · subst e; rw [← HP.out]; exact HNO.out
            · exact hrel.out j hj (by omega)), Hid.mk' (by have hE := hE.out; exact eX)⟩
          case measure => have := HLT.out; simp [intOf]; omega
    · obtain rfl : k = ps.length := by omega
      have HG := Hid.mk' (show RES = -1 from by
        rw [HR.out]
        refine idxI_none (fun i hi => ?_)
        rw [isR_at hi, List.getElem_map]
        rw [List.length_map] at hi
        exact decide_eq_false (hrel.out i hi hi))
      go_wp2
      go_ret
      exact ⟨by rw [HG.out]; rfl, hEw⟩

end Go.Proofs.YtdgalkljngigeaaGreat

/-
Has a relation a column of the key: the reference's answer.
-/
namespace Go.Proofs.YtdgalkljngigeaaGreat
open Go.RowKit

set_option maxRecDepth 100000 in set_option maxHeartbeats 4000000 in
theorem rkd_any (oid ver : Int) (nm : ByteArray) (id : Int) (cols : List Col) (a2 : Option Addr) (cap2 : Nat) (w : World) (hl : Sl w (.slice a2 cols.length cap2) 3 (cols.map Col.cells)) (hlen : cols.length ≤ 1000) :
    Calls Tryz.prog 28 #[.agg #[.int .u32 oid, .int .u32 ver, .string nm, .int .u8 id, .slice a2 cols.length cap2]] w fun e w' => e = .returned (.bool (rkey cols)) ∧ Ext w w' := by
  have HL := Hid.mk' hl
  obtain ⟨RES, hRES⟩ : ∃ R, R = rkey cols := ⟨_, rfl⟩
  rw [← hRES]
  have HR := Hid.mk' hRES
  clear hl hRES
  go_enter Tryz.func28, Tryz.ntmps28
  have HX := Hid.mk' (Blk.new w #[.int .u32 oid, .int .u32 ver, .string nm, .int .u8 id, .slice a2 cols.length cap2] 51)
  go_wp2
  go_loopw [3] (fun i wr => ∃ k : Nat, k ≤ cols.length ∧ i = .int .i64 k ∧ Hid (∀ j (h : j < cols.length), j < k → cols[j].key = false) ∧ Hid (Ext (w.alloc (.cells #[.int .u32 oid, .int .u32 ver, .string nm, .int .u8 id, .slice a2 cols.length cap2] 51)) wr)) (fun i _ => cols.length - (intOf i).toNat)
  case atStart => exact ⟨0, Nat.zero_le _, rfl, Hid.mk' (fun j _ h => by omega), Hid.mk' (Ext.refl _)⟩
  case round =>
    obtain ⟨k, hk, rfl, hz, hE⟩ := hrel
    have gX := (HX.out.ext hE.out).cell
    have zX := (HX.out.ext hE.out).lt
    have HEF := Hid.mk' (show Ext w wr from ((Ext.refl w).alloc _).trans hE.out)
    by_cases hlt : k < cols.length
    · obtain ⟨b, o, rfl, hb, hx⟩ := HL.out.at_ (i := k) (by simpa using hlt)
      obtain ⟨f0, f1, f2⟩ := Col.at_ hlt hx hb HEF.out
      have hbw : b < wr.heap.size := Nat.lt_of_lt_of_le hb HEF.out.size
      have HLT := Hid.mk' hlt
      obtain ⟨B, hB⟩ : ∃ B, B = cols[k].key := ⟨_, rfl⟩
      have f2' : wr.cell? ⟨b, o + k * 3 + 2, none⟩ = some (.bool B) := by rw [hB]; exact f2
      clear f2
      cases hkk : B with
      | true =>
        have HRT := Hid.mk' (show RES = true from by
          rw [HR.out]
          unfold rkey
          exact List.any_eq_true.2 ⟨_, List.getElem_mem hlt, hB.symm.trans hkk⟩)
        rw [hkk] at f2'
        clear hx hkk hB
        go_wp2
        go_ret
        exact ⟨ret_bool HRT.out.symm, HEF.out⟩
      | false =>
        rw [hkk] at f2'
        have HK2 := Hid.mk' (hB.symm.trans hkk)
        clear hx hkk hB
        go_wp2
        go_roundw
        case rel => exact ⟨k + 1, HLT.out, by go_num, Hid.mk' (fun j hj hjk => by
          by_cases e : j = k
          · subst e; exact HK2.out
          · exact hz.out j hj (by omega)), hE⟩
        case measure => have := HLT.out; simp [intOf]; omega
    · obtain rfl : k = cols.length := by omega
      have HRT := Hid.mk' (show RES = false from by
        rw [HR.out]
        unfold rkey
        rw [Bool.eq_false_iff]
        intro h
        obtain ⟨c, hc, h1⟩ := List.any_eq_true.1 h
        obtain ⟨j, hj, rfl⟩ := List.getElem_of_mem hc
        rw [hz.out j hj hj] at h1
        cases h1)
      go_wp2
      go_ret
      exact ⟨ret_bool HRT.out.symm, HEF.out⟩

end Go.Proofs.YtdgalkljngigeaaGreat

/-
Where the first row stands whose key is alike: the reference's answer.
-/
namespace Go.Proofs.YtdgalkljngigeaaGreat
open Go.RowKit

set_option maxRecDepth 100000 in set_option maxHeartbeats 4000000 in
theorem rbyKey_any (oid ver : Int) (nm : ByteArray) (id : Int) (cols : List Col) (a2 : Option Addr) (cap2 : Nat) (v : Value) (ls : List (List K)) (key : List K) (ka : Option Addr) (kc : Nat) (but : Int) (w : World) (hl2 : Sl w (.slice a2 cols.length cap2) 3 (cols.map Col.cells)) (hlen2 : cols.length ≤ 1000)
    (h : RwR w v ls) (hn : ls.length ≤ 1000) (hm : ∀ x ∈ ls, x.length ≤ 1000) (hk : Sl w (.slice ka key.length kc) 6 (key.map K.rc)) (hkn : key.length ≤ 1000) :
    Calls Tryz.prog 54 #[.agg #[.int .u32 oid, .int .u32 ver, .string nm, .int .u8 id, .slice a2 cols.length cap2], v, .slice ka key.length kc, .int .i64 but] w fun e w' => e = .returned (.int .i64 (byKeyI cols ls key but)) ∧ Ext w w' := by
  obtain ⟨a, c, qs, rfl, hrow, hsl, rfl, -⟩ := h
  have HL := Hid.mk' hrow
  have HC := Hid.mk' (fun W (h : Ext w W) l a' c' (hs : Sl W (.slice a' l.length c') 6 (l.map K.rc)) (hn : l.length ≤ 1000) => rkeyOf_any l a' c' oid ver nm id cols a2 cap2 W hs (hl2.ext h) hn hlen2)
  have HKK := Hid.mk' (fun W (h : Ext w W) => HC.out W h key ka kc (hk.ext h) hkn)
  have HKQ := Hid.mk' (fun q (hq : q ∈ qs) W (h : Ext w W) => HC.out W h q.l q.a q.c ((hsl q hq).ext h) (hm _ (List.mem_map_of_mem hq)))
  have HM := Hid.mk' (fun q (hq : q ∈ qs) => hm q.l (List.mem_map_of_mem hq))
  obtain ⟨RES, hRES⟩ : ∃ R, R = byKeyI cols (qs.map PR.l) key but := ⟨_, rfl⟩
  rw [← hRES]
  have HR := Hid.mk' (hRES.trans (show byKeyI cols (qs.map PR.l) key but = idxI (fun i => decide ((i : Int) ≠ but) && keyQ cols ((qs.map PR.l).getD i []) key) qs.length by unfold byKeyI; rw [List.length_map]))
  have HAT := Hid.mk' (fun k (h : k < qs.length) => (show (qs.map PR.l).getD k [] = (qs[k]'h).l by rw [List.getD_eq_getElem?_getD, List.getElem?_map, List.getElem?_eq_getElem h]; rfl))
  rw [List.length_map] at hn
  clear hl2 hrow hsl hm hk hRES
  have HSM := Hid.mk' (fun l (hl : l.length ≤ 1000) W a' c' a'' c'' (h1 : Sl W (.slice a' l.length c') 6 ((keyOf cols l).map K.rc)) (h2 : Sl W (.slice a'' key.length c'') 6 ((keyOf cols key).map K.rc)) => (show Calls Tryz.prog 26 #[.slice a' l.length c', .slice a'' key.length c''] W (fun e w' => e = .returned (.bool (keyQ cols l key)) ∧ Ext W w') from by
    have h3 := rsame_any (keyOf cols l) (keyOf cols key) a' a'' c' c'' W (by rw [keyOf_len]; exact h1) (by rw [keyOf_len]; exact h2) (by rw [keyOf_len]; exact hl) (by rw [keyOf_len]; exact hkn)
    rw [keyOf_len, keyOf_len] at h3
    exact h3))
  clear HC
  go_enter Tryz.func54, Tryz.ntmps54
  have HX := Hid.mk' (Blk.new w #[.int .u32 oid, .int .u32 ver, .string nm, .int .u8 id, .slice a2 cols.length cap2] 51)
  go_wp2
  go_loopw [9] (fun i wr => ∃ k : Nat, k ≤ qs.length ∧ i = .int .i64 k ∧ Hid (∀ j, j < k → (decide ((j : Int) ≠ but) && keyQ cols ((qs.map PR.l).getD j []) key) = false) ∧ Hid (Ext (w.alloc (.cells #[.int .u32 oid, .int .u32 ver, .string nm, .int .u8 id, .slice a2 cols.length cap2] 51)) wr)) (fun i _ => qs.length - (intOf i).toNat)
  case atStart => exact ⟨0, Nat.zero_le _, rfl, Hid.mk' (fun j h => by omega), Hid.mk' (Ext.refl _)⟩
  case round =>
    obtain ⟨k, hk, rfl, hz, hE⟩ := hrel
    have HEF := Hid.mk' (show Ext w wr from ((Ext.refl w).alloc _).trans hE.out)
    have gX := (HX.out.ext hE.out).cell
    have zX := (HX.out.ext hE.out).lt
    by_cases hlt : k < qs.length
    · obtain ⟨b, o, rfl, hb, hx⟩ := HL.out.at_ (i := k) (by simpa using hlt)
      have f0 := PR.at_ hlt hx hb HEF.out
      have hbw : b < wr.heap.size := Nat.lt_of_lt_of_le hb HEF.out.size
      have HKW := Hid.mk' (HKQ.out _ (List.getElem_mem hlt))
      have HMK := Hid.mk' (HM.out _ (List.getElem_mem hlt))
      have HATK := Hid.mk' (HAT.out k hlt)
      obtain ⟨q, hq⟩ : ∃ q, q = qs[k]'hlt := ⟨_, rfl⟩
      rw [← hq] at f0 HKW HMK HATK
      clear hq hx hb
      obtain ⟨ql, qa, qc⟩ := q
      simp only at f0 HKW HMK HATK
      have HLT := Hid.mk' hlt
      by_cases hbut : (k : Int) = but
      · subst hbut
        go_wp2
        refine wp_region_head 14 (fun w' => Ext (wr) w' ∧ (∀ b o, b < (wr).heap.size → w'.cell? ⟨b, o, none⟩ = (wr).cell? ⟨b, o, none⟩) ∧ (∀ b o, b < (wr).heap.size → w'.frozen? ⟨b, o, none⟩ = (wr).frozen? ⟨b, o, none⟩)) (by kernel_rfl) (by decide) ?_
        have hA0 : Hid ((fun w' => Ext (wr) w' ∧ (∀ b o, b < (wr).heap.size → w'.cell? ⟨b, o, none⟩ = (wr).cell? ⟨b, o, none⟩) ∧ (∀ b o, b < (wr).heap.size → w'.frozen? ⟨b, o, none⟩ = (wr).frozen? ⟨b, o, none⟩)) wr.drew) := held_of (by exact eX)
        refine HG.on 0 16 hA0.out ?_
        try simp only [Act.put, List.setIfInBounds_toArray, List.set_cons_zero, List.set_cons_succ]
        refine HG.on 1 17 hA0.out ?_
        try simp only [Act.put, List.setIfInBounds_toArray, List.set_cons_zero, List.set_cons_succ]
        refine HG.on 2 18 hA0.out ?_
        try simp only [Act.put, List.setIfInBounds_toArray, List.set_cons_zero, List.set_cons_succ]
        refine HG.on 3 19 hA0.out ?_
        try simp only [Act.put, List.setIfInBounds_toArray, List.set_cons_zero, List.set_cons_succ]
        refine wpHd_takeD (i := 4) (d := some 20) (v := undef) rfl rfl (by kernel_rfl) (by kernel_rfl) (by kernel_rfl) (fun _ _ _ h => h) (Or.inr ⟨by rfl, rfl⟩) hA0.out ?_
        try simp only [Act.put, List.setIfInBounds_toArray, List.set_cons_zero, List.set_cons_succ]
        refine wpHd_takeD (i := 5) (d := some 21) (v := undef) rfl rfl (by kernel_rfl) (by kernel_rfl) (by kernel_rfl) (fun _ _ _ h => h) (Or.inr ⟨by rfl, rfl⟩) hA0.out ?_
        try simp only [Act.put, List.setIfInBounds_toArray, List.set_cons_zero, List.set_cons_succ]
        refine wpHd_takeD (i := 6) (d := some 22) (v := undef) rfl rfl (by kernel_rfl) (by kernel_rfl) (by kernel_rfl) (fun _ _ _ h => h) (Or.inr ⟨by rfl, rfl⟩) hA0.out ?_
        try simp only [Act.put, List.setIfInBounds_toArray, List.set_cons_zero, List.set_cons_succ]
        refine wpHd_takeD (i := 7) (d := some 23) (v := undef) rfl rfl (by kernel_rfl) (by kernel_rfl) (by kernel_rfl) (fun _ _ _ h => h) (Or.inr ⟨by rfl, rfl⟩) hA0.out ?_
        try simp only [Act.put, List.setIfInBounds_toArray, List.set_cons_zero, List.set_cons_succ]
        refine wpHd_takeD (i := 8) (d := some 24) (v := undef) rfl rfl (by kernel_rfl) (by kernel_rfl) (by kernel_rfl) (fun _ _ _ h => h) (Or.inr ⟨by rfl, rfl⟩) hA0.out ?_
        try simp only [Act.put, List.setIfInBounds_toArray, List.set_cons_zero, List.set_cons_succ]
        refine wpHd_takeD (i := 9) (d := some 25) (v := undef) rfl rfl (by kernel_rfl) (by kernel_rfl) (by kernel_rfl) (fun _ _ _ h => h) (Or.inr ⟨by rfl, rfl⟩) hA0.out ?_
        try simp only [Act.put, List.setIfInBounds_toArray, List.set_cons_zero, List.set_cons_succ]
        refine wpHd_takeD (i := 10) (d := some 26) (v := undef) rfl rfl (by kernel_rfl) (by kernel_rfl) (by kernel_rfl) (fun _ _ _ h => h) (Or.inr ⟨by rfl, rfl⟩) hA0.out ?_
        try simp only [Act.put, List.setIfInBounds_toArray, List.set_cons_zero, List.set_cons_succ]
        refine wpHd_takeD (i := 11) (d := some 27) (v := undef) rfl rfl (by kernel_rfl) (by kernel_rfl) (by kernel_rfl) (fun _ _ _ h => h) (Or.inr ⟨by rfl, rfl⟩) hA0.out ?_
        try simp only [Act.put, List.setIfInBounds_toArray, List.set_cons_zero, List.set_cons_succ]
        refine wpHd_takeD (i := 12) (d := some 28) (v := undef) rfl rfl (by kernel_rfl) (by kernel_rfl) (by kernel_rfl) (fun _ _ _ h => h) (Or.inr ⟨by rfl, rfl⟩) hA0.out ?_
        try simp only [Act.put, List.setIfInBounds_toArray, List.set_cons_zero, List.set_cons_succ]
        refine wpHd_takeD (i := 13) (d := some 29) (v := undef) rfl rfl (by kernel_rfl) (by kernel_rfl) (by kernel_rfl) (fun _ _ _ h => h) (Or.inr ⟨by rfl, rfl⟩) hA0.out ?_
        try simp only [Act.put, List.setIfInBounds_toArray, List.set_cons_zero, List.set_cons_succ]
        refine wpHd_tail (by kernel_rfl) ?_
        simp only [List.drop_succ_cons, List.drop_zero]
        go_wp2
        go_roundw
        case rel => exact ⟨k + 1, HLT.out, by go_num, Hid.mk' (fun j hj => by
          by_cases e : j = k
          · subst e; simp
          · exact hz.out j (by omega)), Hid.mk' (by have := hE.out; exact eX)⟩
        case measure => have := HLT.out; simp [intOf]; omega
      · have hne : ((k : Int) != but) = true := by simpa using hbut
        have HNB := Hid.mk' hbut
        have HSK := Hid.mk' (HSM.out ql HMK.out)
        obtain ⟨B, hB⟩ : ∃ B, B = keyQ cols ql key := ⟨_, rfl⟩
        rw [← hB] at HSK
        have HBB := Hid.mk' hB
        clear hB hbut
        cases B
        all_goals
          go_wp2
          go_region_held3 (fun w' => Ext (wr) w' ∧ (∀ b o, b < (wr).heap.size → w'.cell? ⟨b, o, none⟩ = (wr).cell? ⟨b, o, none⟩) ∧ (∀ b o, b < (wr).heap.size → w'.frozen? ⟨b, o, none⟩ = (wr).frozen? ⟨b, o, none⟩)) ((exact held_of (by exact eX))) (first
            | (go_at_call 29; refine (HKW.out _ (HEF.out.trans (by exact eX))).mono ?_; rintro e w3 ⟨a3, c3, rfl, hs3, hb3⟩; have HS3 := Hid.mk' hs3; have HB3 : Hid (Ext wr w3) := Hid.mk' (by exact eX); clear hs3 HKW)
            | (go_at_call 29; refine (HKK.out _ (HEF.out.trans HB3.out)).mono ?_; rintro e w4 ⟨a4, c4, rfl, hs4, hb4⟩; have HS4 := Hid.mk' hs4; have HB4 : Hid (Ext wr w4) := Hid.mk' (HB3.out.trans hb4); have HS34 := Hid.mk' (HS3.out.ext hb4); clear hs4)
            | (go_at_call 26; refine (HSK.out _ _ _ _ _ HS34.out HS4.out).mono ?_; rintro e w5 ⟨rfl, hb5⟩; have HB5 : Hid (Ext wr w5) := Hid.mk' (HB4.out.trans hb5)))
          go_wp2
        · go_roundw
          case rel => exact ⟨k + 1, HLT.out, by go_num, Hid.mk' (fun j hj => by
            by_cases e : j = k
            · subst e; rw [HATK.out, ← HBB.out]; simp
            · exact hz.out j (by omega)), Hid.mk' (hE.out.trans HB5.out)⟩
          case measure => have := HLT.out; simp [intOf]; omega
        · have HG := Hid.mk' (show RES = (k : Int) from by
            rw [HR.out]
            refine idxI_at hz.out ?_ HLT.out
            rw [HATK.out, ← HBB.out, decide_eq_true HNB.out]; rfl)
          go_ret
          exact ⟨by rw [HG.out]; rfl, HEF.out.trans HB5.out⟩
    · obtain rfl : k = qs.length := by omega
      have HG := Hid.mk' (show RES = -1 from by
        rw [HR.out]
        exact idxI_none hz.out)
      go_wp2
      go_ret
      exact ⟨by rw [HG.out]; rfl, HEF.out⟩

end Go.Proofs.YtdgalkljngigeaaGreat

/-
Append of any row, nil or not, to what a call owns.
-/
namespace Go.Proofs.YtdgalkljngigeaaGreat
open Go.RowKit

theorem run_app_nil {P : Program} {w : World} (base : Nat) (t ty e : TypeId) (i : TypeInfo) (size : Nat) (ht : P.underlying t = some (.slice e)) (hi : P.info? e = some i)
    (v : Value) (n : Nat) (xs : List Value) (hown : w.ownsRow base e size v n xs) (c : Nat) : (Builtin.append_ #[t, t] ty #[v, .slice none 0 c]).run P w = .ok v w := by
  rcases hown.2 with ⟨rfl, rfl⟩ | ⟨g, cap, cur, rfl, _, _, hnc, _⟩
  · simp [Builtin.append_, run_underlying ht, sizeOf, typeInfo, hi, Builtin.lenOf, Builtin.firstCells]
  · simp [Builtin.append_, run_underlying ht, sizeOf, typeInfo, hi, Builtin.lenOf, Builtin.firstCells, hnc, storeCells]
theorem news_sl {w : World} {b o k : Nat} {xss : List (List Value)} (hk0 : 0 < k) (hk : ∀ ys ∈ xss, ys.length = k) (h : ∀ i, i < xss.length → ∀ j, j < k → w.cell? ⟨b, o + i * k + j, none⟩ = (xss.getD i [])[j]?) :
    ∀ j u, xss.flatten[j]? = some u → w.cell? ((⟨b, o, none⟩ : Addr).add j) = some u := by
  intro j u hj
  have hjl : j < xss.length * k := by
    rcases Nat.lt_or_ge j (xss.length * k) with h | h
    · exact h
    · rw [List.getElem?_eq_none (by rw [flat_length k xss hk]; exact h)] at hj; cases hj
  have hplain : (⟨b, o, none⟩ : Addr).add j = ⟨b, o + j, none⟩ := by unfold Addr.add; split <;> simp_all
  have hi : j / k < xss.length := (Nat.div_lt_iff_lt_mul hk0).2 hjl
  have hq := flat_get k xss hk (j / k) hi (j % k) (Nat.mod_lt _ hk0)
  have hm : j / k * k + j % k = j := by rw [Nat.mul_comm]; exact Nat.div_add_mod j k
  rw [hm] at hq
  rw [hplain, ← hj, hq, ← h (j / k) hi (j % k) (Nat.mod_lt _ hk0), Nat.add_assoc, hm]

set_option maxRecDepth 20000 in
theorem wpList_append_sl {P : Program} {w : World} {ops : Array Oper} {rest : List Oper} {o : Oper} {a : Act} {Q : Exit → Act → World → Prop} (hgd : o.guard = none) (s x : Operand) (t : TypeId)
    (ho : o.op = .call { callee := .builtin .append, args := #[s, x], argTypes := #[t, t] })
    (base : Nat) (e : TypeId) (i : TypeInfo) (z : Value) (size bytes : Nat) (ht : P.underlying t = some (.slice e)) (hi : P.info? e = some i) (hz : i.zero = some z)
    (hsize : i.size = size) (hby : i.bytes = bytes) (hzs : z.cells.size = size) (hsz : 0 < size)
    (v : Value) (n : Nat) (xs : List Value) (hs : a.eval s = v) (hown : w.ownsRow base e size v n xs) (u : Value) (xss : List (List Value)) (hx : a.eval x = u) (hu : Sl w u size xss)
    (hk : ∀ ys ∈ xss, ys.length = size) (h1 : ∀ y ∈ xss.flatten, y.oneCell' = true) (h63 : n + xss.length ≤ maxLen) (hbytes : (n + xss.length) * bytes ≤ 140737488355328) (hbase : base ≤ w.heap.size)
    (h : ∀ v' w', w'.ownsRow base e size v' (n + xss.length) (xs ++ xss.flatten) → w.grownBy w' v.ownBlock → (v'.ownBlock = v.ownBlock ∨ v'.ownBlock = some w.heap.size) → wpList P ops Q rest (a.put o.dst v') w') : wpList P ops Q (o :: rest) a w := by
  obtain ⟨A, cap, rfl, hcs⟩ := hu
  have key : ∃ v' w', (Builtin.append_ #[t, t] o.type #[v, .slice A xss.length cap]).run P w = .ok v' w' ∧ w'.ownsRow base e size v' (n + xss.length) (xs ++ xss.flatten) ∧ w.grownBy w' v.ownBlock ∧ (v'.ownBlock = v.ownBlock ∨ v'.ownBlock = some w.heap.size) := by
    rcases A with _ | ad
    · have h0 : xss = [] := by
        rcases hcs with h | ⟨b, o, e, _⟩
        · exact h
        · cases e
      subst h0
      exact ⟨v, w, run_app_nil base t o.type e i size ht hi v n xs hown cap, by simpa using hown, ⟨rfl, rfl, rfl, Nat.le_refl _, fun _ _ _ => rfl⟩, .inl rfl⟩
    · have hn : ∀ j u, xss.flatten[j]? = some u → w.cell? (ad.add j) = some u := by
        rcases hcs with h | ⟨b, o', e', _, hc⟩
        · subst h; intro j u hj; simp at hj
        · cases e'
          exact news_sl hsz hk hc
      obtain ⟨v', w', hr, h2, h3, _, h5⟩ := run_append_own_at (P := P) w base t o.type e i z size bytes ht hi hz hsize hby hzs hsz v n xs hown ad xss.length cap xss.flatten (flat_length size xss hk) hn h1 h63 hbytes hbase
      exact ⟨v', w', hr, h2, h3, h5⟩
  obtain ⟨v', w', hrun, h2, h3, h4⟩ := key
  refine wpList_plain hgd fun K hK => ?_
  unfold Oper.wp execOp
  simp only [ho, resolve, invoke, builtin, Sem.run_bind, Sem.run_pure, Result.andThen_ok, List.map_toArray, List.map_cons, List.map_nil, hs, hx, hrun]
  exact hK _ _ (h v' w' h2 h3 h4)

end Go.Proofs.YtdgalkljngigeaaGreat

/-
The reference's Merge.
-/
namespace Go.Proofs.YtdgalkljngigeaaGreat
open Go.RowKit

set_option maxRecDepth 100000 in set_option maxHeartbeats 4000000 in
theorem rmerge_any (lb l : List K) (ab a : Option Addr) (cb cap : Nat) (w : World) (hb : Sl w (.slice ab lb.length cb) 6 (lb.map K.rc)) (hl : Sl w (.slice a l.length cap) 6 (l.map K.rc)) (hlb : lb.length ≤ 1000) (hlen : l.length ≤ 1000) :
    Calls Tryz.prog 75 #[.slice ab lb.length cb, .slice a l.length cap] w fun e w' => ∃ a' cap', e = .returned (.slice a' l.length cap') ∧ Sl w' (.slice a' l.length cap') 6 ((mergeK lb l).map K.rc) ∧ Ext w w' := by
  have HL := Hid.mk' hl
  have HB := Hid.mk' hb
  clear hl hb
  obtain ⟨i0, hi, hz0, hz1, hz2⟩ := info_parts Tryz.infoCellR
  go_enter Tryz.func75, Tryz.ntmps75
  go_wp2
  go_loopw [5, 6] (fun v i wr => ∃ k : Nat, k ≤ l.length ∧ i = .int .i64 k ∧ Hid (wr.ownsRow w.heap.size 119 6 v k (((mergeK lb l).map K.rc).take k).flatten) ∧ Hid (Ext w wr)) (fun _ i _ => l.length - (intOf i).toNat)
  case atStart => exact ⟨0, Nat.zero_le _, rfl, World.ownsRow_nil _ _ _ _, Ext.refl _⟩
  case round =>
    obtain ⟨k, hk, rfl, hown, hE⟩ := hrel
    by_cases hlt : k < l.length
    · obtain ⟨b, o, rfl, hbb, hx⟩ := HL.out.at_ (i := k) (by simpa using hlt)
      obtain ⟨f0, f1, f2, f3, f4, f5⟩ := K.rcAt hlt hx hbb hE.out
      have hbw : b < wr.heap.size := Nat.lt_of_lt_of_le hbb hE.out.size
      have hkl : k < (mergeK lb l).length := by rw [mergeK_len]; exact hlt
      have HT := Hid.mk' (flat_snoc (f := K.rc) hkl)
      rw [mergeK_get] at HT
      clear hx
      obtain ⟨c, hc⟩ : ∃ c, c = l[k] := ⟨_, rfl⟩
      rw [← hc] at f0 f1 f2 f3 f4 f5 HT
      clear hc
      by_cases h1 : c.k = 1
      · have h1' : (c.k == 1) = true := by simpa using h1
        rw [if_pos h1] at HT
        clear h1
        by_cases h2 : k < lb.length
        · obtain ⟨b2, o2, rfl, hbb2, hx2⟩ := HB.out.at_ (i := k) (by simpa using h2)
          obtain ⟨p0, p1, p2, p3, p4, p5⟩ := K.rcAt h2 hx2 hbb2 hE.out
          have hbw2 : b2 < wr.heap.size := Nat.lt_of_lt_of_le hbb2 hE.out.size
          rw [List.getElem?_eq_getElem h2, Option.getD_some] at HT
          obtain ⟨d, hd⟩ : ∃ d, d = lb[k] := ⟨_, rfl⟩
          rw [← hd] at p0 p1 p2 p3 p4 p5 HT
          clear hd hx2
          go_wp2_with (at_builtin; refine wpList_append_own _ rfl _ _ 45 rfl w.heap.size 119 i0 _ 6 56 Tryz.underlying45 hi hz0 hz1 hz2 rfl (by decide) _ _ _ rfl (hown.out.alloc _) ⟨_, 0, none⟩ 1 1 d.rc rfl rfl ?c1 ?c2 ?c3 ?c4 ?c5 ?_)
          case c1 => exact cells_new _ #[.int .u8 d.k, .int .u8 d.v.ty, .int .i64 d.v.n, .int .u64 d.v.x, .int .u64 d.v.y, .string d.v.s] _
          case c2 => intro u hu; simp [K.rc] at hu; rcases hu with rfl | rfl | rfl | rfl | rfl | rfl <;> rfl
          case c3 => unfold maxLen; omega
          case c4 => omega
          case c5 => have := hE.out.size; simp; omega
          intro v' w2 hown' hgrow _
          have HE2 := Hid.mk' (Below.grown (hE.out.alloc _) hgrow (by have := hE.out.size; rw [World.size_alloc]; omega) (fun g hg => (hown.out.lt g hg).1))
          have HO2 := Hid.mk' hown'
          clear hown' hgrow
          go_wp2
          go_roundw
          case rel => exact ⟨k + 1, by omega, by go_num, Hid.mk' (by rw [HT.out]; exact HO2.out), HE2⟩
          case measure => simp [intOf]; omega
        · have h2' : lb.length ≤ k := by omega
          rw [List.getElem?_eq_none h2', Option.getD_none] at HT
          go_wp2_with (at_builtin; refine wpList_append_own _ rfl _ _ 45 rfl w.heap.size 119 i0 _ 6 56 Tryz.underlying45 hi hz0 hz1 hz2 rfl (by decide) _ _ _ rfl (hown.out.alloc _) ⟨_, 0, none⟩ 1 1 c.rc rfl rfl ?c1 ?c2 ?c3 ?c4 ?c5 ?_)
          case c1 => exact cells_new _ #[.int .u8 c.k, .int .u8 c.v.ty, .int .i64 c.v.n, .int .u64 c.v.x, .int .u64 c.v.y, .string c.v.s] _
          case c2 => intro u hu; simp [K.rc] at hu; rcases hu with rfl | rfl | rfl | rfl | rfl | rfl <;> rfl
          case c3 => unfold maxLen; omega
          case c4 => omega
          case c5 => have := hE.out.size; simp; omega
          intro v' w2 hown' hgrow _
          have HE2 := Hid.mk' (Below.grown (hE.out.alloc _) hgrow (by have := hE.out.size; rw [World.size_alloc]; omega) (fun g hg => (hown.out.lt g hg).1))
          have HO2 := Hid.mk' hown'
          clear hown' hgrow
          go_wp2
          go_roundw
          case rel => exact ⟨k + 1, by omega, by go_num, Hid.mk' (by rw [HT.out]; exact HO2.out), HE2⟩
          case measure => simp [intOf]; omega
      · have h1' : (c.k == 1) = false := by simpa using h1
        rw [if_neg h1] at HT
        clear h1
        go_wp2_with (at_builtin; refine wpList_append_own _ rfl _ _ 45 rfl w.heap.size 119 i0 _ 6 56 Tryz.underlying45 hi hz0 hz1 hz2 rfl (by decide) _ _ _ rfl (hown.out.alloc _) ⟨_, 0, none⟩ 1 1 c.rc rfl rfl ?c1 ?c2 ?c3 ?c4 ?c5 ?_)
        case c1 => exact cells_new _ #[.int .u8 c.k, .int .u8 c.v.ty, .int .i64 c.v.n, .int .u64 c.v.x, .int .u64 c.v.y, .string c.v.s] _
        case c2 => intro u hu; simp [K.rc] at hu; rcases hu with rfl | rfl | rfl | rfl | rfl | rfl <;> rfl
        case c3 => unfold maxLen; omega
        case c4 => omega
        case c5 => have := hE.out.size; simp; omega
        intro v' w2 hown' hgrow _
        have HE2 := Hid.mk' (Below.grown (hE.out.alloc _) hgrow (by have := hE.out.size; rw [World.size_alloc]; omega) (fun g hg => (hown.out.lt g hg).1))
        have HO2 := Hid.mk' hown'
        clear hown' hgrow
        go_wp2
        go_roundw
        case rel => exact ⟨k + 1, by omega, by go_num, Hid.mk' (by rw [HT.out]; exact HO2.out), HE2⟩
        case measure => simp [intOf]; omega
    · have hkk : k = l.length := by omega
      subst hkk
      rw [show l.length = ((mergeK lb l).map K.rc).length by rw [List.length_map, mergeK_len], List.take_length] at hown
      rw [List.length_map, mergeK_len] at hown
      obtain ⟨a', c', rfl⟩ := owns_shape hown.out
      go_wp2
      go_ret
      refine ⟨a', c', rfl, Sl.of_owns (base := w.heap.size) (e := 119) ?_ ?_, hE.out⟩
      · rw [List.length_map, mergeK_len]; exact hown.out
      · intro xs hxs; simp at hxs; obtain ⟨a, _, rfl⟩ := hxs; rfl

end Go.Proofs.YtdgalkljngigeaaGreat

/-
Has a relation a column of the key? The tables' own asking.
-/
namespace Go.Proofs.YtdgalkljngigeaaGreat
open Go.RowKit Go.Shelf
attribute [local go_sem] Oper.semAt_some

set_option maxRecDepth 100000 in
set_option maxHeartbeats 2000000 in
theorem tkeyed_in (F : Fence) (n : Nat) (h1F : F.fn 98) (hKF : F.fn 76) (hDF : F.fn 50) (hro : F.round = none) (hn : 3 ≤ n) (oid ver : Int) (nm : ByteArray) (id : Int) (cols : List Col) (a : Option Addr) (cap : Nat) (w : World) (hl : Sl w (.slice a cols.length cap) 3 (cols.map Col.cells)) (hlen : cols.length ≤ 1000) :
    CallsIn F n Tryz.prog 50 #[.agg #[.int .u32 oid, .int .u32 ver, .string nm, .int .u8 id, .slice a cols.length cap]] w fun e w' => e = .returned (.bool (cols.any Col.key)) ∧ Ext w w' := by
  have h1 : 1 ≤ n := by omega
  have HL := Hid.mk' hl
  clear hl
  refine callsIn_of_wp_marks Tryz.func50 rfl hDF ?_ hro
  simp only [Tryz.ntmps50, List.size_toArray, List.length_cons, List.length_nil, Nat.reduceAdd, Nat.reduceSub, Array.replicate_succ, Array.replicate_zero, List.push_toArray, List.append_toArray, List.nil_append, List.cons_append]
  gi_wp2_with (gi_at_call 76; refine (keys_in F (n - 1) hKF hro _ _ _ _ _ _).mono ?_; rintro e w' ⟨rfl, rfl⟩)
  have hE3 : Ext w (((w.alloc (.cells #[.int .u32 oid, .int .u32 ver, .string nm, .int .u8 id, .slice a cols.length cap] 99)).alloc (.cells #[.bool false] 4)).alloc (.cells #[.int .u32 oid, .int .u32 ver, .string nm, .int .u8 id, .slice a cols.length cap] 99)) := ((Ext.refl w).alloc _).alloc _ |>.alloc _
  have hB1 : Blk (((w.alloc (.cells #[.int .u32 oid, .int .u32 ver, .string nm, .int .u8 id, .slice a cols.length cap] 99)).alloc (.cells #[.bool false] 4)).alloc (.cells #[.int .u32 oid, .int .u32 ver, .string nm, .int .u8 id, .slice a cols.length cap] 99)) (w.heap.size + 1) #[.bool false] 4 := (Blk.new' _ _ (by simp)).alloc _
  have hB2 : Blk (((w.alloc (.cells #[.int .u32 oid, .int .u32 ver, .string nm, .int .u8 id, .slice a cols.length cap] 99)).alloc (.cells #[.bool false] 4)).alloc (.cells #[.int .u32 oid, .int .u32 ver, .string nm, .int .u8 id, .slice a cols.length cap] 99)) (w.heap.size + 1 + 1) #[.int .u32 oid, .int .u32 ver, .string nm, .int .u8 id, .slice a cols.length cap] 99 := Blk.new' _ _ (by simp)
  refine wpIn_rangeFunc_ownG hro h1 (gf := 98) (lb := #[.pointer (some ⟨w.heap.size + 1 + 1, 0, none⟩)]) rfl h1F (enters_of Tryz.func98 (by kernel_rfl) rfl)
    (keys_stops F (n - 1) h1F hro (by omega) (w.heap.size + 1 + 1) w a cap cols hlen HL.out _ hE3 (hB2.cell 4) hB2.lt) belowK_t (belowK_b (by simp; omega)) (Below.refl _ _) (fun _ => rfl)
    (fun pre W => (pre = [] ∧ W.cell? ⟨w.heap.size + 1, 0, none⟩ = some (.bool false) ∧ W.frozen? ⟨w.heap.size + 1, 0, none⟩ = false) ∧ Below w.heap.size w W)
    (fun c pre W => (c = .ret ∧ pre ≠ [] ∧ W.cell? ⟨w.heap.size + 1, 0, none⟩ = some (.bool true)) ∧ Below w.heap.size w W)
    (OwnFrom.and (Own.from (fun s A B row hs hg hr => ⟨hs.1, cell_kept hs.2.1 hg hr, (frozen_kept hs.2.1 hg hr).trans hs.2.2⟩) _) (ownFrom_below (Nat.le_refl _) (by simp; omega)))
    (fun c => OwnFrom.and (Own.from (fun s A B row hs hg hr => ⟨hs.1, hs.2.1, cell_kept hs.2.2 hg hr⟩) _) (ownFrom_below (Nat.le_refl _) (by simp; omega)))
    ⟨⟨rfl, hB1.cell 0, hB1.frozen 0⟩, hE3⟩
    (fun x => { tmps := #[.agg #[.int .u32 oid, .int .u32 ver, .string nm, .int .u8 id, .slice a cols.length cap], .pointer (some ⟨w.heap.size, 0, none⟩), .pointer (some ⟨w.heap.size + 1, 0, none⟩), .agg #[.int .u32 oid, .int .u32 ver, .string nm, .int .u8 id, .slice a cols.length cap], .func (.func 98) #[] #[.pointer (some ⟨w.heap.size + 1 + 1, 0, none⟩)], .int .i64 (x.1.1 : Int), .agg #[.string x.1.2.nm, .int .u8 x.1.2.ty, .bool x.1.2.key]], defers := [] }) ?assign ?body ?done ?stop
  case assign =>
    intro l x W K hK
    unfold encK
    rw [fold_two]
    gi_wp2
    exact hK
  case body =>
    rintro l pre x W ⟨⟨rfl, hc, hf⟩, hB⟩ _
    gi_wp2
    exact ⟨(KeepsOthers.setCell _ _ _).from _, ⟨rfl, by simp, World.cell?_setCell_same' _ _ _ (by rw [hc]; rfl)⟩, hB.setCell (p := ⟨w.heap.size + 1, 0, none⟩) (by simp) _⟩
  case done =>
    rintro D ys W hD hys ⟨⟨rfl, hc, hf⟩, hB⟩ hK
    gi_wp2
    have hK' := (KeepsOthers.setCell W ⟨w.heap.size + 1, 0, none⟩ (.bool false)).same D _ hK rfl
    refine ⟨by simp, .inl ⟨_, _, rfl, run_takeDeferred hK', ?_⟩⟩
    have hc5 := cell_kept (World.cell?_setCell_same' W ⟨w.heap.size + 1, 0, none⟩ (.bool false) (by rw [hc]; rfl)) (grownBy_putObj' _ D (.deferred none)) (fun r e => by cases e; exact ⟨_, hK', rfl⟩)
    refine ⟨.bool false, ?_, by rw [keysUp_none.1 hys.symm], (hB.setCell (p := ⟨w.heap.size + 1, 0, none⟩) (by simp) _).trans (belowK_b (w := w) (Nat.le_refl _) _ D _ _ (by simp at hD; omega) hK' rfl rfl)⟩
    simp [results, Tryz.f50, go_sem, hc5]
  case stop =>
    rintro D c pre W hD ⟨k, hk, rfl⟩ ⟨⟨rfl, hne, hc⟩, hB⟩ hK
    gi_wp2
    refine ⟨by simp, .inl ⟨_, _, rfl, run_takeDeferred hK, ?_⟩⟩
    have hc5 := cell_kept hc (grownBy_putObj' _ D (.deferred none)) (fun r e => by cases e; exact ⟨_, hK, rfl⟩)
    refine ⟨.bool true, ?_, by rw [keysUp_any hne], hB.trans (belowK_b (w := w) (Nat.le_refl _) W D _ _ (by simp at hD; omega) hK rfl rfl)⟩
    simp [results, Tryz.f50, go_sem, hc5]

theorem tkeyed_any (oid ver : Int) (nm : ByteArray) (id : Int) (cols : List Col) (a : Option Addr) (cap : Nat) (w : World) (hl : Sl w (.slice a cols.length cap) 3 (cols.map Col.cells)) (hlen : cols.length ≤ 1000) :
    Calls Tryz.prog 50 #[.agg #[.int .u32 oid, .int .u32 ver, .string nm, .int .u8 id, .slice a cols.length cap]] w fun e w' => e = .returned (.bool (cols.any Col.key)) ∧ Ext w w' :=
  callsIn_wide.1 (tkeyed_in Fence.wide 3 trivial trivial trivial rfl (Nat.le_refl _) oid ver nm id cols a cap w hl hlen)

end Go.Proofs.YtdgalkljngigeaaGreat

/-
Where the row of a key stands, by the program.
-/
namespace Go.Proofs.YtdgalkljngigeaaGreat
open Go.RowKit

theorem keyIs {cols : List Col} {l w : List K} : rowB (keyOf cols l) (keyOf cols w) = keyQ cols l w := rfl
set_option maxRecDepth 100000 in set_option maxHeartbeats 4000000 in
theorem bk1_any (pr pk : Nat) (oid ver : Int) (nm : ByteArray) (id : Int) (cols : List Col) (a2 : Option Addr) (cap2 : Nat) (key : List K) (ka : Option Addr) (kc : Nat) (l : List K) (a : Option Addr) (cap : Nat) (w : World)
    (hR : Blk w pr #[.int .u32 oid, .int .u32 ver, .string nm, .int .u8 id, .slice a2 cols.length cap2] 99) (hK : Blk w pk #[.slice ka key.length kc] 71) (hl2 : Sl w (.slice a2 cols.length cap2) 3 (cols.map Col.cells)) (hlen2 : cols.length ≤ 1000) (hk : Sl w (.slice ka key.length kc) 5 (key.map K.pc)) (hkn : key.length ≤ 1000) (hl : Sl w (.slice a l.length cap) 5 (l.map K.pc)) (hlen : l.length ≤ 1000) :
    Calls Tryz.prog 79 #[.slice a l.length cap, .pointer (some ⟨pr, 0, none⟩), .pointer (some ⟨pk, 0, none⟩)] w fun e w' => e = .returned (.bool (rowB (keyOf cols l) key)) ∧ Ext w w' := by
  have HKO := Hid.mk' (fun W (h : Ext w W) => keyOf_any oid ver nm id cols a2 cap2 l a cap W (hl2.ext h) hlen2 (hl.ext h) hlen)
  have HAL := Hid.mk' (fun W g c (h : Ext w W) (hr : RowAt W g (keyOf cols l)) => (alike_any (keyOf cols l) key (some ⟨g, 0, none⟩) ka c kc W (hr.sl c) (hk.ext h) (by rw [keyOf_len]; exact hlen) hkn))
  rw [keyOf_len] at HAL
  generalize rowB (keyOf cols l) key = B at HAL ⊢
  have g0 := hR.cell
  have g1 := hK.cell
  have z0 := hR.lt
  have z1 := hK.lt
  clear hR hK hl2 hk hl
  go_enter Tryz.func79, Tryz.ntmps79
  go_wp2
  go_region_held3 (fun w' => Ext (w) w' ∧ (∀ b o, b < (w).heap.size → w'.cell? ⟨b, o, none⟩ = (w).cell? ⟨b, o, none⟩) ∧ (∀ b o, b < (w).heap.size → w'.frozen? ⟨b, o, none⟩ = (w).frozen? ⟨b, o, none⟩)) ((exact held_of (by exact eX)))
    (first
      | (go_at_call 77; refine (HKO.out _ (by exact eX)).mono ?_; rintro e w2 ⟨g, c, rfl, hc, hg, hr, hb2⟩; have HR2 := Hid.mk' hr; have hE_w2 : Ext (w) w2 := (by exact eX); obtain ⟨hc_w2, hf_w2⟩ := hE_w2.cells; have hz_w2 := hE_w2.size; clear hr hc hg)
      | (go_at_call 30; refine (HAL.out _ _ _ (by exact eX) HR2.out).mono ?_; rintro e w3 ⟨rfl, hb3⟩))
  go_wp2
  go_ret
  exact ⟨rfl, by exact eX⟩

theorem PR.row {w wr : World} {v : Value} {qs : List PR} (h : RS 5 K.pc w v qs) {k : Nat} (hk : k < qs.length) (he : Ext w wr) : Sl wr (.slice qs[k].a qs[k].l.length qs[k].c) 5 (qs[k].l.map K.pc) := (h.sl _ (List.getElem_mem hk)).ext he

set_option maxRecDepth 100000 in set_option maxHeartbeats 4000000 in
theorem idxK_any (pr pk : Nat) (p : Nat → Bool) (a : Option Addr) (c : Nat) (qs : List PR) (w : World) (h : RS 5 K.pc w (.slice a qs.length c) qs) (hn : qs.length ≤ 1000)
    (hf : ∀ k (hk : k < qs.length) W, Ext w W → Calls Tryz.prog 79 #[.slice qs[k].a qs[k].l.length qs[k].c, .pointer (some ⟨pr, 0, none⟩), .pointer (some ⟨pk, 0, none⟩)] W fun e w' => e = .returned (.bool (p k)) ∧ Ext W w') :
    Calls Tryz.prog 78 #[.slice a qs.length c, .func (.func 79) #[] #[.pointer (some ⟨pr, 0, none⟩), .pointer (some ⟨pk, 0, none⟩)]] w fun e w' => e = .returned (.int .i64 (idxI p qs.length)) ∧ Ext w w' := by
  have HL := Hid.mk' h.row
  have HF := Hid.mk' hf
  clear h hf
  go_enter Tryz.func78, Tryz.ntmps78
  go_wp2
  go_loopw [8] (fun i wr => ∃ k : Nat, k ≤ qs.length ∧ i = .int .i64 k ∧ Hid (∀ j, j < k → p j = false) ∧ Hid (Ext w wr)) (fun i _ => qs.length - (intOf i).toNat)
  case atStart => exact ⟨0, Nat.zero_le _, rfl, fun j h => by omega, Ext.refl _⟩
  case round =>
    obtain ⟨k, hk, rfl, hrel, hE⟩ := hrel
    by_cases hlt : k < qs.length
    · obtain ⟨b, o, rfl, hb, hx⟩ := HL.out.at_ (i := k) (by simpa using hlt)
      have f0 := PR.at_ hlt hx hb hE.out
      have hbw : b < wr.heap.size := Nat.lt_of_lt_of_le hb hE.out.size
      have HFK := Hid.mk' (fun W h => HF.out k hlt W h)
      cases hq : p k with
      | true =>
        rw [hq] at HFK
        have HQ := Hid.mk' hq
        clear hq hx
        go_wp2_with (go_at_call 79; refine (HFK.out _ (hE.out.trans (by exact eX))).mono ?_; rintro e w1 ⟨rfl, hb1⟩)
        go_ret
        exact ⟨ret_int (idxI_at (fun i hi => hrel.out i hi) HQ.out hlt).symm, hE.out.trans (by exact eX)⟩
      | false =>
        rw [hq] at HFK
        have HQ := Hid.mk' hq
        clear hq hx
        go_wp2_with (go_at_call 79; refine (HFK.out _ (hE.out.trans (by exact eX))).mono ?_; rintro e w1 ⟨rfl, hb1⟩)
        go_roundw
        case rel => exact ⟨k + 1, by omega, by go_num, fun j hj => by
          by_cases e : j = k
          · subst e; exact HQ.out
          · exact hrel.out j (by omega), Hid.mk' (hE.out.trans (by exact eX))⟩
        case measure => simp [intOf]; omega
    · have hkk : k = qs.length := by omega
      have HQ := Hid.mk' (idxI_none (p := p) (n := qs.length) fun j hj => hrel.out j (by omega))
      subst hkk
      go_wp2
      go_ret
      exact ⟨ret_int HQ.out.symm, hE.out⟩

set_option maxRecDepth 100000 in set_option maxHeartbeats 4000000 in
theorem idxA_any (ba : Option Addr) (n bc : Nat) (p : Nat → Bool) (a : Option Addr) (c : Nat) (qs : List PR) (w : World) (h : RS 5 K.pc w (.slice a qs.length c) qs) (hn : qs.length ≤ 1000)
    (hf : ∀ k (hk : k < qs.length) W, Ext w W → Calls Tryz.prog 30 #[.slice ba n bc, .slice qs[k].a qs[k].l.length qs[k].c] W fun e w' => e = .returned (.bool (p k)) ∧ Ext W w') :
    Calls Tryz.prog 78 #[.slice a qs.length c, .func (.func 30) #[.slice ba n bc] #[]] w fun e w' => e = .returned (.int .i64 (idxI p qs.length)) ∧ Ext w w' := by
  have HL := Hid.mk' h.row
  have HF := Hid.mk' hf
  clear h hf
  go_enter Tryz.func78, Tryz.ntmps78
  go_wp2
  go_loopw [8] (fun i wr => ∃ k : Nat, k ≤ qs.length ∧ i = .int .i64 k ∧ Hid (∀ j, j < k → p j = false) ∧ Hid (Ext w wr)) (fun i _ => qs.length - (intOf i).toNat)
  case atStart => exact ⟨0, Nat.zero_le _, rfl, fun j h => by omega, Ext.refl _⟩
  case round =>
    obtain ⟨k, hk, rfl, hrel, hE⟩ := hrel
    by_cases hlt : k < qs.length
    · obtain ⟨b, o, rfl, hb, hx⟩ := HL.out.at_ (i := k) (by simpa using hlt)
      have f0 := PR.at_ hlt hx hb hE.out
      have hbw : b < wr.heap.size := Nat.lt_of_lt_of_le hb hE.out.size
      have HFK := Hid.mk' (fun W h => HF.out k hlt W h)
      cases hq : p k with
      | true =>
        rw [hq] at HFK
        have HQ := Hid.mk' hq
        clear hq hx
        go_wp2_with (go_at_call 30; refine (HFK.out _ (hE.out.trans (by exact eX))).mono ?_; rintro e w1 ⟨rfl, hb1⟩)
        go_ret
        exact ⟨ret_int (idxI_at (fun i hi => hrel.out i hi) HQ.out hlt).symm, hE.out.trans (by exact eX)⟩
      | false =>
        rw [hq] at HFK
        have HQ := Hid.mk' hq
        clear hq hx
        go_wp2_with (go_at_call 30; refine (HFK.out _ (hE.out.trans (by exact eX))).mono ?_; rintro e w1 ⟨rfl, hb1⟩)
        go_roundw
        case rel => exact ⟨k + 1, by omega, by go_num, fun j hj => by
          by_cases e : j = k
          · subst e; exact HQ.out
          · exact hrel.out j (by omega), Hid.mk' (hE.out.trans (by exact eX))⟩
        case measure => simp [intOf]; omega
    · have hkk : k = qs.length := by omega
      have HQ := Hid.mk' (idxI_none (p := p) (n := qs.length) fun j hj => hrel.out j (by omega))
      subst hkk
      go_wp2
      go_ret
      exact ⟨ret_int HQ.out.symm, hE.out⟩

set_option maxRecDepth 100000 in set_option maxHeartbeats 4000000 in
theorem byKey_any (oid ver : Int) (nm : ByteArray) (id : Int) (cols : List Col) (a2 : Option Addr) (cap2 : Nat) (key : List K) (ka : Option Addr) (kc : Nat) (a : Option Addr) (c : Nat) (qs : List PR) (w : World) (hl2 : Sl w (.slice a2 cols.length cap2) 3 (cols.map Col.cells)) (hlen2 : cols.length ≤ 1000) (hk : Sl w (.slice ka key.length kc) 5 (key.map K.pc)) (hkn : key.length ≤ 1000) (h : RS 5 K.pc w (.slice a qs.length c) qs) (hn : qs.length ≤ 1000) (hm : ∀ q ∈ qs, q.l.length ≤ 1000) :
    Calls Tryz.prog 51 #[.agg #[.int .u32 oid, .int .u32 ver, .string nm, .int .u8 id, .slice a2 cols.length cap2], .slice a qs.length c, .slice ka key.length kc] w fun e w' => e = .returned (.int .i64 (byKeyI cols (qs.map PR.l) key (-1))) ∧ Ext w w' := by
  have e0 : byKeyI cols (qs.map PR.l) key (-1) = idxI (fun i => rowB (keyOf cols ((qs.map PR.l).getD i [])) (keyOf cols key)) qs.length := by
    unfold byKeyI
    rw [List.length_map]
    exact idxI_congr fun i hi => by
      have : decide ((i : Int) ≠ -1) = true := decide_eq_true (by omega)
      rw [this, Bool.true_and]; rfl
  have HKO := Hid.mk' (fun W (h : Ext w W) => keyOf_any oid ver nm id cols a2 cap2 key ka kc W (hl2.ext h) hlen2 (hk.ext h) hkn)
  have HXF := Hid.mk' (fun W g cg (he : Ext w W) pr pk (hR : Blk W pr #[.int .u32 oid, .int .u32 ver, .string nm, .int .u8 id, .slice a2 cols.length cap2] 99) (hr : RowAt W g (keyOf cols key)) (hK : Blk W pk #[.slice (some ⟨g, 0, none⟩) key.length cg] 71) =>
    idxK_any pr pk (fun i => rowB (keyOf cols ((qs.map PR.l).getD i [])) (keyOf cols key)) a c qs W (h.ext he) hn (fun k hlt W' he' => by
      have e1 : (qs.map PR.l).getD k [] = qs[k].l := by simp [hlt]
      have e2 := keyOf_len (cols := cols) (l := key)
      have hs := hr.sl cg
      rw [e2] at hs
      have := bk1_any pr pk oid ver nm id cols a2 cap2 (keyOf cols key) (some ⟨g, 0, none⟩) cg qs[k].l qs[k].a qs[k].c W' (hR.ext he') (by rw [e2]; exact hK.ext he') (hl2.ext (he.trans he')) hlen2 (by rw [e2]; exact hs.ext he') (by rw [e2]; exact hkn) (PR.row h hlt (he.trans he')) (hm _ (List.getElem_mem hlt))
      simp only [e1]
      exact this))
  rw [← e0] at HXF
  generalize byKeyI cols (qs.map PR.l) key (-1) = I at HXF ⊢
  clear hl2 hk h hm e0
  go_enter Tryz.func51, Tryz.ntmps51
  go_wp2_with (first
    | (go_at_call 77; refine (HKO.out _ (by exact eX)).mono ?_; rintro e w2 ⟨g, cg, rfl, -, hg, hr, hb2⟩; have HE2 := Hid.mk' (show Ext w w2 by exact eX); have HB2 := Hid.mk' ((Blk.new w #[.int .u32 oid, .int .u32 ver, .string nm, .int .u8 id, .slice a2 cols.length cap2] 99).ext hb2); have HR2 := Hid.mk' hr; clear hr hg hb2)
    | (go_at_call 78; refine (HXF.out _ _ _ (HE2.out.trans (by exact eX)) _ _ (HB2.out.ext (by exact eX)) (HR2.out.ext (by exact eX)) (by first | exact Blk.new _ _ _ | exact Blk.new' _ _ (by simp))).mono ?_; rintro e w3 ⟨rfl, hb3⟩))
  go_ret
  exact ⟨rfl, HE2.out.trans (by exact eX)⟩

end Go.Proofs.YtdgalkljngigeaaGreat

/-
Is a key taken, where does the row of an old image stand: the program's.
-/
namespace Go.Proofs.YtdgalkljngigeaaGreat
open Go.RowKit

theorem byKey_one {cols : List Col} {q key : List K} : byKeyI cols [q] key (-1) = if keyQ cols q key = true then 0 else -1 := by simp [byKeyI, idxI]
theorem RS.one {W : World} {g : Nat} {q : PR} (h : Blk W g #[q.val] 71) (hs : Sl W q.val 5 (q.l.map K.pc)) : RS 5 K.pc W (.slice (some ⟨g, 0, none⟩) 1 1) [q] := by
  refine ⟨⟨_, 1, rfl, .inr ⟨g, 0, rfl, h.lt, fun i hi j hj => ?_⟩⟩, fun x hx => (List.mem_singleton.1 hx) ▸ hs, Tag.of h 0 1 1⟩
  obtain rfl : i = 0 := by simpa using hi
  obtain rfl : j = 0 := by omega
  exact h.cell 0

set_option maxRecDepth 100000 in set_option maxHeartbeats 4000000 in
theorem taken_any (oid ver : Int) (nm : ByteArray) (id : Int) (cols : List Col) (a2 : Option Addr) (cap2 : Nat) (key : List K) (ka : Option Addr) (kc : Nat) (but : Int) (a : Option Addr) (c : Nat) (qs : List PR) (w : World) (hl2 : Sl w (.slice a2 cols.length cap2) 3 (cols.map Col.cells)) (hlen2 : cols.length ≤ 1000) (hk : Sl w (.slice ka key.length kc) 5 (key.map K.pc)) (hkn : key.length ≤ 1000) (h : RS 5 K.pc w (.slice a qs.length c) qs) (hn : qs.length ≤ 1000) (hm : ∀ q ∈ qs, q.l.length ≤ 1000) :
    Calls Tryz.prog 67 #[.agg #[.int .u32 oid, .int .u32 ver, .string nm, .int .u8 id, .slice a2 cols.length cap2], .slice a qs.length c, .slice ka key.length kc, .int .i64 but] w fun e w' => e = .returned (.bool (takenB cols (qs.map PR.l) key but)) ∧ Ext w w' := by
  have HKD := Hid.mk' (fun W (h : Ext w W) => tkeyed_any oid ver nm id cols a2 cap2 W (hl2.ext h) hlen2)
  have HBK := Hid.mk' (fun k (hlt : k < qs.length) W (he : Ext w W) g (hb : Blk W g #[qs[k].val] 71) => (show Calls Tryz.prog 51 #[.agg #[.int .u32 oid, .int .u32 ver, .string nm, .int .u8 id, .slice a2 cols.length cap2], .slice (some ⟨g, 0, none⟩) 1 1, .slice ka key.length kc] W (fun e w' => e = .returned (.int .i64 (if keyQ cols qs[k].l key = true then 0 else -1)) ∧ Ext W w') from by
    have := byKey_any oid ver nm id cols a2 cap2 key ka kc (some ⟨g, 0, none⟩) 1 [qs[k]] W (hl2.ext he) hlen2 (hk.ext he) hkn (RS.one hb (PR.row h hlt he)) (by simp) (fun q hq => (List.mem_singleton.1 hq) ▸ hm _ (List.getElem_mem hlt))
    rw [← byKey_one]
    exact this))
  have HL := Hid.mk' h.row
  have HRK : Hid (cols.any Col.key = rkey cols) := Hid.mk' rfl
  rw [HRK.out] at HKD
  have HTB : Hid (takenB cols (qs.map PR.l) key but = (rkey cols && decide (0 ≤ idxI (fun i => decide ((i : Int) ≠ but) && keyQ cols ((qs.map PR.l).getD i []) key) qs.length))) := Hid.mk' (by unfold takenB byKeyI; rw [List.length_map])
  have HGD : Hid (∀ k (hlt : k < qs.length), (qs.map PR.l).getD k [] = qs[k].l) := Hid.mk' (fun k hlt => by simp [hlt])
  generalize takenB cols (qs.map PR.l) key but = B at HTB ⊢
  generalize qs.map PR.l = ls at HTB HGD
  clear hl2 hk h hm HRK
  cases hr : rkey cols with
  | false =>
    rw [hr] at HTB HKD
    have HB := Hid.mk' (show B = false from by rw [HTB.out]; rfl)
    clear hr HTB
    go_enter Tryz.func67, Tryz.ntmps67
    go_wp2_with (go_at_call 50; refine (HKD.out _ (by exact eX)).mono ?_; rintro e w2 ⟨rfl, hb2⟩)
    go_ret
    exact ⟨ret_bool HB.out.symm, by exact eX⟩
  | true =>
    rw [hr] at HTB HKD
    have HTB2 := Hid.mk' (show B = decide (0 ≤ idxI (fun i => decide ((i : Int) ≠ but) && keyQ cols (ls.getD i []) key) qs.length) from by rw [HTB.out]; rfl)
    clear hr HTB
    go_enter Tryz.func67, Tryz.ntmps67
    go_wp2_with (go_at_call 50; refine (HKD.out _ (by exact eX)).mono ?_; rintro e w2 ⟨rfl, hb2⟩; have HE2 := Hid.mk' (show Ext w w2 by exact eX); have HB2 := Hid.mk' ((Blk.new w #[.int .u32 oid, .int .u32 ver, .string nm, .int .u8 id, .slice a2 cols.length cap2] 99).ext hb2); clear hb2)
    go_loopw [16] (fun i wr => ∃ k : Nat, k ≤ qs.length ∧ i = .int .i64 k ∧ Hid (∀ j, j < k → (decide ((j : Int) ≠ but) && keyQ cols (ls.getD j []) key) = false) ∧ Hid (Ext w2 wr)) (fun i _ => qs.length - (intOf i).toNat)
    case atStart => exact ⟨0, Nat.zero_le _, rfl, Hid.mk' (fun j h => by omega), Hid.mk' (Ext.refl _)⟩
    case round =>
      obtain ⟨k, hk, rfl, hrel, hE⟩ := hrel
      by_cases hlt : k < qs.length
      · obtain ⟨b, o, rfl, hb, hx⟩ := HL.out.at_ (i := k) (by simpa using hlt)
        have f0 := PR.at_ hlt hx hb (HE2.out.trans hE.out)
        have hbw : b < wr.heap.size := Nat.lt_of_lt_of_le hb (HE2.out.trans hE.out).size
        have g0 := (HB2.out.ext hE.out).cell
        have z0 := (HB2.out.ext hE.out).lt
        have HBKK := Hid.mk' (fun W h => HBK.out k hlt W h)
        have HGK := Hid.mk' (HGD.out k hlt)
        clear hx
        by_cases hbut : (k : Int) = but
        · have hb1 : (((k : Nat) : Int) != but) = false := by simpa using hbut
          have HQ := Hid.mk' (show (decide ((k : Int) ≠ but) && keyQ cols (ls.getD k []) key) = false from by rw [decide_eq_false (by simpa using hbut), Bool.false_and])
          clear hbut
          go_wp2
          go_roundw
          case rel => exact ⟨k + 1, by omega, by go_num, Hid.mk' (fun j hj => by
            by_cases e : j = k
            · subst e; exact HQ.out
            · exact hrel.out j (by omega)), Hid.mk' (hE.out.trans (by exact eX))⟩
          case measure => simp [intOf]; omega
        · have hb1 : (((k : Nat) : Int) != but) = true := by simpa using hbut
          have HQ0 := Hid.mk' (show (decide ((k : Int) ≠ but) && keyQ cols (ls.getD k []) key) = keyQ cols qs[k].l key from by rw [decide_eq_true (by simpa using hbut), Bool.true_and, HGK.out])
          clear hbut
          cases hq : keyQ cols qs[k].l key with
          | true =>
            rw [hq, if_pos rfl] at HBKK
            have HQ := Hid.mk' (show B = true from by rw [HTB2.out, idxI_at (fun i hi => hrel.out i hi) (HQ0.out.trans hq) hlt]; exact decide_eq_true (by omega))
            clear hq
            go_wp2_with (go_at_call 51; refine (HBKK.out _ (HE2.out.trans (hE.out.trans (by exact eX))) _ (by first | exact Blk.new _ _ _ | exact Blk.new' _ _ (by simp))).mono ?_; rintro e w3 ⟨rfl, hb3⟩)
            go_ret
            exact ⟨ret_bool HQ.out.symm, HE2.out.trans (hE.out.trans (by exact eX))⟩
          | false =>
            rw [hq, if_neg (by simp)] at HBKK
            have HQ := Hid.mk' (HQ0.out.trans hq)
            clear hq
            go_wp2_with (go_at_call 51; refine (HBKK.out _ (HE2.out.trans (hE.out.trans (by exact eX))) _ (by first | exact Blk.new _ _ _ | exact Blk.new' _ _ (by simp))).mono ?_; rintro e w3 ⟨rfl, hb3⟩)
            go_roundw
            case rel => exact ⟨k + 1, by omega, by go_num, Hid.mk' (fun j hj => by
              by_cases e : j = k
              · subst e; exact HQ.out
              · exact hrel.out j (by omega)), Hid.mk' (hE.out.trans (by exact eX))⟩
            case measure => simp [intOf]; omega
      · have hkk : k = qs.length := by omega
        have HQ := Hid.mk' (show B = false from by rw [HTB2.out, idxI_none fun i hi => hrel.out i (by omega)]; exact decide_eq_false (by omega))
        subst hkk
        go_wp2
        go_ret
        exact ⟨ret_bool HQ.out.symm, HE2.out.trans hE.out⟩

set_option maxRecDepth 100000 in set_option maxHeartbeats 4000000 in
theorem found_any (oid ver : Int) (nm : ByteArray) (id : Int) (cols : List Col) (a2 : Option Addr) (cap2 : Nat) (x : EL) (a : Option Addr) (c : Nat) (qs : List PR) (w : World) (hl2 : Sl w (.slice a2 cols.length cap2) 3 (cols.map Col.cells)) (hlen2 : cols.length ≤ 1000) (hx : x.at 5 K.pc w) (hs : x.e.small) (h : RS 5 K.pc w (.slice a qs.length c) qs) (hn : qs.length ≤ 1000) (hm : ∀ q ∈ qs, q.l.length ≤ 1000) :
    Calls Tryz.prog 69 #[.agg #[.int .u32 oid, .int .u32 ver, .string nm, .int .u8 id, .slice a2 cols.length cap2], .slice a qs.length c, x.agg] w fun e w' => e = .returned (.tuple #[.int .i64 (if fndE cols (qs.map PR.l) x.e ≠ 0 then 0 else atI cols (qs.map PR.l) x.e), .int .i64 (fndE cols (qs.map PR.l) x.e)]) ∧ Ext w w' := by
  have HKD := Hid.mk' (fun W (h : Ext w W) => tkeyed_any oid ver nm id cols a2 cap2 W (hl2.ext h) hlen2)
  have HBB := Hid.mk' (fun W (he : Ext w W) => byKey_any oid ver nm id cols a2 cap2 x.e.b x.ba x.bc a c qs W (hl2.ext he) hlen2 (hx.b.ext he) hs.b (h.ext he) hn hm)
  have HBA := Hid.mk' (fun W (he : Ext w W) => byKey_any oid ver nm id cols a2 cap2 x.e.a x.aa x.ac a c qs W (hl2.ext he) hlen2 (hx.a.ext he) hs.a (h.ext he) hn hm)
  have HXA := Hid.mk' (fun W (he : Ext w W) => idxA_any x.ba x.e.b.length x.bc (fun i => rowB x.e.b ((qs.map PR.l).getD i [])) a c qs W (h.ext he) hn (fun k hlt W' he' => by
    have e1 : (qs.map PR.l).getD k [] = qs[k].l := by simp [hlt]
    simp only [e1]
    exact alike_any x.e.b qs[k].l x.ba qs[k].a x.bc qs[k].c W' (hx.b.ext (he.trans he')) (PR.row h hlt (he.trans he')) hs.b (hm _ (List.getElem_mem hlt))))
  have HAT : Hid (atI cols (qs.map PR.l) x.e = if x.e.old = 2 then idxI (fun i => rowB x.e.b ((qs.map PR.l).getD i [])) qs.length else if x.e.old = 1 then byKeyI cols (qs.map PR.l) x.e.b (-1) else byKeyI cols (qs.map PR.l) x.e.a (-1)) := Hid.mk' (by unfold atI; rw [List.length_map])
  have HFE : Hid (fndE cols (qs.map PR.l) x.e = if x.e.old ≠ 2 ∧ x.e.old ≠ 1 ∧ rkey cols = false then 13 else if atI cols (qs.map PR.l) x.e < 0 then 10 else 0) := Hid.mk' rfl
  have HRK : Hid (cols.any Col.key = rkey cols) := Hid.mk' rfl
  rw [HRK.out] at HKD
  generalize atI cols (qs.map PR.l) x.e = I at HAT HFE ⊢
  generalize fndE cols (qs.map PR.l) x.e = E at HFE ⊢
  clear hl2 hx hs h hn hm HRK
  obtain ⟨⟨k1, ao1, av1, old1, b1, a1, r1, fl1⟩, ba1, bc1, aa1, ac1, ra1, rc1⟩ := x
  unfold EL.agg
  simp only at HBB HBA HXA HAT HFE ⊢
  by_cases h2 : old1 = 2
  · subst h2
    have HI := Hid.mk' (HAT.out.trans (if_pos rfl))
    have HE0 := Hid.mk' (HFE.out.trans (if_neg (fun q => q.1 rfl)))
    rw [← HI.out] at HXA
    clear HAT HFE HBB HBA HKD HI
    by_cases hI : I < 0
    · rw [HE0.out, if_pos hI, if_pos (by decide)]
      clear HE0
      go_enter Tryz.func69, Tryz.ntmps69
      go_wp2_with (go_at_call 78; refine (HXA.out _ (by exact eX)).mono ?_; rintro e w2 ⟨rfl, hb2⟩)
      go_ret2
      exact ⟨rfl, by exact eX⟩
    · rw [HE0.out, if_neg hI, if_neg (by simp)]
      clear HE0
      go_enter Tryz.func69, Tryz.ntmps69
      go_wp2_with (go_at_call 78; refine (HXA.out _ (by exact eX)).mono ?_; rintro e w2 ⟨rfl, hb2⟩)
      go_ret2
      exact ⟨rfl, by exact eX⟩
  have h2' : (old1 == 2) = false := by simpa using h2
  by_cases h1 : old1 = 1
  · subst h1
    have HI := Hid.mk' (HAT.out.trans ((if_neg h2).trans (if_pos rfl)))
    have HE0 := Hid.mk' (HFE.out.trans (if_neg (fun q => q.2.1 rfl)))
    rw [← HI.out] at HBB
    clear HAT HFE HXA HBA HKD HI h2 h2'
    by_cases hI : I < 0
    · rw [HE0.out, if_pos hI, if_pos (by decide)]
      clear HE0
      go_enter Tryz.func69, Tryz.ntmps69
      go_wp2_with (go_at_call 51; refine (HBB.out _ (by exact eX)).mono ?_; rintro e w2 ⟨rfl, hb2⟩)
      go_ret2
      exact ⟨rfl, by exact eX⟩
    · rw [HE0.out, if_neg hI, if_neg (by simp)]
      clear HE0
      go_enter Tryz.func69, Tryz.ntmps69
      go_wp2_with (go_at_call 51; refine (HBB.out _ (by exact eX)).mono ?_; rintro e w2 ⟨rfl, hb2⟩)
      go_ret2
      exact ⟨rfl, by exact eX⟩
  have h1' : (old1 == 1) = false := by simpa using h1
  have HI := Hid.mk' (HAT.out.trans ((if_neg h2).trans (if_neg h1)))
  cases hr : rkey cols with
  | false =>
    have HE0 := Hid.mk' (HFE.out.trans (if_pos ⟨h2, h1, hr⟩))
    rw [hr] at HKD
    rw [HE0.out, if_pos (by decide)]
    clear HAT HFE HXA HBA HBB HI h2 h1 HE0 hr
    go_enter Tryz.func69, Tryz.ntmps69
    go_wp2_with (go_at_call 50; refine (HKD.out _ (by exact eX)).mono ?_; rintro e w2 ⟨rfl, hb2⟩)
    go_ret2
    exact ⟨rfl, by exact eX⟩
  | true =>
    have HE0 := Hid.mk' (HFE.out.trans (if_neg (fun q => by rw [hr] at q; cases q.2.2)))
    rw [hr] at HKD
    rw [← HI.out] at HBA
    clear HAT HFE HXA HBB HI h2 h1 hr
    by_cases hI : I < 0
    · rw [HE0.out, if_pos hI, if_pos (by decide)]
      clear HE0
      go_enter Tryz.func69, Tryz.ntmps69
      go_wp2_with (first
        | (go_at_call 50; refine (HKD.out _ (by exact eX)).mono ?_; rintro e w2 ⟨rfl, hb2⟩; have hE_w2 : Ext ((w.alloc (.cells #[.int .u32 oid, .int .u32 ver, .string nm, .int .u8 id, .slice a2 cols.length cap2] 99)).alloc (.cells #[.int .u8 k1, .int .u32 ao1, .int .u32 av1, .int .u8 old1, .slice ba1 b1.length bc1, .slice aa1 a1.length ac1, .slice ra1 r1.length rc1, .int .u8 fl1] 103)) w2 := (by exact eX); obtain ⟨hc_w2, hf_w2⟩ := hE_w2.cells; have hz_w2 := hE_w2.size)
        | (go_at_call 51; refine (HBA.out _ (by exact eX)).mono ?_; rintro e w3 ⟨rfl, hb3⟩))
      go_ret2
      exact ⟨rfl, by exact eX⟩
    · rw [HE0.out, if_neg hI, if_neg (by simp)]
      clear HE0
      go_enter Tryz.func69, Tryz.ntmps69
      go_wp2_with (first
        | (go_at_call 50; refine (HKD.out _ (by exact eX)).mono ?_; rintro e w2 ⟨rfl, hb2⟩; have hE_w2 : Ext ((w.alloc (.cells #[.int .u32 oid, .int .u32 ver, .string nm, .int .u8 id, .slice a2 cols.length cap2] 99)).alloc (.cells #[.int .u8 k1, .int .u32 ao1, .int .u32 av1, .int .u8 old1, .slice ba1 b1.length bc1, .slice aa1 a1.length ac1, .slice ra1 r1.length rc1, .int .u8 fl1] 103)) w2 := (by exact eX); obtain ⟨hc_w2, hf_w2⟩ := hE_w2.cells; have hz_w2 := hE_w2.size)
        | (go_at_call 51; refine (HBA.out _ (by exact eX)).mono ?_; rintro e w3 ⟨rfl, hb3⟩))
      go_ret2
      exact ⟨rfl, by exact eX⟩

end Go.Proofs.YtdgalkljngigeaaGreat

/-
slices.Delete at rows of rows, maps.Clone at tables, laid in plain words.
-/
namespace Go.Proofs.YtdgalkljngigeaaGreat
open Go.Shelf
def Tryz.delR_ren : Go.Shelf.Ren := ⟨fun | 45 => 70 | n => n, fun | 22 => 66 | 23 => 71 | 3 => 3 | 4 => 4 | 0 => 0 | n => n, fun | n => n⟩
theorem Tryz.delR : Go.Proofs.SlLaysE.n45 Tryz.prog Tryz.delR_ren := {
  mixed := by kernel_rfl
  f45 := ⟨Tryz.f70.name, by decide, Tryz.func70.trans (congrArg some (by kernel_rfl))⟩
  t0 := Tryz.underlying0
  a0 := Tryz.isAgg0
  z0 := Tryz.sizeOf0
  v0 := Tryz.zeroValue0
  t3 := Tryz.underlying3
  a3 := Tryz.isAgg3
  z3 := Tryz.sizeOf3
  v3 := Tryz.zeroValue3
  t4 := Tryz.underlying4
  a4 := Tryz.isAgg4
  z4 := Tryz.sizeOf4
  v4 := Tryz.zeroValue4
  t22 := Tryz.underlying66
  a22 := Tryz.isAgg66
  z22 := Tryz.sizeOf66
  v22 := Tryz.zeroValue66
  a23 := Tryz.isAgg71
  z23 := Tryz.sizeOf71 }
def Tryz.cloM_ren : Go.Shelf.Ren := ⟨fun | 5 => 39 | 7 => 66 | n => n, fun | 23 => 91 | 25 => 68 | 3 => 66 | 4 => 4 | 20 => 20 | n => n, fun | n => n⟩
theorem Tryz.cloM : Go.Proofs.SlLaysW.n5 Tryz.prog Tryz.cloM_ren := {
  mixed := by kernel_rfl
  f5 := ⟨Tryz.f39.name, by decide, Tryz.func39.trans (congrArg some (by kernel_rfl))⟩
  f7 := Tryz.func66.trans (congrArg some (by kernel_rfl))
  t4 := Tryz.underlying4
  a4 := Tryz.isAgg4
  z4 := Tryz.sizeOf4
  v4 := Tryz.zeroValue4
  t20 := Tryz.underlying20
  a20 := Tryz.isAgg20
  z20 := Tryz.sizeOf20
  v20 := Tryz.zeroValue20
  t23 := Tryz.underlying91
  a23 := Tryz.isAgg91
  z23 := Tryz.sizeOf91
  v23 := Tryz.zeroValue91 }
end Go.Proofs.YtdgalkljngigeaaGreat

/-
Rows of rows in a block of the call's own: copied, one struck out.
-/
namespace Go.Proofs.YtdgalkljngigeaaGreat
open Go.RowKit Go.Lib Go.Sort

theorem Tryz.infoRowP : (Tryz.prog.info? 71).map (fun i => (i.zero, i.size, i.bytes)) = some (some (.slice none 0 0), 1, 24) := by kernel_rfl
instance : Inhabited PR := ⟨⟨[], none, 0⟩⟩

theorem flatPR_len (l : List PR) : (l.map PR.cell).flatten.length = l.length * 1 := by
  have := flat_length 1 (l.map PR.cell) (fun xs hxs => by simp at hxs; obtain ⟨c, _, rfl⟩ := hxs; rfl)
  rwa [List.length_map] at this
theorem PR.len (l : List PR) : ∀ xs ∈ l.map PR.cell, xs.length = 1 := by
  intro xs hxs
  rw [List.mem_map] at hxs
  obtain ⟨p, _, rfl⟩ := hxs
  rfl
theorem PR.one (q : PR) : ∀ u ∈ q.cell, u.oneCell' = true := by
  intro u hu
  simp [PR.cell, PR.val] at hu
  rw [hu]; rfl
theorem flatPR_get (l : List PR) : (l.map PR.cell).flatten = l.map PR.val := by
  induction l with
  | nil => rfl
  | cons x l ih => simp only [List.map_cons, List.flatten_cons, ih]; rfl
theorem newsPR {w : World} {b o : Nat} {l : List PR} (h : ∀ i, i < l.length → ∀ j, j < 1 → w.cell? ⟨b, o + i * 1 + j, none⟩ = ((l.map PR.cell).getD i [])[j]?) : ∀ j u, ((l.map PR.cell).flatten)[j]? = some u → w.cell? ((⟨b, o, none⟩ : Addr).add j) = some u := by
  intro j u hj
  rw [flatPR_get] at hj
  have hjl : j < l.length := by
    rcases Nat.lt_or_ge j l.length with h | h
    · exact h
    · rw [List.getElem?_eq_none (by simpa using h)] at hj; cases hj
  have := h j hjl 0 (by omega)
  rw [getD_map PR.cell l hjl, Nat.mul_one, Nat.add_zero] at this
  rw [List.getElem?_map, List.getElem?_eq_getElem hjl] at hj
  rw [Addr.add_lit, this]
  simpa [PR.cell] using hj

/-- Rows in a block that is known. -/
def PRAt (W : World) (g : Nat) (qs : List PR) : Prop := ∃ cs : Array Value, Blk W g cs 71 ∧ qs.length ≤ cs.size ∧ ∀ i (hi : i < qs.length), cs[i]? = some qs[i].val
section
variable {W W' : World} {g : Nat} {qs : List PR}
theorem PRAt.lt (h : PRAt W g qs) : g < W.heap.size := by obtain ⟨cs, hb, _⟩ := h; exact hb.lt
theorem PRAt.tag (h : PRAt W g qs) (o n c : Nat) : Tag W (.slice (some ⟨g, o, none⟩) n c) := by obtain ⟨cs, hb, _⟩ := h; exact Tag.of hb o n c
theorem PRAt.ext (h : PRAt W g qs) (he : Ext W W') : PRAt W' g qs := by obtain ⟨cs, hb, hr⟩ := h; exact ⟨cs, hb.ext he, hr⟩
theorem PRAt.frozen (h : PRAt W g qs) (o : Nat) : W.frozen? ⟨g, o, none⟩ = false := by obtain ⟨cs, hb, _⟩ := h; exact hb.frozen o
theorem PRAt.cell (h : PRAt W g qs) {i : Nat} (hi : i < qs.length) : W.cell? ⟨g, i, none⟩ = some (.slice qs[i].a qs[i].l.length qs[i].c) := by
  obtain ⟨cs, hb, _, hx⟩ := h
  rw [hb.cell, hx i hi]; rfl
theorem PRAt.set (h : PRAt W g qs) {i : Nat} (hi : i < qs.length) (q : PR) : PRAt (W.setCell ⟨g, i, none⟩ (.slice q.a q.l.length q.c)) g (qs.set i q) := by
  obtain ⟨cs, hb, hs, hx⟩ := h
  refine ⟨_, hb.set i _, by simpa using hs, fun j hj => ?_⟩
  rw [List.length_set] at hj
  by_cases e : j = i
  · subst e
    rw [List.getElem_set_self, Array.getElem?_setIfInBounds_self_of_lt (by omega)]; rfl
  · rw [List.getElem_set_ne (Ne.symm e), Array.getElem?_setIfInBounds_ne (Ne.symm e)]
    exact hx j hj
theorem PRAt.row (h : PRAt W g qs) (cap : Nat) : Sl W (.slice (some ⟨g, 0, none⟩) qs.length cap) 1 (qs.map PR.cell) := by
  refine ⟨_, cap, by rw [List.length_map], .inr ⟨g, 0, rfl, h.lt, fun i hi j hj => ?_⟩⟩
  rw [List.length_map] at hi
  obtain rfl : j = 0 := by omega
  rw [getD_map PR.cell qs hi, Nat.mul_one, Nat.zero_add, Nat.add_zero, h.cell hi]; rfl
theorem PRAt.of_owns {base n cap : Nat} (h : W.ownsRow base 71 1 (.slice (some ⟨g, 0, none⟩) n cap) n (qs.map PR.cell).flatten) (hn : qs.length = n) : PRAt W g qs := by
  obtain ⟨h1, h2⟩ := h
  rcases h2 with ⟨h3, _⟩ | ⟨g', cap', cur, hv, hg, hh, hnc, hcap, hsz, htake⟩
  · cases h3
  · simp only [Value.slice.injEq, Option.some.injEq, Addr.mk.injEq] at hv
    obtain ⟨⟨rfl, -, -⟩, -, rfl⟩ := hv
    refine ⟨cur, hh, by omega, fun i hi => ?_⟩
    rw [flatPR_get, Nat.mul_one] at htake
    have h3 := congrArg (fun z => z[i]?) htake
    simp only [List.getElem?_map, List.getElem?_eq_getElem hi, Option.map_some] at h3
    rw [List.getElem?_take_of_lt (by omega), Array.getElem?_toList] at h3
    exact h3
theorem PRAt.holds (h : PRAt W g qs) : Holds PR.val W g 0 qs.toArray := by
  intro j hj
  have hj2 : j < qs.length := by simpa using hj
  rw [Nat.zero_add, h.cell hj2, getElem!_pos qs.toArray j hj]
  exact ⟨rfl, h.frozen j⟩
theorem Sl.of_holds (h : Holds PR.val W g 0 qs.toArray) (hz : qs ≠ [] → g < W.heap.size) {n : Nat} (hn : n = qs.length) (cap : Nat) : Sl W (.slice (some ⟨g, 0, none⟩) n cap) 1 (qs.map PR.cell) := by
  subst hn
  refine ⟨_, cap, by rw [List.length_map], ?_⟩
  by_cases h0 : qs = []
  · exact .inl (by rw [h0]; rfl)
  refine .inr ⟨g, 0, rfl, hz h0, fun i hi j hj => ?_⟩
  rw [List.length_map] at hi
  obtain rfl : j = 0 := by omega
  have h1 := (h i (by simpa using hi)).1
  rw [getElem!_pos qs.toArray i (by simpa using hi)] at h1
  rw [getD_map PR.cell qs hi, Nat.mul_one, Nat.add_zero, h1]; rfl
end
theorem ext_putRow {w W : World} {g q : Nat} (d : Array PR) (hE : Ext w W) (hg : w.heap.size ≤ g) : Ext w (putRow PR.val (Sort.ahead W q) g 0 d) := by
  have h1 : Kp (fun x => x = g) W (putRow PR.val (Sort.ahead W q) g 0 d) := by
    refine ⟨rfl, rfl, rfl, by rw [size_putRow]; exact Nat.le_refl _, fun k hk hs => ?_⟩
    unfold putRow mapBlock
    have hs' : g ≠ k := fun e => hs e.symm
    simp [Array.getElem?_modify, hs', Sort.ahead]
  exact Kp.ext hE (fun x hx _ => by rw [hx]; exact hg) h1

theorem PRAt.tagPut {W : World} {g q : Nat} {qs : List PR} (h : PRAt W g qs) (d : Array PR) (o n c : Nat) : Tag (putRow PR.val (Sort.ahead W q) g 0 d) (.slice (some ⟨g, o, none⟩) n c) := by
  obtain ⟨cs, hb, _⟩ := h
  refine Tag.of (cs := ?_) ?_ o n c
  rotate_left
  · unfold Blk putRow mapBlock
    have h1 : (Sort.ahead W q).heap[g]? = some (.cells cs 71 (0, 0)) := hb
    simp only [Array.getElem?_modify, h1, if_true, Option.map_some]
    rfl
/-- A slice's elements stand while another block is turned. -/
theorem Sl.grown1 {w w' : World} {row : Option Nat} {a : Option Addr} {n c k : Nat} {xss : List (List Value)} (h : Sl w (.slice a n c) k xss) (hg : w.grownBy w' row) (hne : xss ≠ [] → ∀ b o, a = some ⟨b, o, none⟩ → row ≠ some b) : Sl w' (.slice a n c) k xss := by
  obtain ⟨a', c', hv, h⟩ := h
  simp only [Value.slice.injEq] at hv
  obtain ⟨rfl, rfl, rfl⟩ := hv
  rcases h with h | ⟨b, o, rfl, hb, hc⟩
  · exact ⟨_, _, rfl, .inl h⟩
  · by_cases h0 : xss = []
    · exact ⟨_, _, rfl, .inl h0⟩
    · refine ⟨_, _, rfl, .inr ⟨b, o, rfl, Nat.lt_of_lt_of_le hb hg.size, fun i hi j hj => ?_⟩⟩
      rw [← hc i hi j hj]
      exact World.cell?_of_block (w := w) (hg.block b hb (fun e => hne h0 b o rfl e.symm))
theorem map_erase {α β : Type} (f : α → β) (l : List α) (k : Nat) : (l.eraseIdx k).map f = (l.map f).eraseIdx k := by
  rw [List.eraseIdx_eq_take_drop_succ, List.eraseIdx_eq_take_drop_succ, List.map_append, List.map_take, List.map_drop]
/-- A row of cells stands where a slice is stored over a slice. -/
theorem Sl.over {W : World} {v u : Value} {l : List K} {p : Addr} {x : Option Addr} {n c : Nat} (h : Sl W v 5 (l.map K.pc)) (hc : W.cell? p = some (.slice x n c)) : Sl (W.setCell p u) v 5 (l.map K.pc) := by
  obtain ⟨a, cap, rfl, h⟩ := h
  refine ⟨a, cap, rfl, ?_⟩
  rcases h with h | ⟨b, o, rfl, hb, hx⟩
  · exact .inl h
  · refine .inr ⟨b, o, rfl, by simpa [World.setCell] using hb, fun i hi j hj => ?_⟩
    rw [← hx i hi j hj]
    refine World.cell?_setCell_other _ _ _ _ (fun e => ?_)
    have h1 := hx i hi j hj
    rw [List.length_map] at hi
    rw [← e, hc, getD_map K.pc l hi] at h1
    have : j = 0 ∨ j = 1 ∨ j = 2 ∨ j = 3 ∨ j = 4 := by omega
    rcases this with rfl | rfl | rfl | rfl | rfl <;> simp [K.pc] at h1

set_option maxRecDepth 100000 in set_option maxHeartbeats 1600000 in
theorem clonePR_any (l : List PR) (a : Option Addr) (cap : Nat) (w : World) (hl : Sl w (.slice a l.length cap) 1 (l.map PR.cell)) (hlen : l.length ≤ 1000) :
    Calls Tryz.prog 68 #[.slice a l.length cap] w fun e w' => ∃ a' cap', e = .returned (.slice a' l.length cap') ∧ w'.ownsRow w.heap.size 71 1 (.slice a' l.length cap') l.length ((l.map PR.cell).flatten) ∧ Ext w w' := by
  obtain ⟨i0, hi, hz0, hz1, hz2⟩ := info_parts Tryz.infoRowP
  have HL := Hid.mk' hl
  clear hl
  cases a with
  | none =>
    have h0 : l = [] := by
      obtain ⟨a, c, hv, h⟩ := HL.out
      simp only [Value.slice.injEq] at hv
      rcases h with h | ⟨b, o, ha, _⟩
      · simpa using h
      · rw [← hv.1] at ha; cases ha
    obtain ⟨a, c, hv, -⟩ := HL.out
    subst h0
    clear HL hv
    go_enter Tryz.func68, Tryz.ntmps68
    go_wp2
    go_ret
    exact ⟨_, _, rfl, World.ownsRow_nil _ _ _ _, by exact eX⟩
  | some ad =>
    have hnews : ∀ j u, ((l.map PR.cell).flatten)[j]? = some u → (w.alloc (.cells #[] 71)).cell? (ad.add j) = some u := by
      obtain ⟨a, c, hv, h⟩ := HL.out
      simp only [Value.slice.injEq] at hv
      obtain ⟨rfl, -, -⟩ := hv
      rcases h with h | ⟨b, o, ha, hb, hc⟩
      · have h0 : l = [] := by simpa using h
        subst h0; intro j u hj; simp at hj
      · cases ha
        refine newsPR fun i hi j hj => ?_
        have hE : Ext w (w.alloc (.cells #[] 71)) := (Ext.refl w).alloc _
        rw [hE.cells.1 b _ hb]
        exact hc i (by simpa using hi) j hj
    have HN := Hid.mk' hnews
    clear HL hnews
    go_enter Tryz.func68, Tryz.ntmps68
    go_wp2_with (at_builtin; refine wpList_append_own _ rfl _ _ 66 rfl w.heap.size 71 i0 _ 1 24 Tryz.underlying66 hi hz0 hz1 hz2 rfl (by decide) (.slice (some ⟨w.heap.size, 0, none⟩) 0 0) 0 [] rfl ?c0 _ l.length _ ((l.map PR.cell).flatten) rfl (flatPR_len l) HN.out ?c2 ?c3 ?c4 ?c5 ?_)
    case c0 => exact ⟨rfl, .inr ⟨_, 0, #[], rfl, Nat.le_refl _, Blk.new w #[] _, Nat.le_refl _, Nat.zero_le _, rfl, rfl⟩⟩
    case c2 => intro u hu; rw [List.mem_flatten] at hu; obtain ⟨xs, hxs, hu⟩ := hu; rw [List.mem_map] at hxs; obtain ⟨c, _, rfl⟩ := hxs; exact PR.one c u hu
    case c3 => unfold maxLen; omega
    case c4 => omega
    case c5 => simp
    intro v' w2 hown hgrow _
    have hown : w2.ownsRow w.heap.size 71 1 v' l.length ((l.map PR.cell).flatten) := by simpa using hown
    have hE2 : Ext w w2 := ((Ext.refl w).alloc (.cells #[] 71)).grown (v := .slice (some ⟨w.heap.size, 0, none⟩) 0 0) (e := 71) (size := 1) (n := 0) (xs := []) ⟨rfl, .inr ⟨_, 0, #[], rfl, Nat.le_refl _, Blk.new w #[] _, Nat.le_refl _, Nat.zero_le _, rfl, rfl⟩⟩ hgrow
    obtain ⟨a', c', rfl⟩ := owns_shape hown
    have HO := Hid.mk' hown
    have HE2 := Hid.mk' hE2
    clear hown hgrow hE2
    go_wp2
    go_ret
    exact ⟨_, _, rfl, HO.out, HE2.out⟩

/-- slices.Delete of one row of a block of the call's own. -/
theorem delPR_any (qs : List PR) (g cap k : Nat) (w : World) (h : PRAt w g qs) (hk : k < qs.length) (hcap : qs.length ≤ cap) (hm : cap ≤ 9223372036854775807) :
    Calls Tryz.prog 70 #[.slice (some ⟨g, 0, none⟩) qs.length cap, .int .i64 k, .int .i64 ((k + 1 : Nat) : Int)] w fun e w' => e = .returned (.slice (some ⟨g, 0, none⟩) (qs.eraseIdx k).length cap) ∧ Sl w' (.slice (some ⟨g, 0, none⟩) (qs.eraseIdx k).length cap) 1 ((qs.eraseIdx k).map PR.cell) ∧ ∃ q, ∃ d : Array PR, w' = putRow PR.val (Sort.ahead w q) g 0 d := by
  obtain ⟨i0, hi, hz0, hz1, hz2⟩ := info_parts Tryz.infoRowP
  have hc := AnyE.slices_Delete Tryz.delR PR.val (fun x => rfl) (⟨[], none, 0⟩ : PR) (fun w => Tryz.zeroValue71 w) i0 hi hz1 g 0 cap k (k + 1) qs.toArray w h.holds (by simpa using hcap) hm (by omega) (by simp; omega)
  have hlen : (qs.eraseIdx k).length = qs.length - 1 := List.length_eraseIdx_of_lt hk
  have hsz : (qs.toArray.toList.take k ++ qs.toArray.toList.drop (k + 1) ++ List.replicate (k + 1 - k) (⟨[], none, 0⟩ : PR)).toArray.size = qs.toArray.size := by simp; omega
  rw [List.size_toArray] at hc
  refine (show Calls Tryz.prog 70 #[.slice (some ⟨g, 0, none⟩) qs.length cap, .int .i64 k, .int .i64 ((k + 1 : Nat) : Int)] w _ from hc).mono ?_
  rintro e w' ⟨rfl, q, rfl⟩
  rw [hlen]
  refine ⟨by simp, ?_, q, _, rfl⟩
  have hH := holds_putRow PR.val (Sort.ahead w q) g 0 qs.toArray _ h.holds hsz
  refine Sl.of_holds (qs := qs.eraseIdx k) (fun j hj => ?_) (fun _ => by rw [size_putRow]; exact h.lt) (by rw [hlen]) cap
  have hj2 : j < qs.length - 1 := by simpa [hlen] using hj
  have h1 := hH j (by simp; omega)
  have e1 : (qs.toArray.toList.take k ++ qs.toArray.toList.drop (k + 1) ++ List.replicate (k + 1 - k) (⟨[], none, 0⟩ : PR)).toArray[j]! = (qs.eraseIdx k).toArray[j]! := by
    have e2 : qs.eraseIdx k = qs.take k ++ qs.drop (k + 1) := List.eraseIdx_eq_take_drop_succ qs k
    rw [getElem!_pos _ j (by simp; omega), getElem!_pos _ j hj]
    simp only [List.getElem_toArray, e2]
    rw [List.getElem_append_left (by simp; omega)]
  rw [e1] at h1
  exact h1

end Go.Proofs.YtdgalkljngigeaaGreat

/-
Append to the front of a row that is cut to its length: what is made lies apart.
-/
namespace Go.Proofs.YtdgalkljngigeaaGreat
open Go.RowKit

theorem run_append_cut {P : Program} {w : World} (t ty e : TypeId) (i : TypeInfo) (z : Value) (bytes : Nat) (ht : P.underlying t = some (.slice e)) (hi : P.info? e = some i) (hz : i.zero = some z)
    (hsize : i.size = 1) (hby : i.bytes = bytes) (hzs : z.cells.size = 1) (g : Nat) (k cap : Nat) (hkc : cap = k) (xa xb : List PR) (hk : xa.length = k) (hg : g < w.heap.size)
    (hgt : ∃ cs, Blk w g cs 45) (he : e = 45) (holds : ∀ j u, (xa.map PR.cell).flatten[j]? = some u → w.cell? ((⟨g, 0, none⟩ : Addr).add j) = some u)
    (A : Option Addr) (c : Nat) (hu : Sl w (.slice A xb.length c) 1 (xb.map PR.cell)) (hn : k + xb.length ≤ 1000) (hb : bytes ≤ 1000) :
    ∃ v' w', (Builtin.append_ #[t, t] ty #[.slice (some ⟨g, 0, none⟩) k cap, .slice A xb.length c]).run P w = .ok v' w' ∧ (∃ a' c', v' = .slice a' (xa ++ xb).length c' ∧ (xa ++ xb).length ≤ c' ∧ TagR w' v') ∧ Sl w' v' 1 ((xa ++ xb).map PR.cell) ∧ Ext w w' := by
  subst hkc
  have flA := flatPR_len xa
  have flB := flatPR_len xb
  rw [Nat.mul_one] at flA flB
  by_cases h0 : xb = []
  · subst h0
    have hr : (Builtin.append_ #[t, t] ty #[.slice (some ⟨g, 0, none⟩) cap cap, .slice A 0 c]).run P w = .ok (.slice (some ⟨g, 0, none⟩) cap cap) w := by
      rcases A with _ | ad
      · simp [Builtin.append_, run_underlying ht, sizeOf, typeInfo, hi, Builtin.lenOf, Builtin.firstCells, storeCells]
      · simp [Builtin.append_, run_underlying ht, sizeOf, typeInfo, hi, Builtin.lenOf, Builtin.firstCells, loadCells, loadCellsFrom, storeCells]
    refine ⟨_, w, hr, ⟨some ⟨g, 0, none⟩, cap, by rw [List.append_nil, hk], by rw [List.append_nil, hk]; exact Nat.le_refl _, TagR.of hgt.choose_spec _ _ _⟩, ⟨some ⟨g, 0, none⟩, cap, by rw [List.append_nil, List.length_map, hk], ?_⟩, Ext.refl w⟩
    by_cases hx : xa = []
    · left; rw [hx]; rfl
    · refine .inr ⟨g, 0, rfl, hg, fun i' hi' j hj => ?_⟩
      rw [List.append_nil] at hi' ⊢
      rw [List.length_map] at hi'
      obtain rfl : j = 0 := by omega
      have h1 := holds i' xa[i'].val (by rw [flatPR_get, List.getElem?_map, List.getElem?_eq_getElem hi']; rfl)
      rw [Addr.add_lit] at h1
      rw [getD_map PR.cell xa hi', Nat.mul_one, Nat.add_zero]
      exact h1
  · obtain ⟨A', c', hv, hu2⟩ := hu
    simp only [Value.slice.injEq] at hv
    obtain ⟨rfl, -, rfl⟩ := hv
    rcases hu2 with h1 | ⟨b, o, rfl, hbw, hc⟩
    · exact absurd (by simpa using h1) h0
    · have hm : 0 < xb.length := List.length_pos_iff.2 h0
      have hnews := news_sl (w := w) (b := b) (o := o) (k := 1) (xss := xb.map PR.cell) (by decide) (PR.len xb) (by simpa using hc)
      have hs : cap + xb.length ≤ 9223372036854775807 := by omega
      have hfit : (cap + xb.length) * i.bytes ≤ 140737488355328 := by
        rw [hby]
        calc (cap + xb.length) * bytes ≤ 1000 * 1000 := Nat.mul_le_mul hn hb
          _ ≤ _ := by decide
      have hr := run_append_grow (P := P) w t ty e i z ht hi hz ⟨g, 0, none⟩ cap cap ((xa.map PR.cell).flatten) (by rw [hsize]; omega) holds ⟨b, o, none⟩ xb.length c ((xb.map PR.cell).flatten) (by rw [hsize]; omega) hnews (by omega) (by omega) (growslice_fits (by omega) hfit)
      have hge := grownCap_ge w (cap + xb.length) cap e
      have hcm : grownCap w (cap + xb.length) cap e ≤ maxLen := grownCap_le_maxLen w (cap + xb.length) cap e (by unfold maxLen; omega)
      have hown : (w.drew.alloc (.cells ((xa.map PR.cell).flatten.toArray ++ (xb.map PR.cell).flatten.toArray ++ Builtin.zeroCells z.cells (grownCap w (cap + xb.length) cap e - (cap + xb.length))) e)).ownsRow w.heap.size e 1 (.slice (some ⟨w.heap.size, 0, none⟩) (cap + xb.length) (grownCap w (cap + xb.length) cap e)) (cap + xb.length) ((xa.map PR.cell).flatten ++ (xb.map PR.cell).flatten) := by
        refine ⟨by rw [List.length_append, flA, flB, hk, Nat.mul_one], .inr ⟨w.heap.size, _, _, rfl, Nat.le_refl _, heap_alloc_new w.drew _, hge, hcm, ?_, ?_⟩⟩
        · simp only [Array.size_append, List.size_toArray, size_zeroCells, hzs, flA, flB, Nat.mul_one]
          omega
        · simp only [Array.toList_append, Nat.mul_one]
          rw [show cap + xb.length = ((xa.map PR.cell).flatten ++ (xb.map PR.cell).flatten).length by rw [List.length_append, flA, flB, hk]]
          exact List.take_left
      refine ⟨_, _, hr, ⟨_, _, by rw [List.length_append, hk], by rw [List.length_append, hk]; exact hge, by subst he; exact TagR.owns hown⟩, ?_, (Ext.refl w).drew.alloc _⟩
      have h3 : (xa ++ xb).length = cap + xb.length := by rw [List.length_append, hk]
      refine Sl.of_owns (base := w.heap.size) (e := e) ?_ (PR.len _)
      rw [List.length_map, List.map_append, List.flatten_append, h3]
      exact hown

/-- At the operation. -/
theorem wp_append_cut {P : Program} {w : World} {o : Oper} {a : Act} {K : Act → World → Prop} {Q : Exit → Act → World → Prop} (s x : Operand) (t : TypeId)
    (ho : o.op = .call { callee := .builtin .append, args := #[s, x], argTypes := #[t, t] })
    (e : TypeId) (i : TypeInfo) (z : Value) (bytes : Nat) (ht : P.underlying t = some (.slice e)) (hi : P.info? e = some i) (hz : i.zero = some z)
    (hsize : i.size = 1) (hby : i.bytes = bytes) (hzs : z.cells.size = 1) (g k cap : Nat) (hkc : cap = k) (xa xb : List PR) (hk : xa.length = k) (hg : g < w.heap.size)
    (hgt : ∃ cs, Blk w g cs 45) (he : e = 45) (holds : ∀ j u, (xa.map PR.cell).flatten[j]? = some u → w.cell? ((⟨g, 0, none⟩ : Addr).add j) = some u)
    (A : Option Addr) (n c : Nat) (hnx : xb.length = n) (hu : Sl w (.slice A n c) 1 (xb.map PR.cell)) (hn : k + n ≤ 1000) (hb : bytes ≤ 1000)
    (hs : a.eval s = .slice (some ⟨g, 0, none⟩) k cap) (hx : a.eval x = .slice A n c)
    (h : ∀ a' c' w', ((xa ++ xb).length ≤ c' ∧ TagR w' (.slice a' (xa ++ xb).length c')) → Sl w' (.slice a' (xa ++ xb).length c') 1 ((xa ++ xb).map PR.cell) → Ext w w' → K (a.put o.dst (.slice a' (xa ++ xb).length c')) w') : o.wp P a w K Q := by
  subst hnx
  obtain ⟨v', w', hrun, ⟨a', c', rfl, h1⟩, h2, h3⟩ := run_append_cut (P := P) t o.type e i z bytes ht hi hz hsize hby hzs g k cap hkc xa xb hk hg hgt he holds A c hu hn hb
  unfold Oper.wp execOp
  simp only [ho, resolve, invoke, builtin, Sem.run_bind, Sem.run_pure, Result.andThen_ok, List.map_toArray, List.map_cons, List.map_nil, hs, hx, hrun]
  exact h a' c' w' h1 h2 h3

/-- The reference's rows in a block that is known. -/
def RAt (W : World) (g : Nat) (qs : List PR) : Prop := ∃ cs : Array Value, Blk W g cs 45 ∧ qs.length ≤ cs.size ∧ ∀ i (hi : i < qs.length), cs[i]? = some qs[i].val
section
variable {W W' : World} {g : Nat} {qs : List PR}
theorem RAt.lt (h : RAt W g qs) : g < W.heap.size := by obtain ⟨cs, hb, _⟩ := h; exact hb.lt
theorem RAt.tag (h : RAt W g qs) (o n c : Nat) : TagR W (.slice (some ⟨g, o, none⟩) n c) := by obtain ⟨cs, hb, _⟩ := h; exact TagR.of hb o n c
theorem RAt.ext (h : RAt W g qs) (he : Ext W W') : RAt W' g qs := by obtain ⟨cs, hb, hr⟩ := h; exact ⟨cs, hb.ext he, hr⟩
theorem RAt.frozen (h : RAt W g qs) (o : Nat) : W.frozen? ⟨g, o, none⟩ = false := by obtain ⟨cs, hb, _⟩ := h; exact hb.frozen o
theorem RAt.cell (h : RAt W g qs) {i : Nat} (hi : i < qs.length) : W.cell? ⟨g, i, none⟩ = some (.slice (qs[i]'hi).a (qs[i]'hi).l.length (qs[i]'hi).c) := by
  obtain ⟨cs, hb, _, hx⟩ := h
  rw [hb.cell, hx i hi]; rfl
theorem RAt.set (h : RAt W g qs) {i : Nat} (hi : i < qs.length) (q : PR) : RAt (W.setCell ⟨g, i, none⟩ (.slice q.a q.l.length q.c)) g (qs.set i q) := by
  obtain ⟨cs, hb, hs, hx⟩ := h
  refine ⟨_, hb.set i _, by simpa using hs, fun j hj => ?_⟩
  rw [List.length_set] at hj
  by_cases e : j = i
  · subst e
    rw [List.getElem_set_self, Array.getElem?_setIfInBounds_self_of_lt (by omega)]; rfl
  · rw [List.getElem_set_ne (Ne.symm e), Array.getElem?_setIfInBounds_ne (Ne.symm e)]
    exact hx j hj
theorem RAt.row (h : RAt W g qs) (cap : Nat) : Sl W (.slice (some ⟨g, 0, none⟩) qs.length cap) 1 (qs.map PR.cell) := by
  refine ⟨_, cap, by rw [List.length_map], .inr ⟨g, 0, rfl, h.lt, fun i hi j hj => ?_⟩⟩
  rw [List.length_map] at hi
  obtain rfl : j = 0 := by omega
  rw [getD_map PR.cell qs hi, Nat.mul_one, Nat.zero_add, Nat.add_zero, h.cell hi]; rfl
theorem RAt.of_owns {base n cap : Nat} (h : W.ownsRow base 45 1 (.slice (some ⟨g, 0, none⟩) n cap) n (qs.map PR.cell).flatten) (hn : qs.length = n) : RAt W g qs := by
  obtain ⟨h1, h2⟩ := h
  rcases h2 with ⟨h3, _⟩ | ⟨g', cap', cur, hv, hg, hh, hnc, hcap, hsz, htake⟩
  · cases h3
  · simp only [Value.slice.injEq, Option.some.injEq, Addr.mk.injEq] at hv
    obtain ⟨⟨rfl, -, -⟩, -, rfl⟩ := hv
    refine ⟨cur, hh, by omega, fun i hi => ?_⟩
    rw [flatPR_get, Nat.mul_one] at htake
    have h3 := congrArg (fun z => z[i]?) htake
    simp only [List.getElem?_map, List.getElem?_eq_getElem hi, Option.map_some] at h3
    rw [List.getElem?_take_of_lt (by omega), Array.getElem?_toList] at h3
    exact h3
end
theorem Sl.overR {W : World} {v u : Value} {l : List K} {p : Addr} {x : Option Addr} {n c : Nat} (h : Sl W v 6 (l.map K.rc)) (hc : W.cell? p = some (.slice x n c)) : Sl (W.setCell p u) v 6 (l.map K.rc) := by
  obtain ⟨a, cap, rfl, h⟩ := h
  refine ⟨a, cap, rfl, ?_⟩
  rcases h with h | ⟨b, o, rfl, hb, hx⟩
  · exact .inl h
  · refine .inr ⟨b, o, rfl, by simpa [World.setCell] using hb, fun i hi j hj => ?_⟩
    rw [← hx i hi j hj]
    refine World.cell?_setCell_other _ _ _ _ (fun e => ?_)
    have h1 := hx i hi j hj
    rw [List.length_map] at hi
    rw [← e, hc, getD_map K.rc l hi] at h1
    have : j = 0 ∨ j = 1 ∨ j = 2 ∨ j = 3 ∨ j = 4 ∨ j = 5 := by omega
    rcases this with rfl | rfl | rfl | rfl | rfl | rfl <;> simp [K.rc] at h1

end Go.Proofs.YtdgalkljngigeaaGreat
