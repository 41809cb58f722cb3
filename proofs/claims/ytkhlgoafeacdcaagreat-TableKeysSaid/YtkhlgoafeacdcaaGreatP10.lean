/-
Has a relation a column of the key? The tables' own asking.
-/
import Derived.Shelf.SlicesE.Delete
import Derived.Shelf.SlMaps.Clone
import Derived.Maps.AppendAt
import Derived.Test.YtkhlgoafeacdcaaGreatP9
namespace Go.Proofs.YtkhlgoafeacdcaaGreat
open Go.RowKit Go.Shelf
attribute [local go_sem] Oper.semAt_some

set_option maxRecDepth 100000 in
set_option maxHeartbeats 2000000 in
theorem tkeyed_in (F : Fence) (n : Nat) (h1F : F.fn 98) (hKF : F.fn 76) (hDF : F.fn 50) (hro : F.round = none) (hn : 3 ≤ n) (oid ver : Int) (nm : ByteArray) (id : Int) (cols : List Col) (a : Option Addr) (cap : Nat) (w : World) (hl : Sl w (.slice a cols.length cap) 3 (cols.map Col.cells)) (hlen : cols.length ≤ 1000) :
    CallsIn F n Tryz.prog 50 #[.agg #[.int .u32 oid, .int .u32 ver, .string nm, .int .u8 id, .slice a cols.length cap]] w fun e w' => e = .returned (.bool (cols.any Col.key)) ∧ Ext w w' := by
  have h1 : 1 ≤ n := by omega
  have HL := Hid.mk' hl
  clear hl
  refine callsIn_of_wp_marks Tryz.func50 rfl hDF ?_ hro
  simp only [Tryz.ntmps50, List.size_toArray, List.length_cons, List.length_nil, Nat.reduceAdd, Nat.reduceSub, Array.replicate_succ, Array.replicate_zero, List.push_toArray, List.append_toArray, List.nil_append, List.cons_append]
  gi_wp2_with (gi_at_call 76; refine (keys_in F (n - 1) hKF hro _ _ _ _ _ _).mono ?_; rintro e w' ⟨rfl, rfl⟩)
  have hE3 : Ext w (((w.alloc (.cells #[.int .u32 oid, .int .u32 ver, .string nm, .int .u8 id, .slice a cols.length cap] 99)).alloc (.cells #[.bool false] 4)).alloc (.cells #[.int .u32 oid, .int .u32 ver, .string nm, .int .u8 id, .slice a cols.length cap] 99)) := ((Ext.refl w).alloc _).alloc _ |>.alloc _
  have hB1 : Blk (((w.alloc (.cells #[.int .u32 oid, .int .u32 ver, .string nm, .int .u8 id, .slice a cols.length cap] 99)).alloc (.cells #[.bool false] 4)).alloc (.cells #[.int .u32 oid, .int .u32 ver, .string nm, .int .u8 id, .slice a cols.length cap] 99)) (w.heap.size + 1) #[.bool false] 4 := (Blk.new' _ _ (by simp)).alloc _
  have hB2 : Blk (((w.alloc (.cells #[.int .u32 oid, .int .u32 ver, .string nm, .int .u8 id, .slice a cols.length cap] 99)).alloc (.cells #[.bool false] 4)).alloc (.cells #[.int .u32 oid, .int .u32 ver, .string nm, .int .u8 id, .slice a cols.length cap] 99)) (w.heap.size + 1 + 1) #[.int .u32 oid, .int .u32 ver, .string nm, .int .u8 id, .slice a cols.length cap] 99 := Blk.new' _ _ (by simp)
  refine wpIn_rangeFunc_ownG hro h1 (gf := 98) (lb := #[.pointer (some ⟨w.heap.size + 1 + 1, 0, none⟩)]) rfl h1F (enters_of Tryz.func98 (by kernel_rfl) rfl)
    (keys_stops F (n - 1) h1F hro (by omega) (w.heap.size + 1 + 1) w a cap cols hlen HL.out _ hE3 (hB2.cell 4) hB2.lt) belowK_t (belowK_b (by simp; omega)) (Below.refl _ _) (fun _ => rfl)
    (fun pre W => (pre = [] ∧ W.cell? ⟨w.heap.size + 1, 0, none⟩ = some (.bool false) ∧ W.frozen? ⟨w.heap.size + 1, 0, none⟩ = false) ∧ Below w.heap.size w W)
    (fun c pre W => (c = .ret ∧ pre ≠ [] ∧ W.cell? ⟨w.heap.size + 1, 0, none⟩ = some (.bool true)) ∧ Below w.heap.size w W)
    (OwnFrom.and (Own.from (fun s A B row hs hg hr => ⟨hs.1, cell_kept hs.2.1 hg hr, (frozen_kept hs.2.1 hg hr).trans hs.2.2⟩) _) (ownFrom_below (Nat.le_refl _) (by simp; omega)))
    (fun c => OwnFrom.and (Own.from (fun s A B row hs hg hr => ⟨hs.1, hs.2.1, cell_kept hs.2.2 hg hr⟩) _) (ownFrom_below (Nat.le_refl _) (by simp; omega)))
    ⟨⟨rfl, hB1.cell 0, hB1.frozen 0⟩, hE3⟩
    (fun x => { tmps := #[.agg #[.int .u32 oid, .int .u32 ver, .string nm, .int .u8 id, .slice a cols.length cap], .pointer (some ⟨w.heap.size, 0, none⟩), .pointer (some ⟨w.heap.size + 1, 0, none⟩), .agg #[.int .u32 oid, .int .u32 ver, .string nm, .int .u8 id, .slice a cols.length cap], .func (.func 98) #[] #[.pointer (some ⟨w.heap.size + 1 + 1, 0, none⟩)], .int .i64 (x.1.1 : Int), .agg #[.string x.1.2.nm, .int .u8 x.1.2.ty, .bool x.1.2.key]], defers := [] }) ?assign ?body ?done ?stop
  case assign =>
    intro l x W K hK
    unfold encK
    rw [fold_two]
    gi_wp2
    exact hK
  case body =>
    rintro l pre x W ⟨⟨rfl, hc, hf⟩, hB⟩ _
    gi_wp2
    exact ⟨(KeepsOthers.setCell _ _ _).from _, ⟨rfl, by simp, World.cell?_setCell_same' _ _ _ (by rw [hc]; rfl)⟩, hB.setCell (p := ⟨w.heap.size + 1, 0, none⟩) (by simp) _⟩
  case done =>
    rintro D ys W hD hys ⟨⟨rfl, hc, hf⟩, hB⟩ hK
    gi_wp2
    have hK' := (KeepsOthers.setCell W ⟨w.heap.size + 1, 0, none⟩ (.bool false)).same D _ hK rfl
    refine ⟨by simp, .inl ⟨_, _, rfl, run_takeDeferred hK', ?_⟩⟩
    have hc5 := cell_kept (World.cell?_setCell_same' W ⟨w.heap.size + 1, 0, none⟩ (.bool false) (by rw [hc]; rfl)) (grownBy_putObj' _ D (.deferred none)) (fun r e => by cases e; exact ⟨_, hK', rfl⟩)
    refine ⟨.bool false, ?_, by rw [keysUp_none.1 hys.symm], (hB.setCell (p := ⟨w.heap.size + 1, 0, none⟩) (by simp) _).trans (belowK_b (w := w) (Nat.le_refl _) _ D _ _ (by simp at hD; omega) hK' rfl rfl)⟩
    simp [results, Tryz.f50, go_sem, hc5]
  case stop =>
    rintro D c pre W hD ⟨k, hk, rfl⟩ ⟨⟨rfl, hne, hc⟩, hB⟩ hK
    gi_wp2
    refine ⟨by simp, .inl ⟨_, _, rfl, run_takeDeferred hK, ?_⟩⟩
    have hc5 := cell_kept hc (grownBy_putObj' _ D (.deferred none)) (fun r e => by cases e; exact ⟨_, hK, rfl⟩)
    refine ⟨.bool true, ?_, by rw [keysUp_any hne], hB.trans (belowK_b (w := w) (Nat.le_refl _) W D _ _ (by simp at hD; omega) hK rfl rfl)⟩
    simp [results, Tryz.f50, go_sem, hc5]

theorem tkeyed_any (oid ver : Int) (nm : ByteArray) (id : Int) (cols : List Col) (a : Option Addr) (cap : Nat) (w : World) (hl : Sl w (.slice a cols.length cap) 3 (cols.map Col.cells)) (hlen : cols.length ≤ 1000) :
    Calls Tryz.prog 50 #[.agg #[.int .u32 oid, .int .u32 ver, .string nm, .int .u8 id, .slice a cols.length cap]] w fun e w' => e = .returned (.bool (cols.any Col.key)) ∧ Ext w w' :=
  callsIn_wide.1 (tkeyed_in Fence.wide 3 trivial trivial trivial rfl (Nat.le_refl _) oid ver nm id cols a cap w hl hlen)

end Go.Proofs.YtkhlgoafeacdcaaGreat

/-
Where the row of a key stands, by the program.
-/
namespace Go.Proofs.YtkhlgoafeacdcaaGreat
open Go.RowKit

theorem keyIs {cols : List Col} {l w : List K} : rowB (keyOf cols l) (keyOf cols w) = keyQ cols l w := rfl
set_option maxRecDepth 100000 in set_option maxHeartbeats 4000000 in
theorem bk1_any (pr pk : Nat) (oid ver : Int) (nm : ByteArray) (id : Int) (cols : List Col) (a2 : Option Addr) (cap2 : Nat) (key : List K) (ka : Option Addr) (kc : Nat) (l : List K) (a : Option Addr) (cap : Nat) (w : World)
    (hR : Blk w pr #[.int .u32 oid, .int .u32 ver, .string nm, .int .u8 id, .slice a2 cols.length cap2] 99) (hK : Blk w pk #[.slice ka key.length kc] 71) (hl2 : Sl w (.slice a2 cols.length cap2) 3 (cols.map Col.cells)) (hlen2 : cols.length ≤ 1000) (hk : Sl w (.slice ka key.length kc) 5 (key.map K.pc)) (hkn : key.length ≤ 1000) (hl : Sl w (.slice a l.length cap) 5 (l.map K.pc)) (hlen : l.length ≤ 1000) :
    Calls Tryz.prog 79 #[.slice a l.length cap, .pointer (some ⟨pr, 0, none⟩), .pointer (some ⟨pk, 0, none⟩)] w fun e w' => e = .returned (.bool (rowB (keyOf cols l) key)) ∧ Ext w w' := by
  have HKO := Hid.mk' (fun W (h : Ext w W) => keyOf_any oid ver nm id cols a2 cap2 l a cap W (hl2.ext h) hlen2 (hl.ext h) hlen)
  have HAL := Hid.mk' (fun W g c (h : Ext w W) (hr : RowAt W g (keyOf cols l)) => (alike_any (keyOf cols l) key (some ⟨g, 0, none⟩) ka c kc W (hr.sl c) (hk.ext h) (by rw [keyOf_len]; exact hlen) hkn))
  rw [keyOf_len] at HAL
  generalize rowB (keyOf cols l) key = B at HAL ⊢
  have g0 := hR.cell
  have g1 := hK.cell
  have z0 := hR.lt
  have z1 := hK.lt
  clear hR hK hl2 hk hl
  go_enter Tryz.func79, Tryz.ntmps79
  go_wp2
  go_region_held3 (fun w' => Ext (w) w' ∧ (∀ b o, b < (w).heap.size → w'.cell? ⟨b, o, none⟩ = (w).cell? ⟨b, o, none⟩) ∧ (∀ b o, b < (w).heap.size → w'.frozen? ⟨b, o, none⟩ = (w).frozen? ⟨b, o, none⟩)) ((exact held_of (by exact eX)))
    (first
      | (go_at_call 77; refine (HKO.out _ (by exact eX)).mono ?_; rintro e w2 ⟨g, c, rfl, hc, hg, hr, hb2⟩; have HR2 := Hid.mk' hr; have hE_w2 : Ext (w) w2 := (by exact eX); obtain ⟨hc_w2, hf_w2⟩ := hE_w2.cells; have hz_w2 := hE_w2.size; clear hr hc hg)
      | (go_at_call 30; refine (HAL.out _ _ _ (by exact eX) HR2.out).mono ?_; rintro e w3 ⟨rfl, hb3⟩))
  go_wp2
  go_ret
  exact ⟨rfl, by exact eX⟩

theorem PR.row {w wr : World} {v : Value} {qs : List PR} (h : RS 5 K.pc w v qs) {k : Nat} (hk : k < qs.length) (he : Ext w wr) : Sl wr (.slice qs[k].a qs[k].l.length qs[k].c) 5 (qs[k].l.map K.pc) := (h.sl _ (List.getElem_mem hk)).ext he

set_option maxRecDepth 100000 in set_option maxHeartbeats 4000000 in
theorem idxK_any (pr pk : Nat) (p : Nat → Bool) (a : Option Addr) (c : Nat) (qs : List PR) (w : World) (h : RS 5 K.pc w (.slice a qs.length c) qs) (hn : qs.length ≤ 1000)
    (hf : ∀ k (hk : k < qs.length) W, Ext w W → Calls Tryz.prog 79 #[.slice qs[k].a qs[k].l.length qs[k].c, .pointer (some ⟨pr, 0, none⟩), .pointer (some ⟨pk, 0, none⟩)] W fun e w' => e = .returned (.bool (p k)) ∧ Ext W w') :
    Calls Tryz.prog 78 #[.slice a qs.length c, .func (.func 79) #[] #[.pointer (some ⟨pr, 0, none⟩), .pointer (some ⟨pk, 0, none⟩)]] w fun e w' => e = .returned (.int .i64 (idxI p qs.length)) ∧ Ext w w' := by
  have HL := Hid.mk' h.row
  have HF := Hid.mk' hf
  clear h hf
  go_enter Tryz.func78, Tryz.ntmps78
  go_wp2
  go_loopw [8] (fun i wr => ∃ k : Nat, k ≤ qs.length ∧ i = .int .i64 k ∧ Hid (∀ j, j < k → p j = false) ∧ Hid (Ext w wr)) (fun i _ => qs.length - (intOf i).toNat)
  case atStart => exact ⟨0, Nat.zero_le _, rfl, fun j h => by omega, Ext.refl _⟩
  case round =>
    obtain ⟨k, hk, rfl, hrel, hE⟩ := hrel
    by_cases hlt : k < qs.length
    · obtain ⟨b, o, rfl, hb, hx⟩ := HL.out.at_ (i := k) (by simpa using hlt)
      have f0 := PR.at_ hlt hx hb hE.out
      have hbw : b < wr.heap.size := Nat.lt_of_lt_of_le hb hE.out.size
      have HFK := Hid.mk' (fun W h => HF.out k hlt W h)
      cases hq : p k with
      | true =>
        rw [hq] at HFK
        have HQ := Hid.mk' hq
        clear hq hx
        go_wp2_with (go_at_call 79; refine (HFK.out _ (hE.out.trans (by exact eX))).mono ?_; rintro e w1 ⟨rfl, hb1⟩)
        go_ret
        exact ⟨ret_int (idxI_at (fun i hi => hrel.out i hi) HQ.out hlt).symm, hE.out.trans (by exact eX)⟩
      | false =>
        rw [hq] at HFK
        have HQ := Hid.mk' hq
        clear hq hx
        go_wp2_with (go_at_call 79; refine (HFK.out _ (hE.out.trans (by exact eX))).mono ?_; rintro e w1 ⟨rfl, hb1⟩)
        go_roundw
        case rel => exact ⟨k + 1, by omega, by go_num, fun j hj => by
          by_cases e : j = k
          · subst e; exact HQ.out
          · exact hrel.out j (by omega), Hid.mk' (hE.out.trans (by exact eX))⟩
        case measure => simp [intOf]; omega
    · have hkk : k = qs.length := by omega
      have HQ := Hid.mk' (idxI_none (p := p) (n := qs.length) fun j hj => hrel.out j (by omega))
      subst hkk
      go_wp2
      go_ret
      exact ⟨ret_int HQ.out.symm, hE.out⟩

set_option maxRecDepth 100000 in set_option maxHeartbeats 4000000 in
theorem idxA_any (ba : Option Addr) (n bc : Nat) (p : Nat → Bool) (a : Option Addr) (c : Nat) (qs : List PR) (w : World) (h : RS 5 K.pc w (.slice a qs.length c) qs) (hn : qs.length ≤ 1000)
    (hf : ∀ k (hk : k < qs.length) W, Ext w W → Calls Tryz.prog 30 #[.slice ba n bc, .slice qs[k].a qs[k].l.length qs[k].c] W fun e w' => e = .returned (.bool (p k)) ∧ Ext W w') :
    Calls Tryz.prog 78 #[.slice a qs.length c, .func (.func 30) #[.slice ba n bc] #[]] w fun e w' => e = .returned (.int .i64 (idxI p qs.length)) ∧ Ext w w' := by
  have HL := Hid.mk' h.row
  have HF := Hid.mk' hf
  clear h hf
  go_enter Tryz.func78, Tryz.ntmps78
  go_wp2
  go_loopw [8] (fun i wr => ∃ k : Nat, k ≤ qs.length ∧ i = .int .i64 k ∧ Hid (∀ j, j < k → p j = false) ∧ Hid (Ext w wr)) (fun i _ => qs.length - (intOf i).toNat)
  case atStart => exact ⟨0, Nat.zero_le _, rfl, fun j h => by omega, Ext.refl _⟩
  case round =>
    obtain ⟨k, hk, rfl, hrel, hE⟩ := hrel
    by_cases hlt : k < qs.length
    · obtain ⟨b, o, rfl, hb, hx⟩ := HL.out.at_ (i := k) (by simpa using hlt)
      have f0 := PR.at_ hlt hx hb hE.out
      have hbw : b < wr.heap.size := Nat.lt_of_lt_of_le hb hE.out.size
      have HFK := Hid.mk' (fun W h => HF.out k hlt W h)
      cases hq : p k with
      | true =>
        rw [hq] at HFK
        have HQ := Hid.mk' hq
        clear hq hx
        go_wp2_with (go_at_call 30; refine (HFK.out _ (hE.out.trans (by exact eX))).mono ?_; rintro e w1 ⟨rfl, hb1⟩)
        go_ret
        exact ⟨ret_int (idxI_at (fun i hi => hrel.out i hi) HQ.out hlt).symm, hE.out.trans (by exact eX)⟩
      | false =>
        rw [hq] at HFK
        have HQ := Hid.mk' hq
        clear hq hx
        go_wp2_with (go_at_call 30; refine (HFK.out _ (hE.out.trans (by exact eX))).mono ?_; rintro e w1 ⟨rfl, hb1⟩)
        go_roundw
        case rel => exact ⟨k + 1, by omega, by go_num, fun j hj => by
          by_cases e : j = k
          · subst e; exact HQ.out
          · exact hrel.out j (by omega), Hid.mk' (hE.out.trans (by exact eX))⟩
        case measure => simp [intOf]; omega
    · have hkk : k = qs.length := by omega
      have HQ := Hid.mk' (idxI_none (p := p) (n := qs.length) fun j hj => hrel.out j (by omega))
      subst hkk
      go_wp2
      go_ret
      exact ⟨ret_int HQ.out.symm, hE.out⟩

set_option maxRecDepth 100000 in set_option maxHeartbeats 4000000 in
theorem byKey_any (oid ver : Int) (nm : ByteArray) (id : Int) (cols : List Col) (a2 : Option Addr) (cap2 : Nat) (key : List K) (ka : Option Addr) (kc : Nat) (a : Option Addr) (c : Nat) (qs : List PR) (w : World) (hl2 : Sl w (.slice a2 cols.length cap2) 3 (cols.map Col.cells)) (hlen2 : cols.length ≤ 1000) (hk : Sl w (.slice ka key.length kc) 5 (key.map K.pc)) (hkn : key.length ≤ 1000) (h : RS 5 K.pc w (.slice a qs.length c) qs) (hn : qs.length ≤ 1000) (hm : ∀ q ∈ qs, q.l.length ≤ 1000) :
    Calls Tryz.prog 51 #[.agg #[.int .u32 oid, .int .u32 ver, .string nm, .int .u8 id, .slice a2 cols.length cap2], .slice a qs.length c, .slice ka key.length kc] w fun e w' => e = .returned (.int .i64 (byKeyI cols (qs.map PR.l) key (-1))) ∧ Ext w w' := by
  have e0 : byKeyI cols (qs.map PR.l) key (-1) = idxI (fun i => rowB (keyOf cols ((qs.map PR.l).getD i [])) (keyOf cols key)) qs.length := by
    unfold byKeyI
    rw [List.length_map]
    exact idxI_congr fun i hi => by
      have : decide ((i : Int) ≠ -1) = true := decide_eq_true (by omega)
      rw [this, Bool.true_and]; rfl
  have HKO := Hid.mk' (fun W (h : Ext w W) => keyOf_any oid ver nm id cols a2 cap2 key ka kc W (hl2.ext h) hlen2 (hk.ext h) hkn)
  have HXF := Hid.mk' (fun W g cg (he : Ext w W) pr pk (hR : Blk W pr #[.int .u32 oid, .int .u32 ver, .string nm, .int .u8 id, .slice a2 cols.length cap2] 99) (hr : RowAt W g (keyOf cols key)) (hK : Blk W pk #[.slice (some ⟨g, 0, none⟩) key.length cg] 71) =>
    idxK_any pr pk (fun i => rowB (keyOf cols ((qs.map PR.l).getD i [])) (keyOf cols key)) a c qs W (h.ext he) hn (fun k hlt W' he' => by
      have e1 : (qs.map PR.l).getD k [] = qs[k].l := by simp [hlt]
      have e2 := keyOf_len (cols := cols) (l := key)
      have hs := hr.sl cg
      rw [e2] at hs
      have := bk1_any pr pk oid ver nm id cols a2 cap2 (keyOf cols key) (some ⟨g, 0, none⟩) cg qs[k].l qs[k].a qs[k].c W' (hR.ext he') (by rw [e2]; exact hK.ext he') (hl2.ext (he.trans he')) hlen2 (by rw [e2]; exact hs.ext he') (by rw [e2]; exact hkn) (PR.row h hlt (he.trans he')) (hm _ (List.getElem_mem hlt))
      simp only [e1]
      exact this))
  rw [← e0] at HXF
  generalize byKeyI cols (qs.map PR.l) key (-1) = I at HXF ⊢
  clear hl2 hk h hm e0
  go_enter Tryz.func51, Tryz.ntmps51
  go_wp2_with (first
    | (go_at_call 77; refine (HKO.out _ (by exact eX)).mono ?_; rintro e w2 ⟨g, cg, rfl, -, hg, hr, hb2⟩; have HE2 := Hid.mk' (show Ext w w2 by exact eX); have HB2 := Hid.mk' ((Blk.new w #[.int .u32 oid, .int .u32 ver, .string nm, .int .u8 id, .slice a2 cols.length cap2] 99).ext hb2); have HR2 := Hid.mk' hr; clear hr hg hb2)
    | (go_at_call 78; refine (HXF.out _ _ _ (HE2.out.trans (by exact eX)) _ _ (HB2.out.ext (by exact eX)) (HR2.out.ext (by exact eX)) (by first | exact Blk.new _ _ _ | exact Blk.new' _ _ (by simp))).mono ?_; rintro e w3 ⟨rfl, hb3⟩))
  go_ret
  exact ⟨rfl, HE2.out.trans (by exact eX)⟩

end Go.Proofs.YtkhlgoafeacdcaaGreat

/-
Is a key taken, where does the row of an old image stand: the program's.
-/
namespace Go.Proofs.YtkhlgoafeacdcaaGreat
open Go.RowKit

theorem byKey_one {cols : List Col} {q key : List K} : byKeyI cols [q] key (-1) = if keyQ cols q key = true then 0 else -1 := by simp [byKeyI, idxI]
theorem RS.one {W : World} {g : Nat} {q : PR} (h : Blk W g #[q.val] 71) (hs : Sl W q.val 5 (q.l.map K.pc)) : RS 5 K.pc W (.slice (some ⟨g, 0, none⟩) 1 1) [q] := by
  refine ⟨⟨_, 1, rfl, .inr ⟨g, 0, rfl, h.lt, fun i hi j hj => ?_⟩⟩, fun x hx => (List.mem_singleton.1 hx) ▸ hs, Tag.of h 0 1 1⟩
  obtain rfl : i = 0 := by simpa using hi
  obtain rfl : j = 0 := by omega
  exact h.cell 0

set_option maxRecDepth 100000 in set_option maxHeartbeats 4000000 in
theorem taken_any (oid ver : Int) (nm : ByteArray) (id : Int) (cols : List Col) (a2 : Option Addr) (cap2 : Nat) (key : List K) (ka : Option Addr) (kc : Nat) (but : Int) (a : Option Addr) (c : Nat) (qs : List PR) (w : World) (hl2 : Sl w (.slice a2 cols.length cap2) 3 (cols.map Col.cells)) (hlen2 : cols.length ≤ 1000) (hk : Sl w (.slice ka key.length kc) 5 (key.map K.pc)) (hkn : key.length ≤ 1000) (h : RS 5 K.pc w (.slice a qs.length c) qs) (hn : qs.length ≤ 1000) (hm : ∀ q ∈ qs, q.l.length ≤ 1000) :
    Calls Tryz.prog 67 #[.agg #[.int .u32 oid, .int .u32 ver, .string nm, .int .u8 id, .slice a2 cols.length cap2], .slice a qs.length c, .slice ka key.length kc, .int .i64 but] w fun e w' => e = .returned (.bool (takenB cols (qs.map PR.l) key but)) ∧ Ext w w' := by
  have HKD := Hid.mk' (fun W (h : Ext w W) => tkeyed_any oid ver nm id cols a2 cap2 W (hl2.ext h) hlen2)
  have HBK := Hid.mk' (fun k (hlt : k < qs.length) W (he : Ext w W) g (hb : Blk W g #[qs[k].val] 71) => (show Calls Tryz.prog 51 #[.agg #[.int .u32 oid, .int .u32 ver, .string nm, .int .u8 id, .slice a2 cols.length cap2], .slice (some ⟨g, 0, none⟩) 1 1, .slice ka key.length kc] W (fun e w' => e = .returned (.int .i64 (if keyQ cols qs[k].l key = true then 0 else -1)) ∧ Ext W w') from by
    have := byKey_any oid ver nm id cols a2 cap2 key ka kc (some ⟨g, 0, none⟩) 1 [qs[k]] W (hl2.ext he) hlen2 (hk.ext he) hkn (RS.one hb (PR.row h hlt he)) (by simp) (fun q hq => (List.mem_singleton.1 hq) ▸ hm _ (List.getElem_mem hlt))
    rw [← byKey_one]
    exact this))
  have HL := Hid.mk' h.row
  have HRK : Hid (cols.any Col.key = rkey cols) := Hid.mk' rfl
  rw [HRK.out] at HKD
  have HTB : Hid (takenB cols (qs.map PR.l) key but = (rkey cols && decide (0 ≤ idxI (fun i => decide ((i : Int) ≠ but) && keyQ cols ((qs.map PR.l).getD i []) key) qs.length))) := Hid.mk' (by unfold takenB byKeyI; rw [List.length_map])
  have HGD : Hid (∀ k (hlt : k < qs.length), (qs.map PR.l).getD k [] = qs[k].l) := Hid.mk' (fun k hlt => by simp [hlt])
  generalize takenB cols (qs.map PR.l) key but = B at HTB ⊢
  generalize qs.map PR.l = ls at HTB HGD
  clear hl2 hk h hm HRK
  cases hr : rkey cols with
  | false =>
    rw [hr] at HTB HKD
    have HB := Hid.mk' (show B = false from by rw [HTB.out]; rfl)
    clear hr HTB
    go_enter Tryz.func67, Tryz.ntmps67
    go_wp2_with (go_at_call 50; refine (HKD.out _ (by exact eX)).mono ?_; rintro e w2 ⟨rfl, hb2⟩)
    go_ret
    exact ⟨ret_bool HB.out.symm, by exact eX⟩
  | true =>
    rw [hr] at HTB HKD
    have HTB2 := Hid.mk' (show B = decide (0 ≤ idxI (fun i => decide ((i : Int) ≠ but) && keyQ cols (ls.getD i []) key) qs.length) from by rw [HTB.out]; rfl)
    clear hr HTB
    go_enter Tryz.func67, Tryz.ntmps67
    go_wp2_with (go_at_call 50; refine (HKD.out _ (by exact eX)).mono ?_; rintro e w2 ⟨rfl, hb2⟩; have HE2 := Hid.mk' (show Ext w w2 by exact eX); have HB2 := Hid.mk' ((Blk.new w #[.int .u32 oid, .int .u32 ver, .string nm, .int .u8 id, .slice a2 cols.length cap2] 99).ext hb2); clear hb2)
    go_loopw [16] (fun i wr => ∃ k : Nat, k ≤ qs.length ∧ i = .int .i64 k ∧ Hid (∀ j, j < k → (decide ((j : Int) ≠ but) && keyQ cols (ls.getD j []) key) = false) ∧ Hid (Ext w2 wr)) (fun i _ => qs.length - (intOf i).toNat)
    case atStart => exact ⟨0, Nat.zero_le _, rfl, Hid.mk' (fun j h => by omega), Hid.mk' (Ext.refl _)⟩
    case round =>
      obtain ⟨k, hk, rfl, hrel, hE⟩ := hrel
      by_cases hlt : k < qs.length
      · obtain ⟨b, o, rfl, hb, hx⟩ := HL.out.at_ (i := k) (by simpa using hlt)
        have f0 := PR.at_ hlt hx hb (HE2.out.trans hE.out)
        have hbw : b < wr.heap.size := Nat.lt_of_lt_of_le hb (HE2.out.trans hE.out).size
        have g0 := (HB2.out.ext hE.out).cell
        have z0 := (HB2.out.ext hE.out).lt
        have HBKK := Hid.mk' (fun W h => HBK.out k hlt W h)
        have HGK := Hid.mk' (HGD.out k hlt)
        clear hx
        by_cases hbut : (k : Int) = but
        · have hb1 : (((k : Nat) : Int) != but) = false := by simpa using hbut
          have HQ := Hid.mk' (show (decide ((k : Int) ≠ but) && keyQ cols (ls.getD k []) key) = false from by rw [decide_eq_false (by simpa using hbut), Bool.false_and])
          clear hbut
          go_wp2
          go_roundw
          case rel => exact ⟨k + 1, by omega, by go_num, Hid.mk' (fun j hj => by
            by_cases e : j = k
            · subst e; exact HQ.out
            · exact hrel.out j (by omega)), Hid.mk' (hE.out.trans (by exact eX))⟩
          case measure => simp [intOf]; omega
        · have hb1 : (((k : Nat) : Int) != but) = true := by simpa using hbut
          have HQ0 := Hid.mk' (show (decide ((k : Int) ≠ but) && keyQ cols (ls.getD k []) key) = keyQ cols qs[k].l key from by rw [decide_eq_true (by simpa using hbut), Bool.true_and, HGK.out])
          clear hbut
          cases hq : keyQ cols qs[k].l key with
          | true =>
            rw [hq, if_pos rfl] at HBKK
            have HQ := Hid.mk' (show B = true from by rw [HTB2.out, idxI_at (fun i hi => hrel.out i hi) (HQ0.out.trans hq) hlt]; exact decide_eq_true (by omega))
            clear hq
            go_wp2_with (go_at_call 51; refine (HBKK.out _ (HE2.out.trans (hE.out.trans (by exact eX))) _ (by first | exact Blk.new _ _ _ | exact Blk.new' _ _ (by simp))).mono ?_; rintro e w3 ⟨rfl, hb3⟩)
            go_ret
            exact ⟨ret_bool HQ.out.symm, HE2.out.trans (hE.out.trans (by exact eX))⟩
          | false =>
            rw [hq, if_neg (by simp)] at HBKK
            have HQ := Hid.mk' (HQ0.out.trans hq)
            clear hq
            go_wp2_with (go_at_call 51; refine (HBKK.out _ (HE2.out.trans (hE.out.trans (by exact eX))) _ (by first | exact Blk.new _ _ _ | exact Blk.new' _ _ (by simp))).mono ?_; rintro e w3 ⟨rfl, hb3⟩)
            go_roundw
            case rel => exact ⟨k + 1, by omega, by go_num, Hid.mk' (fun j hj => by
              by_cases e : j = k
              · subst e; exact HQ.out
              · exact hrel.out j (by omega)), Hid.mk' (hE.out.trans (by exact eX))⟩
            case measure => simp [intOf]; omega
      · have hkk : k = qs.length := by omega
        have HQ := Hid.mk' (show B = false from by rw [HTB2.out, idxI_none fun i hi => hrel.out i (by omega)]; exact decide_eq_false (by omega))
        subst hkk
        go_wp2
        go_ret
        exact ⟨ret_bool HQ.out.symm, HE2.out.trans hE.out⟩

set_option maxRecDepth 100000 in set_option maxHeartbeats 4000000 in
theorem found_any (oid ver : Int) (nm : ByteArray) (id : Int) (cols : List Col) (a2 : Option Addr) (cap2 : Nat) (x : EL) (a : Option Addr) (c : Nat) (qs : List PR) (w : World) (hl2 : Sl w (.slice a2 cols.length cap2) 3 (cols.map Col.cells)) (hlen2 : cols.length ≤ 1000) (hx : x.at 5 K.pc w) (hs : x.e.small) (h : RS 5 K.pc w (.slice a qs.length c) qs) (hn : qs.length ≤ 1000) (hm : ∀ q ∈ qs, q.l.length ≤ 1000) :
    Calls Tryz.prog 69 #[.agg #[.int .u32 oid, .int .u32 ver, .string nm, .int .u8 id, .slice a2 cols.length cap2], .slice a qs.length c, x.agg] w fun e w' => e = .returned (.tuple #[.int .i64 (if fndE cols (qs.map PR.l) x.e ≠ 0 then 0 else atI cols (qs.map PR.l) x.e), .int .i64 (fndE cols (qs.map PR.l) x.e)]) ∧ Ext w w' := by
  have HKD := Hid.mk' (fun W (h : Ext w W) => tkeyed_any oid ver nm id cols a2 cap2 W (hl2.ext h) hlen2)
  have HBB := Hid.mk' (fun W (he : Ext w W) => byKey_any oid ver nm id cols a2 cap2 x.e.b x.ba x.bc a c qs W (hl2.ext he) hlen2 (hx.b.ext he) hs.b (h.ext he) hn hm)
  have HBA := Hid.mk' (fun W (he : Ext w W) => byKey_any oid ver nm id cols a2 cap2 x.e.a x.aa x.ac a c qs W (hl2.ext he) hlen2 (hx.a.ext he) hs.a (h.ext he) hn hm)
  have HXA := Hid.mk' (fun W (he : Ext w W) => idxA_any x.ba x.e.b.length x.bc (fun i => rowB x.e.b ((qs.map PR.l).getD i [])) a c qs W (h.ext he) hn (fun k hlt W' he' => by
    have e1 : (qs.map PR.l).getD k [] = qs[k].l := by simp [hlt]
    simp only [e1]
    exact alike_any x.e.b qs[k].l x.ba qs[k].a x.bc qs[k].c W' (hx.b.ext (he.trans he')) (PR.row h hlt (he.trans he')) hs.b (hm _ (List.getElem_mem hlt))))
  have HAT : Hid (atI cols (qs.map PR.l) x.e = if x.e.old = 2 then idxI (fun i => rowB x.e.b ((qs.map PR.l).getD i [])) qs.length else if x.e.old = 1 then byKeyI cols (qs.map PR.l) x.e.b (-1) else byKeyI cols (qs.map PR.l) x.e.a (-1)) := Hid.mk' (by unfold atI; rw [List.length_map])
  have HFE : Hid (fndE cols (qs.map PR.l) x.e = if x.e.old ≠ 2 ∧ x.e.old ≠ 1 ∧ rkey cols = false then 13 else if atI cols (qs.map PR.l) x.e < 0 then 10 else 0) := Hid.mk' rfl
  have HRK : Hid (cols.any Col.key = rkey cols) := Hid.mk' rfl
  rw [HRK.out] at HKD
  generalize atI cols (qs.map PR.l) x.e = I at HAT HFE ⊢
  generalize fndE cols (qs.map PR.l) x.e = E at HFE ⊢
  clear hl2 hx hs h hn hm HRK
  obtain ⟨⟨k1, ao1, av1, old1, b1, a1, r1, fl1⟩, ba1, bc1, aa1, ac1, ra1, rc1⟩ := x
  unfold EL.agg
  simp only at HBB HBA HXA HAT HFE ⊢
  by_cases h2 : old1 = 2
  · subst h2
    have HI := Hid.mk' (HAT.out.trans (if_pos rfl))
    have HE0 := Hid.mk' (HFE.out.trans (if_neg (fun q => q.1 rfl)))
    rw [← HI.out] at HXA
    clear HAT HFE HBB HBA HKD HI
    by_cases hI : I < 0
    · rw [HE0.out, if_pos hI, if_pos (by decide)]
      clear HE0
      go_enter Tryz.func69, Tryz.ntmps69
      go_wp2_with (go_at_call 78; refine (HXA.out _ (by exact eX)).mono ?_; rintro e w2 ⟨rfl, hb2⟩)
      go_ret2
      exact ⟨rfl, by exact eX⟩
    · rw [HE0.out, if_neg hI, if_neg (by simp)]
      clear HE0
      go_enter Tryz.func69, Tryz.ntmps69
      go_wp2_with (go_at_call 78; refine (HXA.out _ (by exact eX)).mono ?_; rintro e w2 ⟨rfl, hb2⟩)
      go_ret2
      exact ⟨rfl, by exact eX⟩
  have h2' : (old1 == 2) = false := by simpa using h2
  by_cases h1 : old1 = 1
  · subst h1
    have HI := Hid.mk' (HAT.out.trans ((if_neg h2).trans (if_pos rfl)))
    have HE0 := Hid.mk' (HFE.out.trans (if_neg (fun q => q.2.1 rfl)))
    rw [← HI.out] at HBB
    clear HAT HFE HXA HBA HKD HI h2 h2'
    by_cases hI : I < 0
    · rw [HE0.out, if_pos hI, if_pos (by decide)]
      clear HE0
      go_enter Tryz.func69, Tryz.ntmps69
      go_wp2_with (go_at_call 51; refine (HBB.out _ (by exact eX)).mono ?_; rintro e w2 ⟨rfl, hb2⟩)
      go_ret2
      exact ⟨rfl, by exact eX⟩
    · rw [HE0.out, if_neg hI, if_neg (by simp)]
      clear HE0
      go_enter Tryz.func69, Tryz.ntmps69
      go_wp2_with (go_at_call 51; refine (HBB.out _ (by exact eX)).mono ?_; rintro e w2 ⟨rfl, hb2⟩)
      go_ret2
      exact ⟨rfl, by exact eX⟩
  have h1' : (old1 == 1) = false := by simpa using h1
  have HI := Hid.mk' (HAT.out.trans ((if_neg h2).trans (if_neg h1)))
  cases hr : rkey cols with
  | false =>
    have HE0 := Hid.mk' (HFE.out.trans (if_pos ⟨h2, h1, hr⟩))
    rw [hr] at HKD
    rw [HE0.out, if_pos (by decide)]
    clear HAT HFE HXA HBA HBB HI h2 h1 HE0 hr
    go_enter Tryz.func69, Tryz.ntmps69
    go_wp2_with (go_at_call 50; refine (HKD.out _ (by exact eX)).mono ?_; rintro e w2 ⟨rfl, hb2⟩)
    go_ret2
    exact ⟨rfl, by exact eX⟩
  | true =>
    have HE0 := Hid.mk' (HFE.out.trans (if_neg (fun q => by rw [hr] at q; cases q.2.2)))
    rw [hr] at HKD
    rw [← HI.out] at HBA
    clear HAT HFE HXA HBB HI h2 h1 hr
    by_cases hI : I < 0
    · rw [HE0.out, if_pos hI, if_pos (by decide)]
      clear HE0
      go_enter Tryz.func69, Tryz.ntmps69
      go_wp2_with (first
        | (go_at_call 50; refine (HKD.out _ (by exact eX)).mono ?_; rintro e w2 ⟨rfl, hb2⟩; have hE_w2 : Ext ((w.alloc (.cells #[.int .u32 oid, .int .u32 ver, .string nm, .int .u8 id, .slice a2 cols.length cap2] 99)).alloc (.cells #[.int .u8 k1, .int .u32 ao1, .int .u32 av1, .int .u8 old1, .slice ba1 b1.length bc1, .slice aa1 a1.length ac1, .slice ra1 r1.length rc1, .int .u8 fl1] 103)) w2 := (by exact eX); obtain ⟨hc_w2, hf_w2⟩ := hE_w2.cells; have hz_w2 := hE_w2.size)
        | (go_at_call 51; refine (HBA.out _ (by exact eX)).mono ?_; rintro e w3 ⟨rfl, hb3⟩))
      go_ret2
      exact ⟨rfl, by exact eX⟩
    · rw [HE0.out, if_neg hI, if_neg (by simp)]
      clear HE0
      go_enter Tryz.func69, Tryz.ntmps69
      go_wp2_with (first
        | (go_at_call 50; refine (HKD.out _ (by exact eX)).mono ?_; rintro e w2 ⟨rfl, hb2⟩; have hE_w2 : Ext ((w.alloc (.cells #[.int .u32 oid, .int .u32 ver, .string nm, .int .u8 id, .slice a2 cols.length cap2] 99)).alloc (.cells #[.int .u8 k1, .int .u32 ao1, .int .u32 av1, .int .u8 old1, .slice ba1 b1.length bc1, .slice aa1 a1.length ac1, .slice ra1 r1.length rc1, .int .u8 fl1] 103)) w2 := (by exact eX); obtain ⟨hc_w2, hf_w2⟩ := hE_w2.cells; have hz_w2 := hE_w2.size)
        | (go_at_call 51; refine (HBA.out _ (by exact eX)).mono ?_; rintro e w3 ⟨rfl, hb3⟩))
      go_ret2
      exact ⟨rfl, by exact eX⟩

end Go.Proofs.YtkhlgoafeacdcaaGreat

/-
slices.Delete at rows of rows, maps.Clone at tables, laid in plain words.
-/
namespace Go.Proofs.YtkhlgoafeacdcaaGreat
open Go.Shelf
def Tryz.delR_ren : Go.Shelf.Ren := ⟨fun | 45 => 70 | n => n, fun | 22 => 66 | 23 => 71 | 3 => 3 | 4 => 4 | 0 => 0 | n => n, fun | n => n⟩
theorem Tryz.delR : Go.Proofs.SlLaysE.n45 Tryz.prog Tryz.delR_ren := {
  mixed := by kernel_rfl
  f45 := ⟨Tryz.f70.name, by decide, Tryz.func70.trans (congrArg some (by kernel_rfl))⟩
  t0 := Tryz.underlying0
  a0 := Tryz.isAgg0
  z0 := Tryz.sizeOf0
  v0 := Tryz.zeroValue0
  t3 := Tryz.underlying3
  a3 := Tryz.isAgg3
  z3 := Tryz.sizeOf3
  v3 := Tryz.zeroValue3
  t4 := Tryz.underlying4
  a4 := Tryz.isAgg4
  z4 := Tryz.sizeOf4
  v4 := Tryz.zeroValue4
  t22 := Tryz.underlying66
  a22 := Tryz.isAgg66
  z22 := Tryz.sizeOf66
  v22 := Tryz.zeroValue66
  a23 := Tryz.isAgg71
  z23 := Tryz.sizeOf71 }
def Tryz.cloM_ren : Go.Shelf.Ren := ⟨fun | 5 => 39 | 7 => 66 | n => n, fun | 23 => 91 | 25 => 68 | 3 => 66 | 4 => 4 | 20 => 20 | n => n, fun | n => n⟩
theorem Tryz.cloM : Go.Proofs.SlLaysW.n5 Tryz.prog Tryz.cloM_ren := {
  mixed := by kernel_rfl
  f5 := ⟨Tryz.f39.name, by decide, Tryz.func39.trans (congrArg some (by kernel_rfl))⟩
  f7 := Tryz.func66.trans (congrArg some (by kernel_rfl))
  t4 := Tryz.underlying4
  a4 := Tryz.isAgg4
  z4 := Tryz.sizeOf4
  v4 := Tryz.zeroValue4
  t20 := Tryz.underlying20
  a20 := Tryz.isAgg20
  z20 := Tryz.sizeOf20
  v20 := Tryz.zeroValue20
  t23 := Tryz.underlying91
  a23 := Tryz.isAgg91
  z23 := Tryz.sizeOf91
  v23 := Tryz.zeroValue91 }
end Go.Proofs.YtkhlgoafeacdcaaGreat

/-
Rows of rows in a block of the call's own: copied, one struck out.
-/
namespace Go.Proofs.YtkhlgoafeacdcaaGreat
open Go.RowKit Go.Lib Go.Sort

theorem Tryz.infoRowP : (Tryz.prog.info? 71).map (fun i => (i.zero, i.size, i.bytes)) = some (some (.slice none 0 0), 1, 24) := by kernel_rfl
instance : Inhabited PR := ⟨⟨[], none, 0⟩⟩

theorem flatPR_len (l : List PR) : (l.map PR.cell).flatten.length = l.length * 1 := by
  have := flat_length 1 (l.map PR.cell) (fun xs hxs => by simp at hxs; obtain ⟨c, _, rfl⟩ := hxs; rfl)
  rwa [List.length_map] at this
theorem PR.len (l : List PR) : ∀ xs ∈ l.map PR.cell, xs.length = 1 := by
  intro xs hxs
  rw [List.mem_map] at hxs
  obtain ⟨p, _, rfl⟩ := hxs
  rfl
theorem PR.one (q : PR) : ∀ u ∈ q.cell, u.oneCell' = true := by
  intro u hu
  simp [PR.cell, PR.val] at hu
  rw [hu]; rfl
theorem flatPR_get (l : List PR) : (l.map PR.cell).flatten = l.map PR.val := by
  induction l with
  | nil => rfl
  | cons x l ih => simp only [List.map_cons, List.flatten_cons, ih]; rfl
theorem newsPR {w : World} {b o : Nat} {l : List PR} (h : ∀ i, i < l.length → ∀ j, j < 1 → w.cell? ⟨b, o + i * 1 + j, none⟩ = ((l.map PR.cell).getD i [])[j]?) : ∀ j u, ((l.map PR.cell).flatten)[j]? = some u → w.cell? ((⟨b, o, none⟩ : Addr).add j) = some u := by
  intro j u hj
  rw [flatPR_get] at hj
  have hjl : j < l.length := by
    rcases Nat.lt_or_ge j l.length with h | h
    · exact h
    · rw [List.getElem?_eq_none (by simpa using h)] at hj; cases hj
  have := h j hjl 0 (by omega)
  rw [getD_map PR.cell l hjl, Nat.mul_one, Nat.add_zero] at this
  rw [List.getElem?_map, List.getElem?_eq_getElem hjl] at hj
  rw [Addr.add_lit, this]
  simpa [PR.cell] using hj

/-- Rows in a block that is known. -/
def PRAt (W : World) (g : Nat) (qs : List PR) : Prop := ∃ cs : Array Value, Blk W g cs 71 ∧ qs.length ≤ cs.size ∧ ∀ i (hi : i < qs.length), cs[i]? = some qs[i].val
section
variable {W W' : World} {g : Nat} {qs : List PR}
theorem PRAt.lt (h : PRAt W g qs) : g < W.heap.size := by obtain ⟨cs, hb, _⟩ := h; exact hb.lt
theorem PRAt.tag (h : PRAt W g qs) (o n c : Nat) : Tag W (.slice (some ⟨g, o, none⟩) n c) := by obtain ⟨cs, hb, _⟩ := h; exact Tag.of hb o n c
theorem PRAt.ext (h : PRAt W g qs) (he : Ext W W') : PRAt W' g qs := by obtain ⟨cs, hb, hr⟩ := h; exact ⟨cs, hb.ext he, hr⟩
theorem PRAt.frozen (h : PRAt W g qs) (o : Nat) : W.frozen? ⟨g, o, none⟩ = false := by obtain ⟨cs, hb, _⟩ := h; exact hb.frozen o
theorem PRAt.cell (h : PRAt W g qs) {i : Nat} (hi : i < qs.length) : W.cell? ⟨g, i, none⟩ = some (.slice qs[i].a qs[i].l.length qs[i].c) := by
  obtain ⟨cs, hb, _, hx⟩ := h
  rw [hb.cell, hx i hi]; rfl
theorem PRAt.set (h : PRAt W g qs) {i : Nat} (hi : i < qs.length) (q : PR) : PRAt (W.setCell ⟨g, i, none⟩ (.slice q.a q.l.length q.c)) g (qs.set i q) := by
  obtain ⟨cs, hb, hs, hx⟩ := h
  refine ⟨_, hb.set i _, by simpa using hs, fun j hj => ?_⟩
  rw [List.length_set] at hj
  by_cases e : j = i
  · subst e
    rw [List.getElem_set_self, Array.getElem?_setIfInBounds_self_of_lt (by omega)]; rfl
  · rw [List.getElem_set_ne (Ne.symm e), Array.getElem?_setIfInBounds_ne (Ne.symm e)]
    exact hx j hj
theorem PRAt.row (h : PRAt W g qs) (cap : Nat) : Sl W (.slice (some ⟨g, 0, none⟩) qs.length cap) 1 (qs.map PR.cell) := by
  refine ⟨_, cap, by rw [List.length_map], .inr ⟨g, 0, rfl, h.lt, fun i hi j hj => ?_⟩⟩
  rw [List.length_map] at hi
  obtain rfl : j = 0 := by omega
  rw [getD_map PR.cell qs hi, Nat.mul_one, Nat.zero_add, Nat.add_zero, h.cell hi]; rfl
theorem PRAt.of_owns {base n cap : Nat} (h : W.ownsRow base 71 1 (.slice (some ⟨g, 0, none⟩) n cap) n (qs.map PR.cell).flatten) (hn : qs.length = n) : PRAt W g qs := by
  obtain ⟨h1, h2⟩ := h
  rcases h2 with ⟨h3, _⟩ | ⟨g', cap', cur, hv, hg, hh, hnc, hcap, hsz, htake⟩
  · cases h3
  · simp only [Value.slice.injEq, Option.some.injEq, Addr.mk.injEq] at hv
    obtain ⟨⟨rfl, -, -⟩, -, rfl⟩ := hv
    refine ⟨cur, hh, by omega, fun i hi => ?_⟩
    rw [flatPR_get, Nat.mul_one] at htake
    have h3 := congrArg (fun z => z[i]?) htake
    simp only [List.getElem?_map, List.getElem?_eq_getElem hi, Option.map_some] at h3
    rw [List.getElem?_take_of_lt (by omega), Array.getElem?_toList] at h3
    exact h3
theorem PRAt.holds (h : PRAt W g qs) : Holds PR.val W g 0 qs.toArray := by
  intro j hj
  have hj2 : j < qs.length := by simpa using hj
  rw [Nat.zero_add, h.cell hj2, getElem!_pos qs.toArray j hj]
  exact ⟨rfl, h.frozen j⟩
theorem Sl.of_holds (h : Holds PR.val W g 0 qs.toArray) (hz : qs ≠ [] → g < W.heap.size) {n : Nat} (hn : n = qs.length) (cap : Nat) : Sl W (.slice (some ⟨g, 0, none⟩) n cap) 1 (qs.map PR.cell) := by
  subst hn
  refine ⟨_, cap, by rw [List.length_map], ?_⟩
  by_cases h0 : qs = []
  · exact .inl (by rw [h0]; rfl)
  refine .inr ⟨g, 0, rfl, hz h0, fun i hi j hj => ?_⟩
  rw [List.length_map] at hi
  obtain rfl : j = 0 := by omega
  have h1 := (h i (by simpa using hi)).1
  rw [getElem!_pos qs.toArray i (by simpa using hi)] at h1
  rw [getD_map PR.cell qs hi, Nat.mul_one, Nat.add_zero, h1]; rfl
end
theorem ext_putRow {w W : World} {g q : Nat} (d : Array PR) (hE : Ext w W) (hg : w.heap.size ≤ g) : Ext w (putRow PR.val (Sort.ahead W q) g 0 d) := by
  have h1 : Kp (fun x => x = g) W (putRow PR.val (Sort.ahead W q) g 0 d) := by
    refine ⟨rfl, rfl, rfl, by rw [size_putRow]; exact Nat.le_refl _, fun k hk hs => ?_⟩
    unfold putRow mapBlock
    have hs' : g ≠ k := fun e => hs e.symm
    simp [Array.getElem?_modify, hs', Sort.ahead]
  exact Kp.ext hE (fun x hx _ => by rw [hx]; exact hg) h1

theorem PRAt.tagPut {W : World} {g q : Nat} {qs : List PR} (h : PRAt W g qs) (d : Array PR) (o n c : Nat) : Tag (putRow PR.val (Sort.ahead W q) g 0 d) (.slice (some ⟨g, o, none⟩) n c) := by
  obtain ⟨cs, hb, _⟩ := h
  refine Tag.of (cs := ?_) ?_ o n c
  rotate_left
  · unfold Blk putRow mapBlock
    have h1 : (Sort.ahead W q).heap[g]? = some (.cells cs 71 (0, 0)) := hb
    simp only [Array.getElem?_modify, h1, if_true, Option.map_some]
    rfl
/-- A slice's elements stand while another block is turned. -/
theorem Sl.grown1 {w w' : World} {row : Option Nat} {a : Option Addr} {n c k : Nat} {xss : List (List Value)} (h : Sl w (.slice a n c) k xss) (hg : w.grownBy w' row) (hne : xss ≠ [] → ∀ b o, a = some ⟨b, o, none⟩ → row ≠ some b) : Sl w' (.slice a n c) k xss := by
  obtain ⟨a', c', hv, h⟩ := h
  simp only [Value.slice.injEq] at hv
  obtain ⟨rfl, rfl, rfl⟩ := hv
  rcases h with h | ⟨b, o, rfl, hb, hc⟩
  · exact ⟨_, _, rfl, .inl h⟩
  · by_cases h0 : xss = []
    · exact ⟨_, _, rfl, .inl h0⟩
    · refine ⟨_, _, rfl, .inr ⟨b, o, rfl, Nat.lt_of_lt_of_le hb hg.size, fun i hi j hj => ?_⟩⟩
      rw [← hc i hi j hj]
      exact World.cell?_of_block (w := w) (hg.block b hb (fun e => hne h0 b o rfl e.symm))
theorem map_erase {α β : Type} (f : α → β) (l : List α) (k : Nat) : (l.eraseIdx k).map f = (l.map f).eraseIdx k := by
  rw [List.eraseIdx_eq_take_drop_succ, List.eraseIdx_eq_take_drop_succ, List.map_append, List.map_take, List.map_drop]
/-- A row of cells stands where a slice is stored over a slice. -/
theorem Sl.over {W : World} {v u : Value} {l : List K} {p : Addr} {x : Option Addr} {n c : Nat} (h : Sl W v 5 (l.map K.pc)) (hc : W.cell? p = some (.slice x n c)) : Sl (W.setCell p u) v 5 (l.map K.pc) := by
  obtain ⟨a, cap, rfl, h⟩ := h
  refine ⟨a, cap, rfl, ?_⟩
  rcases h with h | ⟨b, o, rfl, hb, hx⟩
  · exact .inl h
  · refine .inr ⟨b, o, rfl, by simpa [World.setCell] using hb, fun i hi j hj => ?_⟩
    rw [← hx i hi j hj]
    refine World.cell?_setCell_other _ _ _ _ (fun e => ?_)
    have h1 := hx i hi j hj
    rw [List.length_map] at hi
    rw [← e, hc, getD_map K.pc l hi] at h1
    have : j = 0 ∨ j = 1 ∨ j = 2 ∨ j = 3 ∨ j = 4 := by omega
    rcases this with rfl | rfl | rfl | rfl | rfl <;> simp [K.pc] at h1

set_option maxRecDepth 100000 in set_option maxHeartbeats 1600000 in
theorem clonePR_any (l : List PR) (a : Option Addr) (cap : Nat) (w : World) (hl : Sl w (.slice a l.length cap) 1 (l.map PR.cell)) (hlen : l.length ≤ 1000) :
    Calls Tryz.prog 68 #[.slice a l.length cap] w fun e w' => ∃ a' cap', e = .returned (.slice a' l.length cap') ∧ w'.ownsRow w.heap.size 71 1 (.slice a' l.length cap') l.length ((l.map PR.cell).flatten) ∧ Ext w w' := by
  obtain ⟨i0, hi, hz0, hz1, hz2⟩ := info_parts Tryz.infoRowP
  have HL := Hid.mk' hl
  clear hl
  cases a with
  | none =>
    have h0 : l = [] := by
      obtain ⟨a, c, hv, h⟩ := HL.out
      simp only [Value.slice.injEq] at hv
      rcases h with h | ⟨b, o, ha, _⟩
      · simpa using h
      · rw [← hv.1] at ha; cases ha
    obtain ⟨a, c, hv, -⟩ := HL.out
    subst h0
    clear HL hv
    go_enter Tryz.func68, Tryz.ntmps68
    go_wp2
    go_ret
    exact ⟨_, _, rfl, World.ownsRow_nil _ _ _ _, by exact eX⟩
  | some ad =>
    have hnews : ∀ j u, ((l.map PR.cell).flatten)[j]? = some u → (w.alloc (.cells #[] 71)).cell? (ad.add j) = some u := by
      obtain ⟨a, c, hv, h⟩ := HL.out
      simp only [Value.slice.injEq] at hv
      obtain ⟨rfl, -, -⟩ := hv
      rcases h with h | ⟨b, o, ha, hb, hc⟩
      · have h0 : l = [] := by simpa using h
        subst h0; intro j u hj; simp at hj
      · cases ha
        refine newsPR fun i hi j hj => ?_
        have hE : Ext w (w.alloc (.cells #[] 71)) := (Ext.refl w).alloc _
        rw [hE.cells.1 b _ hb]
        exact hc i (by simpa using hi) j hj
    have HN := Hid.mk' hnews
    clear HL hnews
    go_enter Tryz.func68, Tryz.ntmps68
    go_wp2_with (at_builtin; refine wpList_append_own _ rfl _ _ 66 rfl w.heap.size 71 i0 _ 1 24 Tryz.underlying66 hi hz0 hz1 hz2 rfl (by decide) (.slice (some ⟨w.heap.size, 0, none⟩) 0 0) 0 [] rfl ?c0 _ l.length _ ((l.map PR.cell).flatten) rfl (flatPR_len l) HN.out ?c2 ?c3 ?c4 ?c5 ?_)
    case c0 => exact ⟨rfl, .inr ⟨_, 0, #[], rfl, Nat.le_refl _, Blk.new w #[] _, Nat.le_refl _, Nat.zero_le _, rfl, rfl⟩⟩
    case c2 => intro u hu; rw [List.mem_flatten] at hu; obtain ⟨xs, hxs, hu⟩ := hu; rw [List.mem_map] at hxs; obtain ⟨c, _, rfl⟩ := hxs; exact PR.one c u hu
    case c3 => unfold maxLen; omega
    case c4 => omega
    case c5 => simp
    intro v' w2 hown hgrow _
    have hown : w2.ownsRow w.heap.size 71 1 v' l.length ((l.map PR.cell).flatten) := by simpa using hown
    have hE2 : Ext w w2 := ((Ext.refl w).alloc (.cells #[] 71)).grown (v := .slice (some ⟨w.heap.size, 0, none⟩) 0 0) (e := 71) (size := 1) (n := 0) (xs := []) ⟨rfl, .inr ⟨_, 0, #[], rfl, Nat.le_refl _, Blk.new w #[] _, Nat.le_refl _, Nat.zero_le _, rfl, rfl⟩⟩ hgrow
    obtain ⟨a', c', rfl⟩ := owns_shape hown
    have HO := Hid.mk' hown
    have HE2 := Hid.mk' hE2
    clear hown hgrow hE2
    go_wp2
    go_ret
    exact ⟨_, _, rfl, HO.out, HE2.out⟩

/-- slices.Delete of one row of a block of the call's own. -/
theorem delPR_any (qs : List PR) (g cap k : Nat) (w : World) (h : PRAt w g qs) (hk : k < qs.length) (hcap : qs.length ≤ cap) (hm : cap ≤ 9223372036854775807) :
    Calls Tryz.prog 70 #[.slice (some ⟨g, 0, none⟩) qs.length cap, .int .i64 k, .int .i64 ((k + 1 : Nat) : Int)] w fun e w' => e = .returned (.slice (some ⟨g, 0, none⟩) (qs.eraseIdx k).length cap) ∧ Sl w' (.slice (some ⟨g, 0, none⟩) (qs.eraseIdx k).length cap) 1 ((qs.eraseIdx k).map PR.cell) ∧ ∃ q, ∃ d : Array PR, w' = putRow PR.val (Sort.ahead w q) g 0 d := by
  obtain ⟨i0, hi, hz0, hz1, hz2⟩ := info_parts Tryz.infoRowP
  have hc := AnyE.slices_Delete Tryz.delR PR.val (fun x => rfl) (⟨[], none, 0⟩ : PR) (fun w => Tryz.zeroValue71 w) i0 hi hz1 g 0 cap k (k + 1) qs.toArray w h.holds (by simpa using hcap) hm (by omega) (by simp; omega)
  have hlen : (qs.eraseIdx k).length = qs.length - 1 := List.length_eraseIdx_of_lt hk
  have hsz : (qs.toArray.toList.take k ++ qs.toArray.toList.drop (k + 1) ++ List.replicate (k + 1 - k) (⟨[], none, 0⟩ : PR)).toArray.size = qs.toArray.size := by simp; omega
  rw [List.size_toArray] at hc
  refine (show Calls Tryz.prog 70 #[.slice (some ⟨g, 0, none⟩) qs.length cap, .int .i64 k, .int .i64 ((k + 1 : Nat) : Int)] w _ from hc).mono ?_
  rintro e w' ⟨rfl, q, rfl⟩
  rw [hlen]
  refine ⟨by simp, ?_, q, _, rfl⟩
  have hH := holds_putRow PR.val (Sort.ahead w q) g 0 qs.toArray _ h.holds hsz
  refine Sl.of_holds (qs := qs.eraseIdx k) (fun j hj => ?_) (fun _ => by rw [size_putRow]; exact h.lt) (by rw [hlen]) cap
  have hj2 : j < qs.length - 1 := by simpa [hlen] using hj
  have h1 := hH j (by simp; omega)
  have e1 : (qs.toArray.toList.take k ++ qs.toArray.toList.drop (k + 1) ++ List.replicate (k + 1 - k) (⟨[], none, 0⟩ : PR)).toArray[j]! = (qs.eraseIdx k).toArray[j]! := by
    have e2 : qs.eraseIdx k = qs.take k ++ qs.drop (k + 1) := List.eraseIdx_eq_take_drop_succ qs k
    rw [getElem!_pos _ j (by simp; omega), getElem!_pos _ j hj]
    simp only [List.getElem_toArray, e2]
    rw [List.getElem_append_left (by simp; omega)]
  rw [e1] at h1
  exact h1

end Go.Proofs.YtkhlgoafeacdcaaGreat

/-
slices.Clone of a row.
-/
namespace Go.Proofs.YtkhlgoafeacdcaaGreat
open Go.RowKit

theorem flatK_len (l : List K) : (l.map K.pc).flatten.length = l.length * 5 := by
  have := flat_length 5 (l.map K.pc) (fun xs hxs => by simp at hxs; obtain ⟨c, _, rfl⟩ := hxs; rfl)
  rwa [List.length_map] at this
theorem news_row {w : World} {b o : Nat} {l : List K} (h : ∀ i, i < l.length → ∀ j, j < 5 → w.cell? ⟨b, o + i * 5 + j, none⟩ = ((l.map K.pc).getD i [])[j]?) : ∀ j u, ((l.map K.pc).flatten)[j]? = some u → w.cell? ((⟨b, o, none⟩ : Addr).add j) = some u := by
  intro j u hj
  have hjl : j < l.length * 5 := by
    rcases Nat.lt_or_ge j (l.length * 5) with h | h
    · exact h
    · rw [List.getElem?_eq_none (by rw [flatK_len]; exact h)] at hj; cases hj
  have hplain : (⟨b, o, none⟩ : Addr).add j = ⟨b, o + j, none⟩ := by unfold Addr.add; split <;> simp_all
  have hi : j / 5 < l.length := by omega
  have hq := flat_get 5 (l.map K.pc) (fun xs hxs => by simp at hxs; obtain ⟨c, _, rfl⟩ := hxs; rfl) (j / 5) (by simpa using hi) (j % 5) (Nat.mod_lt _ (by decide))
  have hm : j / 5 * 5 + j % 5 = j := by omega
  rw [hm] at hq
  rw [hplain, ← hj, hq, ← h (j / 5) hi (j % 5) (Nat.mod_lt _ (by decide)), Nat.add_assoc, hm]

set_option maxRecDepth 100000 in set_option maxHeartbeats 1600000 in
theorem clonek_any (l : List K) (a : Option Addr) (cap : Nat) (w : World) (hl : Sl w (.slice a l.length cap) 5 (l.map K.pc)) (hlen : l.length ≤ 1000) :
    Calls Tryz.prog 49 #[.slice a l.length cap] w fun e w' => ∃ a' cap', e = .returned (.slice a' l.length cap') ∧ w'.ownsRow w.heap.size 124 5 (.slice a' l.length cap') l.length ((l.map K.pc).flatten) ∧ Ext w w' := by
  obtain ⟨i0, hi, hz0, hz1, hz2⟩ := info_parts Tryz.infoCellP
  have HL := Hid.mk' hl
  clear hl
  cases a with
  | none =>
    have h0 : l = [] := by
      obtain ⟨a, c, hv, h⟩ := HL.out
      simp only [Value.slice.injEq] at hv
      rcases h with h | ⟨b, o, ha, _⟩
      · simpa using h
      · rw [← hv.1] at ha; cases ha
    obtain ⟨a, c, hv, -⟩ := HL.out
    subst h0
    clear HL hv
    go_enter Tryz.func49, Tryz.ntmps49
    go_wp2
    go_ret
    exact ⟨_, _, rfl, World.ownsRow_nil _ _ _ _, by exact eX⟩
  | some ad =>
    have hnews : ∀ j u, ((l.map K.pc).flatten)[j]? = some u → (w.alloc (.cells #[] 124)).cell? (ad.add j) = some u := by
      obtain ⟨a, c, hv, h⟩ := HL.out
      simp only [Value.slice.injEq] at hv
      obtain ⟨rfl, -, -⟩ := hv
      rcases h with h | ⟨b, o, ha, hb, hc⟩
      · have h0 : l = [] := by simpa using h
        subst h0; intro j u hj; simp at hj
      · cases ha
        refine news_row fun i hi j hj => ?_
        have hE : Ext w (w.alloc (.cells #[] 124)) := (Ext.refl w).alloc _
        rw [hE.cells.1 b _ hb]
        exact hc i (by simpa using hi) j hj
    have HN := Hid.mk' hnews
    clear HL hnews
    go_enter Tryz.func49, Tryz.ntmps49
    go_wp2_with (at_builtin; refine wpList_append_own _ rfl _ _ 71 rfl w.heap.size 124 i0 _ 5 56 Tryz.underlying71 hi hz0 hz1 hz2 rfl (by decide) (.slice (some ⟨w.heap.size, 0, none⟩) 0 0) 0 [] rfl ?c0 _ l.length _ ((l.map K.pc).flatten) rfl (flatK_len l) HN.out ?c2 ?c3 ?c4 ?c5 ?_)
    case c0 => exact ⟨rfl, .inr ⟨_, 0, #[], rfl, Nat.le_refl _, Blk.new w #[] _, Nat.le_refl _, Nat.zero_le _, rfl, rfl⟩⟩
    case c2 => intro u hu; rw [List.mem_flatten] at hu; obtain ⟨xs, hxs, hu⟩ := hu; rw [List.mem_map] at hxs; obtain ⟨c, _, rfl⟩ := hxs; simp [K.pc] at hu; rcases hu with rfl | rfl | rfl | rfl | rfl <;> rfl
    case c3 => unfold maxLen; omega
    case c4 => omega
    case c5 => simp
    intro v' w2 hown hgrow _
    have hown : w2.ownsRow w.heap.size 124 5 v' l.length ((l.map K.pc).flatten) := by simpa using hown
    have hE2 : Ext w w2 := ((Ext.refl w).alloc (.cells #[] 124)).grown (v := .slice (some ⟨w.heap.size, 0, none⟩) 0 0) (e := 124) (size := 5) (n := 0) (xs := []) ⟨rfl, .inr ⟨_, 0, #[], rfl, Nat.le_refl _, Blk.new w #[] _, Nat.le_refl _, Nat.zero_le _, rfl, rfl⟩⟩ hgrow
    obtain ⟨a', c', rfl⟩ := owns_shape hown
    have HO := Hid.mk' hown
    have HE2 := Hid.mk' hE2
    clear hown hE2 hgrow
    go_wp2
    go_ret
    exact ⟨a', c', rfl, HO.out, HE2.out⟩

end Go.Proofs.YtkhlgoafeacdcaaGreat

/-
A new image with what was the same: the program's image.Merge, the reference's.
-/
namespace Go.Proofs.YtkhlgoafeacdcaaGreat
open Go.RowKit

/-- The first k of a row merged. -/
def mergeTo (b l : List K) (k : Nat) : List K := l.mapIdx fun i c => if i < k ∧ c.k = 1 then (b[i]?).getD c else c
theorem mergeTo_len {b l : List K} {k : Nat} : (mergeTo b l k).length = l.length := by simp [mergeTo]
theorem mergeTo_get {b l : List K} {k i : Nat} (h : i < (mergeTo b l k).length) : (mergeTo b l k)[i] = if i < k ∧ (l[i]'(by rw [mergeTo_len] at h; exact h)).k = 1 then (b[i]?).getD (l[i]'(by rw [mergeTo_len] at h; exact h)) else l[i]'(by rw [mergeTo_len] at h; exact h) := by simp [mergeTo]
theorem mergeTo_zero {b l : List K} : mergeTo b l 0 = l := by
  apply List.ext_getElem
  · rw [mergeTo_len]
  · intro i h1 h2; rw [mergeTo_get, if_neg (by omega)]
theorem mergeTo_all {b l : List K} : mergeTo b l l.length = mergeK b l := by
  apply List.ext_getElem
  · rw [mergeTo_len, mergeK_len]
  · intro i h1 h2
    have hi : i < l.length := by rwa [mergeTo_len] at h1
    rw [mergeTo_get, mergeK_get]
    by_cases h : l[i].k = 1
    · rw [if_pos ⟨hi, h⟩, if_pos h]
    · rw [if_neg (fun q => h q.2), if_neg h]
theorem mergeTo_at {b l : List K} {k : Nat} (h : k < (mergeTo b l k).length) : (mergeTo b l k)[k] = l[k]'(by rwa [mergeTo_len] at h) := by rw [mergeTo_get, if_neg (by omega)]
theorem mergeTo_skip {b l : List K} {k : Nat} (hk : k < l.length) (h : ¬ (l[k].k = 1 ∧ k < b.length)) : mergeTo b l (k + 1) = mergeTo b l k := by
  apply List.ext_getElem
  · rw [mergeTo_len, mergeTo_len]
  · intro i h1 h2
    rw [mergeTo_get, mergeTo_get]
    by_cases e : i = k
    · subst e
      rw [if_neg (fun q : i < i ∧ _ => by omega)]
      by_cases h1 : l[i].k = 1
      · rw [if_pos ⟨by omega, h1⟩, List.getElem?_eq_none (by have : ¬ i < b.length := fun q => h ⟨h1, q⟩; omega)]; rfl
      · rw [if_neg (fun q => h1 q.2)]
    · by_cases h3 : i < k ∧ (l[i]'(by rwa [mergeTo_len] at h1)).k = 1
      · rw [if_pos h3, if_pos ⟨by omega, h3.2⟩]
      · rw [if_neg h3, if_neg (fun q => h3 ⟨by omega, q.2⟩)]
theorem mergeTo_set {b l : List K} {k : Nat} (hk : k < l.length) (h : l[k].k = 1) (hb : k < b.length) : mergeTo b l (k + 1) = (mergeTo b l k).set k b[k] := by
  apply List.ext_getElem
  · rw [mergeTo_len, List.length_set, mergeTo_len]
  · intro i h1 h2
    rw [mergeTo_get]
    by_cases e : i = k
    · subst e
      rw [if_pos ⟨by omega, h⟩, List.getElem_set_self, List.getElem?_eq_getElem hb]; rfl
    · rw [List.getElem_set_ne (Ne.symm e), mergeTo_get]
      by_cases h3 : i < k ∧ (l[i]'(by rwa [mergeTo_len] at h1)).k = 1
      · rw [if_pos h3, if_pos ⟨by omega, h3.2⟩]
      · rw [if_neg h3, if_neg (fun q => h3 ⟨by omega, q.2⟩)]

set_option maxRecDepth 100000 in set_option maxHeartbeats 4000000 in
theorem merge_any (lb l : List K) (ab a : Option Addr) (cb cap : Nat) (w : World) (hb : Sl w (.slice ab lb.length cb) 5 (lb.map K.pc)) (hl : Sl w (.slice a l.length cap) 5 (l.map K.pc)) (hlb : lb.length ≤ 1000) (hlen : l.length ≤ 1000) :
    Calls Tryz.prog 71 #[.slice ab lb.length cb, .slice a l.length cap] w fun e w' => ∃ a' cap', e = .returned (.slice a' l.length cap') ∧ l.length ≤ cap' ∧ Sl w' (.slice a' l.length cap') 5 ((mergeK lb l).map K.pc) ∧ Ext w w' := by
  have HC := Hid.mk' (fun W (h : Ext w W) => clonek_any l a cap W (hl.ext h) hlen)
  have HB := Hid.mk' hb
  clear hb hl
  by_cases h0 : l.length = 0
  · have hl0 : l = [] := List.length_eq_zero_iff.1 h0
    subst hl0
    clear h0
    go_enter Tryz.func71, Tryz.ntmps71
    go_wp2_with (go_at_call 49; refine (HC.out _ (by exact eX)).mono ?_; rintro e w1 ⟨a', c', rfl, ho, hb1⟩; clear ho)
    go_loopw [12] (fun i wr => i = .int .i64 0 ∧ Hid (Ext w wr)) (fun _ _ => 0)
    case atStart => exact ⟨rfl, Hid.mk' (by exact eX)⟩
    case round =>
      obtain ⟨rfl, hE⟩ := hrel
      go_wp2
      go_ret
      exact ⟨a', c', rfl, Nat.zero_le _, ⟨a', c', rfl, .inl rfl⟩, hE.out⟩
  go_enter Tryz.func71, Tryz.ntmps71
  go_wp2_with (go_at_call 49; refine (HC.out _ (by exact eX)).mono ?_; rintro e w1 ⟨a', c', rfl, ho, hb1⟩; have HO := Hid.mk' ho; clear ho)
  obtain ⟨g, rfl, hg, hcap⟩ : ∃ g, a' = some ⟨g, 0, none⟩ ∧ w.heap.size ≤ g ∧ l.length ≤ c' := by
    rcases HO.out.2 with ⟨-, h1⟩ | ⟨g, cap', cur, hv, hg, -, hn, -⟩
    · exact absurd h1 h0
    · simp only [Value.slice.injEq] at hv
      exact ⟨g, hv.1, hg, owns_cap HO.out⟩
  have HR0 := Hid.mk' (RowAt.of_owns HO.out rfl)
  clear HO
  go_loopw [12] (fun i wr => ∃ k : Nat, k ≤ l.length ∧ i = .int .i64 k ∧ Hid (RowAt wr g (mergeTo lb l k)) ∧ Hid (Ext w wr)) (fun i _ => l.length - (intOf i).toNat)
  case atStart => exact ⟨0, Nat.zero_le _, rfl, Hid.mk' (by rw [mergeTo_zero]; exact HR0.out), Hid.mk' (by exact eX)⟩
  case round =>
    obtain ⟨k, hk, rfl, hr, hE⟩ := hrel
    by_cases hlt : k < l.length
    · have hkm : k < (mergeTo lb l k).length := by rw [mergeTo_len]; exact hlt
      obtain ⟨f0, f1, f2, f3, f4⟩ := hr.out.cells hkm
      rw [mergeTo_at] at f0 f1 f2 f3 f4
      have hgw := hr.out.lt
      have hfz := hr.out.frozen
      have HSK := Hid.mk' (fun h => mergeTo_skip (b := lb) hlt h)
      have HST := Hid.mk' (fun h h2 => mergeTo_set (b := lb) hlt h h2)
      obtain ⟨c, hc⟩ : ∃ c, c = l[k] := ⟨_, rfl⟩
      rw [← hc] at f0 f1 f2 f3 f4 HSK HST
      clear hc
      by_cases h1 : c.k = 1
      · have h1' : (c.k == 1) = true := by simpa using h1
        by_cases h2 : k < lb.length
        · obtain ⟨b, o, rfl, hbb, hx⟩ := HB.out.at_ (i := k) (by simpa using h2)
          obtain ⟨p0, p1, p2, p3, p4⟩ := K.pcAt h2 hx hbb hE.out
          have hbw : b < wr.heap.size := Nat.lt_of_lt_of_le hbb hE.out.size
          have HS2 := Hid.mk' (HST.out h1 h2)
          obtain ⟨d, hd⟩ : ∃ d, d = lb[k] := ⟨_, rfl⟩
          rw [← hd] at p0 p1 p2 p3 p4 HS2
          clear hd hx h1 HSK HST
          go_wp2
          go_roundw
          case rel => exact ⟨k + 1, by omega, by go_num, Hid.mk' (by rw [HS2.out]; exact (hr.out.set hkm d).alloc _), Hid.mk' (by have hE := hE.out; exact eX)⟩
          case measure => simp [intOf]; omega
        · have HS2 := Hid.mk' (HSK.out (fun q => h2 q.2))
          have h2' : lb.length ≤ k := by omega
          clear HSK HST h1
          go_wp2
          go_roundw
          case rel => exact ⟨k + 1, by omega, by go_num, Hid.mk' (by rw [HS2.out]; exact hr.out.alloc _), Hid.mk' (by have hE := hE.out; exact eX)⟩
          case measure => simp [intOf]; omega
      · have h1' : (c.k == 1) = false := by simpa using h1
        have HS2 := Hid.mk' (HSK.out (fun q => h1 q.1))
        clear HSK HST h1
        go_wp2
        go_roundw
        case rel => exact ⟨k + 1, by omega, by go_num, Hid.mk' (by rw [HS2.out]; exact hr.out.alloc _), Hid.mk' (by have hE := hE.out; exact eX)⟩
        case measure => simp [intOf]; omega
    · have hkk : k = l.length := by omega
      subst hkk
      go_wp2
      go_ret
      have hr := hr.out
      rw [mergeTo_all] at hr
      have := hr.sl c'
      rw [mergeK_len] at this
      exact ⟨_, c', rfl, hcap, this, hE.out⟩

end Go.Proofs.YtkhlgoafeacdcaaGreat

/-
What an event of a row makes of a table: the program's.
-/
namespace Go.Proofs.YtkhlgoafeacdcaaGreat
open Go.RowKit

def TRowsPost (cols : List Col) (ls : List (List K)) (e0 : Ev) (w : World) (e : Ending) (w' : World) : Prop := ∃ v', e = .returned (.tuple #[v', .int .i64 (rowsE cols ls e0)]) ∧ RwA 5 K.pc w' v' (rowsL cols ls e0) ∧ Ext w w'
theorem TRowsPost.bad {cols : List Col} {ls : List (List K)} {e0 : Ev} {w w' : World} {E : Int} (h : rowsE cols ls e0 = E) (h0 : E ≠ 0) (he : Ext w w') : TRowsPost cols ls e0 w (.returned (.tuple #[.slice none 0 0, .int .i64 E])) w' := by
  refine ⟨_, by rw [h], ?_, he⟩
  unfold rowsL
  rw [h, if_pos h0]
  exact RwA.nil w'
theorem TRowsPost.good {cols : List Col} {ls m : List (List K)} {e0 : Ev} {w w' : World} {v' : Value} (h : rowsE cols ls e0 = 0) (hl : rowsL cols ls e0 = m) (hr : RwA 5 K.pc w' v' m) (he : Ext w w') : TRowsPost cols ls e0 w (.returned (.tuple #[v', .int .i64 0])) w' :=
  ⟨_, by rw [h], by rw [hl]; exact hr, he⟩
theorem owns_pos {W : World} {base n c : Nat} {e : TypeId} {size : Nat} {a : Option Addr} {xs : List Value} (h : W.ownsRow base e size (.slice a n c) n xs) (h0 : 0 < n) : ∃ g, a = some ⟨g, 0, none⟩ ∧ base ≤ g ∧ n ≤ c ∧ c ≤ 9223372036854775807 := by
  rcases h.2 with ⟨-, h1⟩ | ⟨g, cap', cur, hv, hg, -, hn, hm, -⟩
  · omega
  · simp only [Value.slice.injEq] at hv
    obtain ⟨h1, -, rfl⟩ := hv
    exact ⟨g, h1, hg, hn, hm⟩

set_option maxRecDepth 100000 in set_option maxHeartbeats 8000000 in
theorem trows_any (oid ver : Int) (nm : ByteArray) (id : Int) (cols : List Col) (a2 : Option Addr) (cap2 : Nat) (x : EL) (a : Option Addr) (c : Nat) (qs : List PR) (w : World) (hl2 : Sl w (.slice a2 cols.length cap2) 3 (cols.map Col.cells)) (hlen2 : cols.length ≤ 1000) (hx : x.at 5 K.pc w) (hs : x.e.small) (h : RS 5 K.pc w (.slice a qs.length c) qs) (hn : qs.length ≤ 1000) (hm : ∀ q ∈ qs, q.l.length ≤ 1000) :
    Calls Tryz.prog 41 #[.agg #[.int .u32 oid, .int .u32 ver, .string nm, .int .u8 id, .slice a2 cols.length cap2], .slice a qs.length c, x.agg] w (TRowsPost cols (qs.map PR.l) x.e w) := by
  obtain ⟨i0, hi, hz0, hz1, hz2⟩ := info_parts Tryz.infoRowP
  have HQS := Hid.mk' h
  have HTI := Hid.mk' (fun W (he : Ext w W) => taken_any oid ver nm id cols a2 cap2 x.e.a x.aa x.ac (-1) a c qs W (hl2.ext he) hlen2 (hx.a.ext he) hs.a (h.ext he) hn hm)
  have HTU := Hid.mk' (fun (key : List K) (ka : Option Addr) (kc : Nat) (but : Int) W (he : Ext w W) (hk : Sl W (.slice ka key.length kc) 5 (key.map K.pc)) (hkn : key.length ≤ 1000) => taken_any oid ver nm id cols a2 cap2 key ka kc but a c qs W (hl2.ext he) hlen2 hk hkn (h.ext he) hn hm)
  have HFD := Hid.mk' (fun W (he : Ext w W) => found_any oid ver nm id cols a2 cap2 x a c qs W (hl2.ext he) hlen2 (hx.ext he) hs (h.ext he) hn hm)
  have HCL := Hid.mk' (fun W (he : Ext w W) => clonePR_any qs a c W (h.row.ext he) hn)
  have HCK := Hid.mk' (fun W (he : Ext w W) => clonek_any x.e.a x.aa x.ac W (hx.a.ext he) hs.a)
  have HMG := Hid.mk' (fun k (hlt : k < qs.length) W (he : Ext w W) => merge_any qs[k].l x.e.a qs[k].a x.aa qs[k].c x.ac W (PR.row h hlt he) (hx.a.ext he) (hm _ (List.getElem_mem hlt)) hs.a)
  have HAL := Hid.mk' (atI_lt cols (qs.map PR.l) x.e)
  have HA1 := Hid.mk' hs.a
  rw [List.length_map] at HAL
  clear hl2 hx hs h
  obtain ⟨⟨k1, ao1, av1, old1, b1, a1, r1, fl1⟩, ba1, bc1, aa1, ac1, ra1, rc1⟩ := x
  unfold EL.agg at HFD ⊢
  simp only at HTI HFD HCK HMG HAL HA1 ⊢
  obtain ⟨ls, hls⟩ : ∃ ls, ls = qs.map PR.l := ⟨_, rfl⟩
  have HLS := Hid.mk' hls
  rw [← hls] at HTI HTU HFD HAL ⊢
  clear hls
  by_cases h4 : k1 = 4
  · subst h4
    have HE : Hid (rowsE cols ls ⟨4, ao1, av1, old1, b1, a1, r1, fl1⟩ = if takenB cols ls a1 (-1) = true then 9 else 0) := Hid.mk' (by unfold rowsE; exact if_pos rfl)
    clear HFD HTU HMG HAL
    cases ht : takenB cols ls a1 (-1) with
    | true =>
      rw [ht] at HTI
      have HE2 := Hid.mk' (HE.out.trans (if_pos ht))
      clear HE ht HCL HCK HLS
      go_enter Tryz.func41, Tryz.ntmps41
      go_wp2_with (go_at_call 67; refine (HTI.out _ (by exact eX)).mono ?_; rintro e w2 ⟨rfl, hb2⟩)
      go_ret2
      exact TRowsPost.bad HE2.out (by decide) (by exact eX)
    | false =>
      rw [ht] at HTI
      have HE2 := Hid.mk' (HE.out.trans (if_neg (by rw [ht]; simp)))
      clear HE ht
      go_enter Tryz.func41, Tryz.ntmps41
      go_upto_region 4 with (go_at_call 67; refine (HTI.out _ (by exact eX)).mono ?_; rintro e w2 ⟨rfl, hb2⟩; have HB2 := Hid.mk' hb2; have HE0 := Hid.mk' (show Ext w w2 by exact eX); clear hb2)
      have HV := Hid.mk' ((Blk.new' (w := w.alloc (.cells #[.int .u32 oid, .int .u32 ver, .string nm, .int .u8 id, .slice a2 cols.length cap2] 99)) (b := w.heap.size + 1) #[.int .u8 4, .int .u32 ao1, .int .u32 av1, .int .u8 old1, .slice ba1 b1.length bc1, .slice aa1 a1.length ac1, .slice ra1 r1.length rc1, .int .u8 fl1] 103 (by simp)).ext HB2.out)
      have gv := HV.out.cell
      have zv := HV.out.lt
      have hA0 : Hid ((fun w' => Ext (w2) w' ∧ (∀ b o, b < (w2).heap.size → w'.cell? ⟨b, o, none⟩ = (w2).cell? ⟨b, o, none⟩) ∧ (∀ b o, b < (w2).heap.size → w'.frozen? ⟨b, o, none⟩ = (w2).frozen? ⟨b, o, none⟩)) w2.drew) := held_of (by exact eX)
      refine wp_region_head 5 (fun w' => Ext (w2) w' ∧ (∀ b o, b < (w2).heap.size → w'.cell? ⟨b, o, none⟩ = (w2).cell? ⟨b, o, none⟩) ∧ (∀ b o, b < (w2).heap.size → w'.frozen? ⟨b, o, none⟩ = (w2).frozen? ⟨b, o, none⟩)) (by kernel_rfl) (by decide) ?_
      refine HG.on 0 19 hA0.out ?_
      try simp only [Act.put, List.setIfInBounds_toArray, List.set_cons_zero, List.set_cons_succ]
      refine HG.on 2 21 hA0.out ?_
      try simp only [Act.put, List.setIfInBounds_toArray, List.set_cons_zero, List.set_cons_succ]
      refine HG.on 3 22 hA0.out ?_
      try simp only [Act.put, List.setIfInBounds_toArray, List.set_cons_zero, List.set_cons_succ]
      refine wpHd_one (i := 1) rfl rfl (by kernel_rfl) (fun KK hK => ?_)
      go_simp
      refine (HCL.out _ (HE0.out.trans (by exact eX))).mono ?_
      rintro e w5 ⟨a5, c5, rfl, ho5, hb5⟩
      have HB5 := Hid.mk' (show Ext w2 w5 by exact eX)
      have HO5 := Hid.mk' ho5
      refine hK.out _ _ (held_of HB5.out) (fun hA => ?_)
      clear hK KK hA ho5 hb5 hA0
      refine wpHd_one (i := 4) rfl rfl (by kernel_rfl) (fun KK hK => ?_)
      go_simp
      refine (HCK.out _ (HE0.out.trans HB5.out)).mono ?_
      rintro e w6 ⟨a6, c6, rfl, ho6, hb6⟩
      have HB6 := Hid.mk' hb6
      have HO6 := Hid.mk' ho6
      refine hK.out _ _ (held_of (HB5.out.trans HB6.out)) (fun hA => ?_)
      clear hK KK hA ho6 hb6
      refine wpHd_tail (by kernel_rfl) ?_
      simp only [List.drop_succ_cons, List.drop_zero]
      have z2 := HE0.out.size
      have hq5 : w2.heap.size ≤ w5.heap.size := HB5.out.size
      have HX6 := Hid.mk' (HE0.out.trans (HB5.out.trans HB6.out))
      have HO5b := Hid.mk' (owns_base (owns_ext HO5.out HB6.out) (show w.heap.size ≤ w2.drew.heap.size from z2))
      go_wp2_with (at_builtin; refine wpList_append_own_at _ rfl _ _ 66 rfl w.heap.size 71 i0 _ 1 24 Tryz.underlying66 hi hz0 hz1 hz2 rfl (by decide) _ _ _ rfl (HO5b.out.alloc _) ⟨_, 0, none⟩ 1 1 (PR.cell ⟨a1, a6, c6⟩) rfl rfl ?c1 ?c2 ?c3 ?c4 ?c5 ?_)
      case c1 => exact cells_new _ #[.slice a6 a1.length c6] _
      case c2 => exact PR.one _
      case c3 => unfold maxLen; omega
      case c4 => omega
      case c5 => have := HX6.out.size; simp at *; omega
      intro v' w7 hown' hgrow _ hat
      have hE6 : Ext w (w6.alloc (.cells #[.slice a6 a1.length c6] 71)) := HX6.out.alloc _
      have HE7 := Hid.mk' (Ext.grown hE6 (HO5b.out.alloc _) hgrow)
      have HK7 := Hid.mk' (show Sl w7 (.slice a6 a1.length c6) 5 (a1.map K.pc) from by
        have h1 : Sl w6 (.slice a6 a1.length c6) 5 (a1.map K.pc) := Sl.of_owns (base := w5.heap.size) (e := 124) (by rw [List.length_map]; exact HO6.out) (by intro xs hxs; simp at hxs; obtain ⟨_, _, rfl⟩ := hxs; rfl)
        refine Sl.grown1 (h1.ext ((Ext.refl w6).alloc _)) hgrow (fun h0 b o e => fun e2 => ?_)
        have h3 := owns_lt3 HO5.out e2
        obtain ⟨g6, e6, hg6, -⟩ := owns_pos HO6.out (by
          rcases Nat.eq_zero_or_pos a1.length with h4 | h4
          · exact absurd (by rw [List.length_eq_zero_iff.1 h4]; rfl) h0
          · exact h4)
        rw [e6] at e; cases e
        omega)
      clear hat hgrow gv zv HV
      have hown2 : w7.ownsRow w.heap.size 71 1 v' (qs ++ [(⟨a1, a6, c6⟩ : PR)]).length ((qs ++ [(⟨a1, a6, c6⟩ : PR)]).map PR.cell).flatten := by simpa using hown'
      obtain ⟨a7, c7, rfl⟩ := owns_shape hown2
      have HR7 := Hid.mk' (show RwA 5 K.pc w7 (.slice a7 (qs ++ [(⟨a1, a6, c6⟩ : PR)]).length c7) (ls ++ [a1]) from ⟨a7, c7, qs ++ [⟨a1, a6, c6⟩], rfl, ⟨Sl.of_owns (base := w.heap.size) (e := 71) (by rw [List.length_map]; exact hown2) (PR.len _), fun q hq => by
        rcases List.mem_append.1 hq with hq | hq
        · exact (HQS.out.sl q hq).ext HE7.out
        · exact (List.mem_singleton.1 hq) ▸ HK7.out, Tag.owns hown2⟩, by rw [HLS.out]; simp⟩)
      clear hown' hown2
      go_wp2
      go_ret2
      exact TRowsPost.good HE2.out (by unfold rowsL; rw [HE2.out, if_neg (by simp)]; exact if_pos rfl) HR7.out HE7.out
  have h4' : (k1 == 4) = false := by simpa using h4
  have HE : Hid (rowsE cols ls (⟨k1, ao1, av1, old1, b1, a1, r1, fl1⟩ : Ev) = if fndE cols ls (⟨k1, ao1, av1, old1, b1, a1, r1, fl1⟩ : Ev) ≠ 0 then fndE cols ls (⟨k1, ao1, av1, old1, b1, a1, r1, fl1⟩ : Ev) else if k1 = 6 then 0 else if takenB cols ls (newR cols ls (⟨k1, ao1, av1, old1, b1, a1, r1, fl1⟩ : Ev)) (atI cols ls (⟨k1, ao1, av1, old1, b1, a1, r1, fl1⟩ : Ev)) = true then 9 else 0) := Hid.mk' (by unfold rowsE; exact if_neg h4)
  have HRL : Hid (rowsE cols ls (⟨k1, ao1, av1, old1, b1, a1, r1, fl1⟩ : Ev) = 0 → rowsL cols ls (⟨k1, ao1, av1, old1, b1, a1, r1, fl1⟩ : Ev) = if k1 = 6 then ls.eraseIdx (atI cols ls (⟨k1, ao1, av1, old1, b1, a1, r1, fl1⟩ : Ev)).toNat else ls.set (atI cols ls (⟨k1, ao1, av1, old1, b1, a1, r1, fl1⟩ : Ev)).toNat (newR cols ls (⟨k1, ao1, av1, old1, b1, a1, r1, fl1⟩ : Ev))) := Hid.mk' (fun q => by unfold rowsL; rw [q, if_neg (by simp)]; exact if_neg h4)
  have HNR : Hid (newR cols ls (⟨k1, ao1, av1, old1, b1, a1, r1, fl1⟩ : Ev) = mergeK (ls.getD (atI cols ls (⟨k1, ao1, av1, old1, b1, a1, r1, fl1⟩ : Ev)).toNat []) a1) := Hid.mk' rfl
  have HFE : Hid (fndE cols ls (⟨k1, ao1, av1, old1, b1, a1, r1, fl1⟩ : Ev) = 0 → 0 ≤ atI cols ls (⟨k1, ao1, av1, old1, b1, a1, r1, fl1⟩ : Ev)) := Hid.mk' (fun q => by
    unfold fndE at q
    split at q
    · cases q
    · split at q
      · cases q
      · omega)
  generalize atI cols ls (⟨k1, ao1, av1, old1, b1, a1, r1, fl1⟩ : Ev) = I at HFD HAL HE HRL HNR HFE
  generalize fndE cols ls (⟨k1, ao1, av1, old1, b1, a1, r1, fl1⟩ : Ev) = E at HFD HE HFE
  by_cases hE0 : E = 0
  case neg =>
    have hE1 : (E != 0) = true := by simpa using hE0
    have HE2 := Hid.mk' (HE.out.trans (if_pos hE0))
    have HN := Hid.mk' hE0
    rw [if_pos hE0] at HFD
    clear HE HRL HNR HFE HTI HTU HCL HCK HMG HAL hE0 h4
    go_enter Tryz.func41, Tryz.ntmps41
    go_wp2_with (go_at_call 69; refine (HFD.out _ (by exact eX)).mono ?_; rintro e w2 ⟨rfl, hb2⟩)
    go_ret2
    exact TRowsPost.bad HE2.out HN.out (by exact eX)
  subst hE0
  rw [if_neg (by simp)] at HFD
  have hI0 := HFE.out rfl
  obtain ⟨k, rfl⟩ := Int.eq_ofNat_of_zero_le hI0
  have hk : k < qs.length := by have := HAL.out.2; omega
  have HE2 := Hid.mk' (HE.out.trans (if_neg (by simp)))
  have hw1 : IntKind.i64.wrap ((k : Int) + 1) = (k : Int) + 1 := by rw [IntKind.wrap_i64]; omega
  clear HE HFE hI0 HTI HCK
  by_cases h6 : k1 = 6
  · subst h6
    have HE3 := Hid.mk' (HE2.out.trans (if_pos rfl))
    have HR3 := Hid.mk' ((HRL.out HE3.out).trans (if_pos rfl))
    clear HE2 HRL HNR HTU HMG h4
    go_enter Tryz.func41, Tryz.ntmps41
    go_wp2_with (first
      | (go_at_call 69; refine (HFD.out _ (by exact eX)).mono ?_; rintro e w2 ⟨rfl, hb2⟩; have HB2 := Hid.mk' hb2; have HV := Hid.mk' ((Blk.new' (w := w.alloc (.cells #[.int .u32 oid, .int .u32 ver, .string nm, .int .u8 id, .slice a2 cols.length cap2] 99)) (b := w.heap.size + 1) #[.int .u8 6, .int .u32 ao1, .int .u32 av1, .int .u8 old1, .slice ba1 b1.length bc1, .slice aa1 a1.length ac1, .slice ra1 r1.length rc1, .int .u8 fl1] 103 (by simp)).ext hb2); have HE0 := Hid.mk' (show Ext w w2 by exact eX); clear hb2)
      | (go_at_call 68; refine (HCL.out _ HE0.out).mono ?_; rintro e w5 ⟨a5, c5, rfl, ho5, hb5⟩; obtain ⟨g, rfl, hg, hc5, hm5⟩ := owns_pos ho5 (by omega); have HB5 := Hid.mk' hb5; have HPA := Hid.mk' (PRAt.of_owns ho5 rfl); have HGG := Hid.mk' hg; have gv := (HV.out.ext hb5).cell; have zv := (HV.out.ext hb5).lt; clear ho5 hb5 hg)
      | (go_at_call 70; refine (show Calls Tryz.prog 70 #[.slice (some ⟨g, 0, none⟩) qs.length c5, .int .i64 k, .int .i64 ((k : Int) + 1)] w5 _ from by simpa using delPR_any qs g c5 k w5 HPA.out hk hc5 hm5).mono ?_; rintro e w6 ⟨rfl, hs6, q6, d6, rfl⟩; have HS6 := Hid.mk' hs6; clear hs6))
    have HE6 := Hid.mk' (ext_putRow (q := q6) d6 (HE0.out.trans HB5.out) (Nat.le_trans HE0.out.size HGG.out))
    go_ret2
    refine TRowsPost.good HE3.out (HR3.out.trans (by rw [Int.toNat_natCast])) ⟨_, c5, qs.eraseIdx k, rfl, ⟨HS6.out, fun q hq => (HQS.out.sl q (List.mem_of_mem_eraseIdx hq)).ext HE6.out, HPA.out.tagPut d6 _ _ _⟩, ?_⟩ HE6.out
    rw [HLS.out, map_erase]
  have h6' : (k1 == 6) = false := by simpa using h6
  have HE3 := Hid.mk' (HE2.out.trans (if_neg h6))
  have HR3 := Hid.mk' (fun q => (HRL.out q).trans (if_neg h6))
  have HGD : Hid (ls.getD k [] = qs[k].l) := Hid.mk' (by rw [HLS.out]; simp [hk])
  rw [Int.toNat_natCast, HGD.out] at HNR
  have HMK := Hid.mk' (fun W h => HMG.out k hk W h)
  clear HE2 HRL HMG h6 h4 HGD
  obtain ⟨b0, o0, rfl, hb0, hx0⟩ := HQS.out.row.at_ (i := k) (by simpa using hk)
  have HF0 := Hid.mk' (fun W (h : Ext w W) => PR.at_ hk hx0 hb0 h)
  have HZ0 := Hid.mk' (fun W (h : Ext w W) => Nat.lt_of_lt_of_le hb0 h.size)
  clear hx0 hb0
  go_enter Tryz.func41, Tryz.ntmps41
  go_upto_region 11 with (first
      | (go_at_call 69; refine (HFD.out _ (by exact eX)).mono ?_; rintro e w2 ⟨rfl, hb2⟩; have HB2 := Hid.mk' hb2; have HU := Hid.mk' (((Blk.new w #[.int .u32 oid, .int .u32 ver, .string nm, .int .u8 id, .slice a2 cols.length cap2] 99).alloc (.cells #[.int .u8 k1, .int .u32 ao1, .int .u32 av1, .int .u8 old1, .slice ba1 b1.length bc1, .slice aa1 a1.length ac1, .slice ra1 r1.length rc1, .int .u8 fl1] 103)).ext hb2); have HV := Hid.mk' ((Blk.new' (w := w.alloc (.cells #[.int .u32 oid, .int .u32 ver, .string nm, .int .u8 id, .slice a2 cols.length cap2] 99)) (b := w.heap.size + 1) #[.int .u8 k1, .int .u32 ao1, .int .u32 av1, .int .u8 old1, .slice ba1 b1.length bc1, .slice aa1 a1.length ac1, .slice ra1 r1.length rc1, .int .u8 fl1] 103 (by simp)).ext hb2); have HE0 := Hid.mk' (show Ext w w2 by exact eX); clear hb2)
      | (go_at_call 68; refine (HCL.out _ HE0.out).mono ?_; rintro e w5 ⟨a5, c5, rfl, ho5, hb5⟩; obtain ⟨g, rfl, hg, hc5, hm5⟩ := owns_pos ho5 (by omega); have HB5 := Hid.mk' hb5; have HPA := Hid.mk' (PRAt.of_owns ho5 rfl); have HGG := Hid.mk' hg; have gv := (HV.out.ext hb5).cell; have zv := (HV.out.ext hb5).lt; clear ho5 hb5 hg))
  have HX5 := Hid.mk' (HE0.out.trans HB5.out)
  have f0 := HF0.out _ HX5.out
  have z0 := HZ0.out _ HX5.out
  have HZR := Hid.mk' (show w.heap.size < w2.heap.size from HU.out.lt)
  have HU5 := Hid.mk' (HU.out.ext HB5.out)
  have hA0 : Hid ((fun w' => Ext (w5) w' ∧ (∀ b o, b < (w5).heap.size → w'.cell? ⟨b, o, none⟩ = (w5).cell? ⟨b, o, none⟩) ∧ (∀ b o, b < (w5).heap.size → w'.frozen? ⟨b, o, none⟩ = (w5).frozen? ⟨b, o, none⟩)) w5.drew) := held_of (by exact eX)
  clear HFD HCL HU HV
  refine wp_region_head 9 (fun w' => Ext (w5) w' ∧ (∀ b o, b < (w5).heap.size → w'.cell? ⟨b, o, none⟩ = (w5).cell? ⟨b, o, none⟩) ∧ (∀ b o, b < (w5).heap.size → w'.frozen? ⟨b, o, none⟩ = (w5).frozen? ⟨b, o, none⟩)) (by kernel_rfl) (by decide) ?_
  refine HG.on 0 46 hA0.out ?_
  try simp only [Act.put, List.setIfInBounds_toArray, List.set_cons_zero, List.set_cons_succ]
  refine HG.on 1 47 hA0.out ?_
  try simp only [Act.put, List.setIfInBounds_toArray, List.set_cons_zero, List.set_cons_succ]
  refine HG.on 2 48 hA0.out ?_
  try simp only [Act.put, List.setIfInBounds_toArray, List.set_cons_zero, List.set_cons_succ]
  refine HG.on 3 49 hA0.out ?_
  try simp only [Act.put, List.setIfInBounds_toArray, List.set_cons_zero, List.set_cons_succ]
  refine HG.on 4 50 hA0.out ?_
  try simp only [Act.put, List.setIfInBounds_toArray, List.set_cons_zero, List.set_cons_succ]
  refine HG.on 5 51 hA0.out ?_
  try simp only [Act.put, List.setIfInBounds_toArray, List.set_cons_zero, List.set_cons_succ]
  refine HG.on 6 52 hA0.out ?_
  try simp only [Act.put, List.setIfInBounds_toArray, List.set_cons_zero, List.set_cons_succ]
  refine HG.on 7 53 hA0.out ?_
  try simp only [Act.put, List.setIfInBounds_toArray, List.set_cons_zero, List.set_cons_succ]
  refine wpHd_one (i := 8) rfl rfl (by kernel_rfl) (fun KK hK => ?_)
  go_simp
  refine (HMK.out _ (HX5.out.trans (by exact eX))).mono ?_
  rintro e w7 ⟨a7, c7, rfl, -, hs7, hb7⟩
  have HB7 := Hid.mk' (show Ext w5 w7 by exact eX)
  have HS7 := Hid.mk' hs7
  refine hK.out _ _ (held_of HB7.out) (fun hA => ?_)
  clear hK KK hA hs7 hb7 hA0 f0 z0 gv zv
  refine wpHd_tail (by kernel_rfl) ?_
  simp only [List.drop_succ_cons, List.drop_zero]
  have HP7 := Hid.mk' (HPA.out.ext HB7.out)
  have p0 := HP7.out.cell hk
  have pf := HP7.out.frozen
  have pz := HP7.out.lt
  have HU7 := Hid.mk' (HU5.out.ext HB7.out)
  have hgw : w.heap.size < g := by have := HGG.out; have := HZR.out; omega
  go_upto_region 12 with (fail)
  obtain ⟨w8, hw8⟩ : ∃ w8, w8 = w7.setCell ⟨g, k, none⟩ (.slice a7 a1.length c7) := ⟨_, rfl⟩
  have HE8 := Hid.mk' (show Ext w w8 by rw [hw8]; exact (HX5.out.trans HB7.out).setCell (by dsimp only; omega) _)
  have HP8 := Hid.mk' (show PRAt w8 g (qs.set k ⟨newR cols ls (⟨k1, ao1, av1, old1, b1, a1, r1, fl1⟩ : Ev), a7, c7⟩) from by
    have := HP7.out.set hk ⟨newR cols ls (⟨k1, ao1, av1, old1, b1, a1, r1, fl1⟩ : Ev), a7, c7⟩
    rw [hw8]; rw [newR_len] at this; exact this)
  have HU8 := Hid.mk' (show Blk w8 w.heap.size #[.int .u32 oid, .int .u32 ver, .string nm, .int .u8 id, .slice a2 cols.length cap2] 99 by rw [hw8]; exact HU7.out.other _ _ (by dsimp only; omega))
  have HS8 := Hid.mk' (show Sl w8 (.slice a7 a1.length c7) 5 ((newR cols ls (⟨k1, ao1, av1, old1, b1, a1, r1, fl1⟩ : Ev)).map K.pc) from by rw [HNR.out, hw8]; exact HS7.out.over (HP7.out.cell hk))
  have HZA := Hid.mk' (show (newR cols ls (⟨k1, ao1, av1, old1, b1, a1, r1, fl1⟩ : Ev)).length = a1.length from newR_len)
  clear p0 pf pz HP7 HU7 HS7 HMK
  rw [← hw8]
  clear hw8
  have hkq : k < (qs.set k (⟨newR cols ls (⟨k1, ao1, av1, old1, b1, a1, r1, fl1⟩ : Ev), a7, c7⟩ : PR)).length := by simpa using hk
  have p0 := HP8.out.cell hkq
  have pz := HP8.out.lt
  rw [List.getElem_set_self] at p0
  simp only [HZA.out] at p0
  have u0 := HU8.out.cell
  have uz := HU8.out.lt
  have HTK := Hid.mk' (fun W (he : Ext w W) (h2 : Ext w8 W) => HTU.out (newR cols ls (⟨k1, ao1, av1, old1, b1, a1, r1, fl1⟩ : Ev)) a7 c7 k W he (by rw [HZA.out]; exact HS8.out.ext h2) (by rw [HZA.out]; exact HA1.out))
  rw [HZA.out] at HTK
  generalize newR cols ls (⟨k1, ao1, av1, old1, b1, a1, r1, fl1⟩ : Ev) = NR at HE3 HR3 HNR HP8 HS8 HTK HZA hkq
  clear HTU HNR
  cases ht : takenB cols ls NR k with
  | true =>
    rw [ht] at HTK
    have HE4 := Hid.mk' (HE3.out.trans (if_pos ht))
    clear HE3 HR3 ht
    go_region_held3 (fun w' => Ext (w8) w' ∧ (∀ b o, b < (w8).heap.size → w'.cell? ⟨b, o, none⟩ = (w8).cell? ⟨b, o, none⟩) ∧ (∀ b o, b < (w8).heap.size → w'.frozen? ⟨b, o, none⟩ = (w8).frozen? ⟨b, o, none⟩)) ((exact held_of (by exact eX)))
      (first | (go_at_call 67; refine (HTK.out _ (HE8.out.trans (by exact eX)) (by exact eX)).mono ?_; rintro e w9 ⟨rfl, hb9⟩; have hE_w9 : Ext (w8) w9 := (by exact eX); obtain ⟨hc_w9, hf_w9⟩ := hE_w9.cells; have hz_w9 := hE_w9.size))
    go_wp2
    go_ret2
    exact TRowsPost.bad HE4.out (by decide) (HE8.out.trans (by exact eX))
  | false =>
    rw [ht] at HTK
    have HE4 := Hid.mk' (HE3.out.trans (if_neg (by rw [ht]; simp)))
    have HR4 := Hid.mk' ((HR3.out HE4.out).trans (by rw [Int.toNat_natCast]))
    clear HE3 HR3 ht
    go_region_held3 (fun w' => Ext (w8) w' ∧ (∀ b o, b < (w8).heap.size → w'.cell? ⟨b, o, none⟩ = (w8).cell? ⟨b, o, none⟩) ∧ (∀ b o, b < (w8).heap.size → w'.frozen? ⟨b, o, none⟩ = (w8).frozen? ⟨b, o, none⟩)) ((exact held_of (by exact eX)))
      (first | (go_at_call 67; refine (HTK.out _ (HE8.out.trans (by exact eX)) (by exact eX)).mono ?_; rintro e w9 ⟨rfl, hb9⟩; have hE_w9 : Ext (w8) w9 := (by exact eX); obtain ⟨hc_w9, hf_w9⟩ := hE_w9.cells; have hz_w9 := hE_w9.size))
    have HE9 := Hid.mk' (show Ext w8 w9 by exact eX)
    have HR9 := Hid.mk' (show RwA 5 K.pc w9 (.slice (some ⟨g, 0, none⟩) qs.length c5) (ls.set k NR) from by
      refine ⟨some ⟨g, 0, none⟩, c5, qs.set k ⟨NR, a7, c7⟩, by rw [List.length_set], ⟨?_, fun q hq => ?_, (HP8.out.ext HE9.out).tag _ _ _⟩, ?_⟩
      · have h1 := (HP8.out.ext HE9.out).row c5
        rwa [List.length_set] at h1
      · rcases List.mem_or_eq_of_mem_set hq with h1 | h1
        · exact (HQS.out.sl q h1).ext (HE8.out.trans HE9.out)
        · rw [h1]
          show Sl w9 (.slice a7 NR.length c7) 5 (NR.map K.pc)
          rw [HZA.out]
          exact HS8.out.ext HE9.out
      · rw [HLS.out, List.map_set])
    go_wp2
    go_ret2
    exact TRowsPost.good HE4.out HR4.out HR9.out (HE8.out.trans HE9.out)

end Go.Proofs.YtkhlgoafeacdcaaGreat

/-
The program's base in memory: its catalog, its map; what stands while it alone is turned.
-/
namespace Go.Proofs.YtkhlgoafeacdcaaGreat
open Go.RowKit Go.Maps

/-- The block of a base. -/
def BsAt (W : World) (g cat m : Nat) : Prop := Blk W g #[.pointer (some ⟨cat, 0, none⟩), .map (some m)] 93
def Bs (W : World) (N g : Nat) (ps : List RR) (T : Tb) : Prop := ∃ cat cv m, BsAt W g cat m ∧ Ca W N cat cv ps ∧ MapT W m (ps.map RR.r) T
theorem Bs.ext {W W' : World} {N g : Nat} {ps : List RR} {T : Tb} (h : Bs W N g ps T) (he : Ext W W') : Bs W' N g ps T := by
  obtain ⟨cat, cv, m, h1, h2, h3⟩ := h
  exact ⟨cat, cv, m, Blk.ext h1 he, h2.ext he, h3.ext he⟩
theorem Bs.lt {W : World} {N g : Nat} {ps : List RR} {T : Tb} (h : Bs W N g ps T) : g < W.heap.size := by
  obtain ⟨cat, cv, m, h1, -⟩ := h
  exact Blk.lt h1
/-- A value that is no pointer and no map. -/
def Value.low : Value → Bool
  | .pointer _ => false
  | .map _ => false
  | _ => true
section
variable {W W' : World} {N g cat m : Nat}
theorem BsAt.ext (h : BsAt W g cat m) (he : Ext W W') : BsAt W' g cat m := Blk.ext h he
theorem BsAt.cell0 (h : BsAt W g cat m) : W.cell? ⟨g, 0, none⟩ = some (.pointer (some ⟨cat, 0, none⟩)) := Blk.cell h 0
theorem BsAt.cell1 (h : BsAt W g cat m) : W.cell? ⟨g, 1, none⟩ = some (.map (some m)) := Blk.cell h 1
theorem BsAt.no (h : BsAt W g cat m) {o : Nat} {u : Value} (hu : Value.low u = true) : W.cell? ⟨g, o, none⟩ ≠ some u := by
  intro e
  have h1 := Blk.cell h o
  rw [h1] at e
  match o, e with
  | 0, e => cases e; cases hu
  | 1, e => cases e; cases hu
  | o + 2, e => simp at e
theorem Sl.base {v : Value} {k : Nat} {xss : List (List Value)} (h : Sl W v k xss) (hb : BsAt W g cat m) (hk : Kp (fun x => x = g) W W') (hk0 : 0 < k) (hv : ∀ xs ∈ xss, ∃ u, xs[0]? = some u ∧ Value.low u = true) : Sl W' v k xss := by
  obtain ⟨a, c, rfl, hs⟩ := h
  refine Sl.kp (S := fun x => x = g) ⟨a, c, rfl, hs⟩ hk (fun h0 b o e e2 => ?_)
  rcases hs with hs | ⟨b', o', e', hb', hc⟩
  · exact h0 hs
  · rw [e] at e'; cases e'
    have h1 := hc 0 (List.length_pos_iff.2 h0) 0 hk0
    cases xss with
    | nil => exact h0 rfl
    | cons x r =>
      obtain ⟨u, hu, hl⟩ := hv x (List.mem_cons_self ..)
      rw [show ((x :: r).getD 0 [])[0]? = some u from hu, show b = g from e2] at h1
      exact hb.no hl h1
theorem RwA.base {v : Value} {ls : List (List K)} (h : RwA 5 K.pc W v ls) (hb : BsAt W g cat m) (hk : Kp (fun x => x = g) W W') : RwA 5 K.pc W' v ls := by
  obtain ⟨a, c, qs, rfl, h1, h2⟩ := h
  refine ⟨a, c, qs, rfl, ⟨h1.row.base hb hk (by omega) (fun xs hx => ?_), fun q hq => (h1.sl q hq).base hb hk (by omega) (fun xs hx => ?_), h1.tag.kp (fun b cs h => (hk.block b h.lt (fun e => by
    have e : b = g := e
    subst e
    unfold Blk at h
    unfold BsAt Blk at hb
    rw [hb] at h
    simp at h)).trans h)⟩, h2⟩
  · obtain ⟨q, -, rfl⟩ := List.mem_map.1 hx
    exact ⟨_, rfl, rfl⟩
  · obtain ⟨q, -, rfl⟩ := List.mem_map.1 hx
    exact ⟨_, rfl, rfl⟩
theorem MapT.base {m2 : Nat} {rs : List Rl} {T : Tb} (h : MapT W m2 rs T) (hb : BsAt W g cat m) (hk : Kp (fun x => x = g) W W') : MapT W' m2 rs T := by
  have hne : m2 ≠ g := fun e => by
    obtain ⟨D, ⟨es, cl, hm, -⟩, -⟩ := h
    rw [e, show W.heap[g]? = _ from hb] at hm
    cases hm
  exact h.kept (row := some g) ⟨hk.os, hk.tape, hk.output, hk.size, fun k h1 h2 => hk.block k h1 (fun e => h2 (by rw [e]))⟩ (fun e => hne (by injection e)) (fun _ _ h => h.base hb hk)
theorem Ca.base {c2 : Nat} {cv : Value} {ps : List RR} (h : Ca W N c2 cv ps) (hb : BsAt W g cat m) (hk : Kp (fun x => x = g) W W') : Ca W' N c2 cv ps := by
  refine h.kp hk (fun e => ?_) (fun b e e2 => ?_) (fun p hp h0 b o e e2 => ?_)
  · have h1 := h.ptr
    unfold Blk at h1
    rw [e, show W.heap[g]? = _ from hb] at h1
    simp at h1
  · rcases h.own.2 with ⟨h1, -⟩ | ⟨g2, cap, cur, h1, -, h2, -⟩
    · rw [h1] at e; cases e
    · rw [h1] at e
      have e3 : g2 = b := by simpa [Value.ownBlock] using e
      rw [e3, e2, show W.heap[g]? = _ from hb] at h2
      simp at h2
  · have h1 := h.sl p hp
    obtain ⟨b', o', e', hb', hc⟩ := Sl.at_ h1 (i := 0) (by rw [List.length_map]; exact List.length_pos_iff.2 h0)
    rw [e] at e'; cases e'
    have h2 := hc 0 (by omega)
    cases hcs : p.r.cols with
    | nil => exact h0 hcs
    | cons d ds =>
      rw [hcs, show b = g from e2] at h2
      exact hb.no (u := .string d.nm) rfl h2
end

/-- What a store into the map makes. -/
theorem MapT.stored {W : World} {m : Nat} {rs : List Rl} {T : Tb} (h : MapT W m rs T) : ∃ D : DataW Value, W.ownsMap Tryz.prog 68 RV m (Maps.size D) D ∧ Maps.size D ≤ 1000 ∧ ∀ W' o v x l, B32 o → B32 v → hasR o v rs = true → W'.ownsMap Tryz.prog 68 RV m (Maps.size D + 1) (D.put (litR o v) (.held x)) → W.grownBy W' (some m) → RwA 5 K.pc W x l → MapT W' m rs (T.put o v l) := by
  obtain ⟨D, h1, h2, h3, h4⟩ := h
  refine ⟨D, h1, h2.1, fun W' o v x l ho hv hin hw hg hr => ?_⟩
  obtain ⟨es, cl, hm, -⟩ := id h1
  exact MapT.put ho hv h1 h2 h3 h4 hin hw (fun _ _ h => h.map hm hg) hr
theorem Ext.map {w W W' : World} {m : Nat} (hE : Ext w W) (hg : W.grownBy W' (some m)) (hm : w.heap.size ≤ m) : Ext w W' :=
  Kp.ext hE (fun x hx _ => by injection hx with hx; omega) (Kp.of_grown hg)

theorem tclone_any (m : Nat) (rs : List Rl) (T : Tb) (w : World) (h : MapT w m rs T) :
    Calls Tryz.prog 39 #[.map (some m)] w fun e w' => e = .returned (.map (some w.heap.size)) ∧ MapT w' w.heap.size rs T ∧ Ext w w' := by
  obtain ⟨D, h1, h2, h3, h4⟩ := h
  refine (AnyW.maps_Clone_owns Tryz.cloM 68 RV m (Maps.size D) D w h1).mono ?_
  rintro e w' ⟨rfl, o1, o2, hb⟩
  refine ⟨rfl, ⟨D, o1, h2, h3, fun o v ho hv => ?_⟩, hb⟩
  obtain ⟨x, hx, hr⟩ := h4 o v ho hv
  exact ⟨x, hx, hr.ext hb⟩

end Go.Proofs.YtkhlgoafeacdcaaGreat

/-
Append of any row, nil or not, to what a call owns.
-/
namespace Go.Proofs.YtkhlgoafeacdcaaGreat
open Go.RowKit

theorem run_app_nil {P : Program} {w : World} (base : Nat) (t ty e : TypeId) (i : TypeInfo) (size : Nat) (ht : P.underlying t = some (.slice e)) (hi : P.info? e = some i)
    (v : Value) (n : Nat) (xs : List Value) (hown : w.ownsRow base e size v n xs) (c : Nat) : (Builtin.append_ #[t, t] ty #[v, .slice none 0 c]).run P w = .ok v w := by
  rcases hown.2 with ⟨rfl, rfl⟩ | ⟨g, cap, cur, rfl, _, _, hnc, _⟩
  · simp [Builtin.append_, run_underlying ht, sizeOf, typeInfo, hi, Builtin.lenOf, Builtin.firstCells]
  · simp [Builtin.append_, run_underlying ht, sizeOf, typeInfo, hi, Builtin.lenOf, Builtin.firstCells, hnc, storeCells]
theorem news_sl {w : World} {b o k : Nat} {xss : List (List Value)} (hk0 : 0 < k) (hk : ∀ ys ∈ xss, ys.length = k) (h : ∀ i, i < xss.length → ∀ j, j < k → w.cell? ⟨b, o + i * k + j, none⟩ = (xss.getD i [])[j]?) :
    ∀ j u, xss.flatten[j]? = some u → w.cell? ((⟨b, o, none⟩ : Addr).add j) = some u := by
  intro j u hj
  have hjl : j < xss.length * k := by
    rcases Nat.lt_or_ge j (xss.length * k) with h | h
    · exact h
    · rw [List.getElem?_eq_none (by rw [flat_length k xss hk]; exact h)] at hj; cases hj
  have hplain : (⟨b, o, none⟩ : Addr).add j = ⟨b, o + j, none⟩ := by unfold Addr.add; split <;> simp_all
  have hi : j / k < xss.length := (Nat.div_lt_iff_lt_mul hk0).2 hjl
  have hq := flat_get k xss hk (j / k) hi (j % k) (Nat.mod_lt _ hk0)
  have hm : j / k * k + j % k = j := by rw [Nat.mul_comm]; exact Nat.div_add_mod j k
  rw [hm] at hq
  rw [hplain, ← hj, hq, ← h (j / k) hi (j % k) (Nat.mod_lt _ hk0), Nat.add_assoc, hm]

set_option maxRecDepth 20000 in
theorem wpList_append_sl {P : Program} {w : World} {ops : Array Oper} {rest : List Oper} {o : Oper} {a : Act} {Q : Exit → Act → World → Prop} (hgd : o.guard = none) (s x : Operand) (t : TypeId)
    (ho : o.op = .call { callee := .builtin .append, args := #[s, x], argTypes := #[t, t] })
    (base : Nat) (e : TypeId) (i : TypeInfo) (z : Value) (size bytes : Nat) (ht : P.underlying t = some (.slice e)) (hi : P.info? e = some i) (hz : i.zero = some z)
    (hsize : i.size = size) (hby : i.bytes = bytes) (hzs : z.cells.size = size) (hsz : 0 < size)
    (v : Value) (n : Nat) (xs : List Value) (hs : a.eval s = v) (hown : w.ownsRow base e size v n xs) (u : Value) (xss : List (List Value)) (hx : a.eval x = u) (hu : Sl w u size xss)
    (hk : ∀ ys ∈ xss, ys.length = size) (h1 : ∀ y ∈ xss.flatten, y.oneCell' = true) (h63 : n + xss.length ≤ maxLen) (hbytes : (n + xss.length) * bytes ≤ 140737488355328) (hbase : base ≤ w.heap.size)
    (h : ∀ v' w', w'.ownsRow base e size v' (n + xss.length) (xs ++ xss.flatten) → w.grownBy w' v.ownBlock → (v'.ownBlock = v.ownBlock ∨ v'.ownBlock = some w.heap.size) → wpList P ops Q rest (a.put o.dst v') w') : wpList P ops Q (o :: rest) a w := by
  obtain ⟨A, cap, rfl, hcs⟩ := hu
  have key : ∃ v' w', (Builtin.append_ #[t, t] o.type #[v, .slice A xss.length cap]).run P w = .ok v' w' ∧ w'.ownsRow base e size v' (n + xss.length) (xs ++ xss.flatten) ∧ w.grownBy w' v.ownBlock ∧ (v'.ownBlock = v.ownBlock ∨ v'.ownBlock = some w.heap.size) := by
    rcases A with _ | ad
    · have h0 : xss = [] := by
        rcases hcs with h | ⟨b, o, e, _⟩
        · exact h
        · cases e
      subst h0
      exact ⟨v, w, run_app_nil base t o.type e i size ht hi v n xs hown cap, by simpa using hown, ⟨rfl, rfl, rfl, Nat.le_refl _, fun _ _ _ => rfl⟩, .inl rfl⟩
    · have hn : ∀ j u, xss.flatten[j]? = some u → w.cell? (ad.add j) = some u := by
        rcases hcs with h | ⟨b, o', e', _, hc⟩
        · subst h; intro j u hj; simp at hj
        · cases e'
          exact news_sl hsz hk hc
      obtain ⟨v', w', hr, h2, h3, _, h5⟩ := run_append_own_at (P := P) w base t o.type e i z size bytes ht hi hz hsize hby hzs hsz v n xs hown ad xss.length cap xss.flatten (flat_length size xss hk) hn h1 h63 hbytes hbase
      exact ⟨v', w', hr, h2, h3, h5⟩
  obtain ⟨v', w', hrun, h2, h3, h4⟩ := key
  refine wpList_plain hgd fun K hK => ?_
  unfold Oper.wp execOp
  simp only [ho, resolve, invoke, builtin, Sem.run_bind, Sem.run_pure, Result.andThen_ok, List.map_toArray, List.map_cons, List.map_nil, hs, hx, hrun]
  exact hK _ _ (h v' w' h2 h3 h4)

end Go.Proofs.YtkhlgoafeacdcaaGreat
