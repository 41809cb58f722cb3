/-
What is wrong with a column: the closure, the library's IndexFunc and ContainsFunc at it, rel.column.
-/
import Derived.RangeFuncNested
import Derived.RangeFuncBound
import Derived.RangeFuncCalls
import Derived.RangeFuncLeaves
import Derived.RangeFuncBox
import Derived.Shelf.Abstract
import Derived.Shelf.RegionOpen
import Derived.OwnWalkIn
import Derived.TacticsInMore
import Derived.LoopNIn
import Derived.LoopIn
import Derived.Deep.RegionHeld
import Derived.Test.YtdgalkljngigeaaGreatP2
namespace Go.Proofs.YtdgalkljngigeaaGreat
open Go.RowKit

def Col.agg (c : Col) : Value := .agg #[.string c.nm, .int .u8 c.ty, .bool c.key]
/-- A name is the captured column's. -/
def sameNm (c : Col) (o : Col) : Bool := decide (o.nm = c.nm)

set_option maxRecDepth 20000 in set_option maxHeartbeats 400000 in
theorem colf_any (o c : Col) (B : Nat) (w : World) (hc : w.cell? ⟨B, 0, none⟩ = some (.string c.nm)) (hB : B < w.heap.size) :
    Calls Tryz.prog 102 #[.agg #[.string o.nm, .int .u8 o.ty, .bool o.key], .pointer (some ⟨B, 0, none⟩)] w fun e w' => e = .returned (.bool (sameNm c o)) ∧ Ext w w' := by
  go_enter Tryz.func102, Tryz.ntmps102
  go_wp2
  go_ret
  exact ⟨ret_bool (str_beq _ _), by exact eX⟩

def IdxPost {α : Type} (l : List α) (p : α → Bool) (w : World) (e : Ending) (w' : World) : Prop := ∃ i : Int, e = .returned (.int .i64 i) ∧ decide (0 ≤ i) = l.any p ∧ Ext w w'
theorem any_at {α : Type} {l : List α} {p : α → Bool} {k : Nat} (hk : k < l.length) (h : p l[k] = true) : l.any p = true := List.any_eq_true.2 ⟨_, List.getElem_mem hk, h⟩
theorem any_none {α : Type} {l : List α} {p : α → Bool} (h : ∀ i (hi : i < l.length), p l[i] = false) : l.any p = false := by
  rw [List.any_eq_false]
  intro x hx
  obtain ⟨i, hi, rfl⟩ := List.getElem_of_mem hx
  simp [h i hi]

set_option maxRecDepth 100000 in set_option maxHeartbeats 1600000 in
theorem colidx_any (l : List Col) (a : Option Addr) (n cap : Nat) (c : Col) (B : Nat) (w : World) (hn : l.length = n) (hl : Sl w (.slice a n cap) 3 (l.map Col.cells)) (hc : w.cell? ⟨B, 0, none⟩ = some (.string c.nm)) (hB : B < w.heap.size) (hlen : l.length ≤ 1000) :
    Calls Tryz.prog 117 #[.slice a n cap, .func (.func 102) #[] #[.pointer (some ⟨B, 0, none⟩)]] w (IdxPost l (sameNm c) w) := by
  subst hn
  have HL := Hid.mk' hl
  have HC := Hid.mk' hc
  clear hl hc
  go_enter Tryz.func117, Tryz.ntmps117
  go_wp2
  go_loopw [8] (fun i wr => ∃ k : Nat, k ≤ l.length ∧ i = .int .i64 k ∧ Hid (∀ j (hj : j < l.length), j < k → sameNm c l[j] = false) ∧ Hid (Ext w wr)) (fun i _ => l.length - (intOf i).toNat)
  case atStart => exact ⟨0, Nat.zero_le _, rfl, fun j _ h => by omega, Ext.refl _⟩
  case round =>
    obtain ⟨k, hk, rfl, hrel, hE⟩ := hrel
    by_cases hlt : k < l.length
    · obtain ⟨b, o, rfl, hb, hx⟩ := HL.out.at_ (i := k) (by simpa using hlt)
      obtain ⟨f0, f1, f2⟩ := Col.at_ hlt hx hb hE.out
      have hbw : b < wr.heap.size := Nat.lt_of_lt_of_le hb hE.out.size
      have HF := Hid.mk' (fun W (h : Ext wr W) => colf_any l[k] c B W ((hE.out.trans h).cells.1 B _ hB |>.trans HC.out) (Nat.lt_of_lt_of_le hB (hE.out.trans h).size))
      cases hq : sameNm c l[k] with
      | true =>
        rw [hq] at HF
        have HQ := Hid.mk' (any_at hlt hq)
        clear hq hx
        go_wp2_with (go_at_call 102; refine (HF.out _ (by exact eX)).mono ?_; rintro e w1 ⟨rfl, hb1⟩)
        go_ret
        exact ⟨_, rfl, by rw [HQ.out]; simp, hE.out.trans (by exact eX)⟩
      | false =>
        rw [hq] at HF
        have HQ := Hid.mk' hq
        clear hq hx
        go_wp2_with (go_at_call 102; refine (HF.out _ (by exact eX)).mono ?_; rintro e w1 ⟨rfl, hb1⟩)
        go_roundw
        case rel => exact ⟨k + 1, by omega, by go_num, fun j hj hjk => by
          by_cases e : j = k
          · subst e; exact HQ.out
          · exact hrel.out j hj (by omega), Hid.mk' (hE.out.trans (by exact eX))⟩
        case measure => simp [intOf]; omega
    · have hkk : k = l.length := by omega
      have HQ := Hid.mk' (any_none (p := sameNm c) fun j hj => hrel.out j hj (by omega))
      subst hkk
      go_wp2
      go_ret
      exact ⟨_, rfl, by rw [HQ.out]; simp, hE.out⟩

set_option maxRecDepth 20000 in set_option maxHeartbeats 400000 in
theorem colhas_any (l : List Col) (a : Option Addr) (n cap : Nat) (c : Col) (B : Nat) (w : World) (hn : l.length = n) (hl : Sl w (.slice a n cap) 3 (l.map Col.cells)) (hc : w.cell? ⟨B, 0, none⟩ = some (.string c.nm)) (hB : B < w.heap.size) (hlen : l.length ≤ 1000) :
    Calls Tryz.prog 101 #[.slice a n cap, .func (.func 102) #[] #[.pointer (some ⟨B, 0, none⟩)]] w fun e w' => e = .returned (.bool (l.any (sameNm c))) ∧ Ext w w' := by
  have HI := Hid.mk' (colidx_any l a n cap c B w hn hl hc hB hlen)
  clear hl hc
  go_enter Tryz.func101, Tryz.ntmps101
  go_wp2_with (go_at_call 117; refine HI.out.mono ?_; rintro e w1 ⟨i, rfl, hi, hb1⟩; have HI2 := Hid.mk' hi; clear hi)
  go_ret
  exact ⟨ret_bool HI2.out, hb1⟩

set_option maxRecDepth 100000 in set_option maxHeartbeats 1600000 in
theorem column_any (c : Col) (l : List Col) (a : Option Addr) (n cap : Nat) (w : World) (hn : l.length = n) (hl : Sl w (.slice a n cap) 3 (l.map Col.cells)) (hlen : l.length ≤ 1000) (hs : c.nm.size ≤ 9223372036854775807) :
    Calls Tryz.prog 85 #[.agg #[.string c.nm, .int .u8 c.ty, .bool c.key], .slice a n cap] w fun e w' => e = .returned (.int .i64 (colE c l)) ∧ Ext w w' := by
  have HN := Hid.mk' (fun w => named_any c.nm w hs)
  have HH := Hid.mk' (fun W (h : Ext w W) (B : Nat) hc hB => colhas_any l a n cap c B W hn (hl.ext h) hc hB hlen)
  have HE := Hid.mk' (show colE c l = if namedB c.nm = false then 3 else if l.any (sameNm c) = true then 9 else if c.ty < 1 ∨ 6 < c.ty then 11 else 0 from rfl)
  clear hl
  cases h1 : namedB c.nm with
  | false =>
    rw [h1] at HN HE
    clear h1
    go_enter Tryz.func85, Tryz.ntmps85
    go_wp2_with (go_at_call 84; refine (HN.out _).mono ?_; rintro e w1 ⟨rfl, rfl⟩)
    go_ret
    exact ⟨ret_int (by rw [HE.out]; simp), by exact eX⟩
  | true =>
    rw [h1] at HN HE
    clear h1
    cases h2 : l.any (sameNm c) with
    | true =>
      rw [h2] at HH HE
      clear h2
      go_enter Tryz.func85, Tryz.ntmps85
      go_wp2_with (first
        | (go_at_call 84; refine (HN.out _).mono ?_; rintro e w1 ⟨rfl, rfl⟩)
        | (go_at_call 101; refine (HH.out _ (by exact eX) _ (by simp) (by simp)).mono ?_; rintro e w2 ⟨rfl, hb2⟩; have hE2 : Ext w w2 := (by exact eX)))
      go_ret
      exact ⟨ret_int (by rw [HE.out]; simp), hE2⟩
    | false =>
      rw [h2] at HH HE
      clear h2
      by_cases h3 : c.ty < 1
      · have HR := Hid.mk' (HE.out.trans (by rw [if_neg (by simp), if_neg (by simp), if_pos (.inl h3)]))
        clear HE
        go_enter Tryz.func85, Tryz.ntmps85
        go_wp2_with (first
          | (go_at_call 84; refine (HN.out _).mono ?_; rintro e w1 ⟨rfl, rfl⟩)
          | (go_at_call 101; refine (HH.out _ (by exact eX) _ (by simp) (by simp)).mono ?_; rintro e w2 ⟨rfl, hb2⟩; have hE2 : Ext w w2 := (by exact eX); have hk := ((Blk.new w #[.string c.nm, .int .u8 c.ty, .bool c.key] 115).ext hb2).cell))
        go_ret
        exact ⟨ret_int HR.out.symm, hE2⟩
      · by_cases h4 : 6 < c.ty
        · have HR := Hid.mk' (HE.out.trans (by rw [if_neg (by simp), if_neg (by simp), if_pos (.inr h4)]))
          clear HE
          go_enter Tryz.func85, Tryz.ntmps85
          go_wp2_with (first
            | (go_at_call 84; refine (HN.out _).mono ?_; rintro e w1 ⟨rfl, rfl⟩)
            | (go_at_call 101; refine (HH.out _ (by exact eX) _ (by simp) (by simp)).mono ?_; rintro e w2 ⟨rfl, hb2⟩; have hE2 : Ext w w2 := (by exact eX); have hk := ((Blk.new w #[.string c.nm, .int .u8 c.ty, .bool c.key] 115).ext hb2).cell))
          go_ret
          exact ⟨ret_int HR.out.symm, hE2⟩
        · have HR := Hid.mk' (HE.out.trans (by rw [if_neg (by simp), if_neg (by simp), if_neg (by omega)]))
          clear HE
          go_enter Tryz.func85, Tryz.ntmps85
          go_wp2_with (first
            | (go_at_call 84; refine (HN.out _).mono ?_; rintro e w1 ⟨rfl, rfl⟩)
            | (go_at_call 101; refine (HH.out _ (by exact eX) _ (by simp) (by simp)).mono ?_; rintro e w2 ⟨rfl, hb2⟩; have hE2 : Ext w w2 := (by exact eX); have hk := ((Blk.new w #[.string c.nm, .int .u8 c.ty, .bool c.key] 115).ext hb2).cell))
          go_ret
          exact ⟨ret_int HR.out.symm, hE2⟩

end Go.Proofs.YtdgalkljngigeaaGreat

/-
The walk through the columns of the key: rel.Keys and its closure, for every loop body; rel.keyed.
-/
namespace Go.Proofs.YtdgalkljngigeaaGreat
open Go.RowKit Go.Shelf
attribute [local go_sem] Oper.semAt_some

/-- A column of the key, with its place. -/
abbrev KX (cols : List Col) := { x : Nat × Col // x.1 < cols.length ∧ cols[x.1]? = some x.2 ∧ x.2.key = true }
/-- The columns of the key among the first k. -/
def keysUp (cols : List Col) : Nat → List (KX cols)
  | 0 => []
  | k + 1 => if h : ∃ h : k < cols.length, cols[k].key = true then keysUp cols k ++ [⟨(k, cols[k]'h.1), h.1, List.getElem?_eq_getElem h.1, h.2⟩] else keysUp cols k
theorem keysUp_yes {cols : List Col} {k : Nat} (hk : k < cols.length) (h : cols[k].key = true) : keysUp cols (k + 1) = keysUp cols k ++ [⟨(k, cols[k]), hk, List.getElem?_eq_getElem hk, h⟩] := by
  unfold keysUp
  rw [dif_pos ⟨hk, h⟩]
  cases k <;> rfl
theorem keysUp_no {cols : List Col} {k : Nat} (hk : k < cols.length) (h : cols[k].key = false) : keysUp cols (k + 1) = keysUp cols k := by
  conv => lhs; unfold keysUp
  rw [dif_neg (by rintro ⟨_, h2⟩; rw [h] at h2; cases h2)]
theorem keysUp_len {cols : List Col} : ∀ k, (keysUp cols k).length ≤ k
  | 0 => Nat.le_refl _
  | k + 1 => by
    have := keysUp_len (cols := cols) k
    unfold keysUp
    split
    · rw [List.length_append, List.length_singleton]; omega
    · omega
theorem keysUp_mem {cols : List Col} : ∀ (k : Nat) (x : KX cols), x ∈ keysUp cols k ↔ x.1.1 < k
  | 0, x => by simp [keysUp]
  | k + 1, x => by
    have ih := keysUp_mem (cols := cols) k x
    obtain ⟨⟨i, c⟩, hi, hc, hk⟩ := x
    simp only at *
    unfold keysUp
    split
    · rename_i h
      rw [List.mem_append, ih, List.mem_singleton, Subtype.mk.injEq, Prod.mk.injEq]
      constructor
      · rintro (h1 | ⟨rfl, _⟩) <;> omega
      · intro h1
        by_cases e : i = k
        · subst e; right; refine ⟨rfl, ?_⟩; rw [List.getElem?_eq_getElem hi] at hc; exact (Option.some.inj hc).symm
        · left; omega
    · rename_i h
      rw [ih]
      constructor
      · intro h1; omega
      · intro h1
        by_cases e : i = k
        · subst e
          rw [List.getElem?_eq_getElem hi] at hc
          exact absurd ⟨hi, by rw [Option.some.inj hc]; exact hk⟩ h
        · omega
theorem keysUp_none {cols : List Col} : keysUp cols cols.length = [] ↔ cols.any Col.key = false := by
  constructor
  · intro h
    rw [List.any_eq_false]
    intro c hc
    obtain ⟨i, hi, rfl⟩ := List.getElem_of_mem hc
    intro hk
    have : (⟨(i, cols[i]), hi, List.getElem?_eq_getElem hi, hk⟩ : KX cols) ∈ keysUp cols cols.length := (keysUp_mem _ _).2 hi
    rw [h] at this; cases this
  · intro h
    rw [List.any_eq_false] at h
    rw [List.eq_nil_iff_forall_not_mem]
    rintro ⟨⟨i, c⟩, hi, hc, hk⟩ _
    exact h c (List.mem_of_getElem? hc) hk

/-- What a column of the key is handed out as. -/
def encK {cols : List Col} (x : KX cols) : Array Value := #[.int .i64 (x.1.1 : Int), .agg #[.string x.1.2.nm, .int .u8 x.1.2.ty, .bool x.1.2.key]]

set_option maxRecDepth 100000 in
set_option maxHeartbeats 2000000 in
theorem keys1_in (F : Fence) (n : Nat) (hF : F.fn 98) (hro : F.round = none) (hn : 1 ≤ n) (l Bs : Nat) (w0 : World) (a : Option Addr) (cap : Nat) (cols : List Col) (hlen : cols.length ≤ 1000) (hl : Hid (Sl w0 (.slice a cols.length cap) 3 (cols.map Col.cells)))
    (J Jx : List (KX cols) → World → Prop) (W0 : World) (hJ : Hid (AbidesFrom W0.heap.size J))
    (hY : Hid (∀ pre x W, J pre W → pre.length < cols.length → YieldAt F (n - 1) Tryz.prog l (encK x) W fun e W' => (e = .returned (.bool true) ∧ J (pre ++ [x]) W' ∧ Below w0.heap.size W W') ∨ (e = .returned (.bool false) ∧ Jx (pre ++ [x]) W')))
    (hE : Hid (Ext w0 W0)) (hBs : W0.cell? ⟨Bs, 4, none⟩ = some (.slice a cols.length cap)) (h0 : Hid (J [] W0)) :
    CallsIn F n Tryz.prog 98 #[.func (.yield l) #[] #[], .pointer (some ⟨Bs, 0, none⟩)] W0 fun e W' => (∃ v, e = .returned v) ∧
      ((∃ ys, ys = keysUp cols cols.length ∧ J ys W') ∨ (∃ pre, (∃ k, k ≤ cols.length ∧ pre = keysUp cols k) ∧ Jx pre W')) := by
  refine callsIn_of_wp Tryz.func98 rfl hF ?_ hro
  simp only [Tryz.ntmps98, List.size_toArray, List.length_cons, List.length_nil, Nat.reduceAdd, Nat.reduceSub, Array.replicate_succ, Array.replicate_zero, List.push_toArray, List.append_toArray, List.nil_append, List.cons_append]
  gi_wp2
  gi_loopw [8] (fun i wr => ∃ k : Nat, k ≤ cols.length ∧ i = .int .i64 k ∧ Hid (J (keysUp cols k) wr) ∧ Hid (Ext w0 wr)) (fun i _ => cols.length - (intOf i).toNat)
  case atStart => exact ⟨0, Nat.zero_le _, rfl, h0, hE⟩
  case round =>
    obtain ⟨k, hk, rfl, hJs, hEw⟩ := hrel
    by_cases hlt : k < cols.length
    · obtain ⟨b, o, rfl, hb, hx⟩ := hl.out.at_ (i := k) (by simpa using hlt)
      obtain ⟨f0, f1, f2⟩ := Col.at_ hlt hx hb hEw.out
      have hJa : Hid (∀ o : Obj, J (keysUp cols k) (wr.alloc o)) := Hid.mk' (fun o => hJ.out _ _ _ none hJs.out (World.grownBy_alloc _ _ none) (by simp))
      clear hx
      cases hq : cols[k].key with
      | true =>
        obtain ⟨x, hu, hx2⟩ : ∃ x : KX cols, keysUp cols (k + 1) = keysUp cols k ++ [x] ∧ x.1 = (k, cols[k]) := ⟨_, keysUp_yes hlt hq, rfl⟩
        have HU := Hid.mk' hu
        obtain ⟨fn, tmps, assign, body, hy, hR⟩ := hY.out (keysUp cols k) x (wr.alloc (.cells #[.string cols[k].nm, .int .u8 cols[k].ty, .bool true] 115)) (hJa.out _) (by have := keysUp_len (cols := cols) k; omega)
        simp only [encK, hx2, hq] at hy
        rw [hq] at f2
        clear hq hu hx2
        gi_wp2
        refine hR.mono ?_
        rintro e W3 (⟨rfl, hJ3, hk3⟩ | ⟨rfl, hJx3⟩)
        · gi_wp2
          go_roundw
          case rel => exact ⟨k + 1, by omega, by go_num, Hid.mk' (by rw [HU.out]; exact hJ3), Hid.mk' (Below.trans (hEw.out.alloc _) hk3)⟩
          case measure => simp [intOf]; omega
        · gi_wp2
          refine bodyPost_ret (results_none rfl _ _ _) rfl ?_
          exact ⟨⟨_, rfl⟩, .inr ⟨_, ⟨k + 1, by omega, HU.out.symm⟩, hJx3⟩⟩
      | false =>
        have HU := Hid.mk' (keysUp_no hlt hq)
        rw [hq] at f2
        clear hq
        gi_wp2
        refine ⟨fun _ h => (by cases h), ?_⟩
        gi_wp2
        go_roundw
        case rel => exact ⟨k + 1, by omega, by go_num, Hid.mk' (by rw [HU.out]; exact hJa.out _), Hid.mk' (hEw.out.alloc _)⟩
        case measure => simp [intOf]; omega
    · obtain rfl : k = cols.length := by omega
      gi_wp2
      go_end0
      exact ⟨⟨_, rfl⟩, .inl ⟨_, rfl, hJs.out⟩⟩

theorem keys_stops (F : Fence) (n : Nat) (hF : F.fn 98) (hro : F.round = none) (hn : 1 ≤ n) (Bs : Nat) (w0 : World) (a : Option Addr) (cap : Nat) (cols : List Col) (hlen : cols.length ≤ 1000) (hl : Sl w0 (.slice a cols.length cap) 3 (cols.map Col.cells))
    (w : World) (hE : Ext w0 w) (hBs : w.cell? ⟨Bs, 4, none⟩ = some (.slice a cols.length cap)) (hB : Bs < w.heap.size) :
    SeqStopsK F n Tryz.prog 98 #[.pointer (some ⟨Bs, 0, none⟩)] (encK (cols := cols)) (Below w0.heap.size) (fun ys => ys = keysUp cols cols.length) (fun pre => ∃ k, k ≤ cols.length ∧ pre = keysUp cols k) cols.length w := fun l J Jx W hW hJ _ hY h0 =>
  keys1_in F n hF hro hn l Bs w0 a cap cols hlen hl J Jx W hJ hY (Below.trans hE (hW.mono hE.size)) ((hW.cell (p := ⟨Bs, 4, none⟩) hB).trans hBs) h0

set_option maxHeartbeats 1000000 in
theorem keys_in (F : Fence) (n : Nat) (hF : F.fn 76) (hro : F.round = none) (oid ver : Int) (nm : ByteArray) (id : Int) (v : Value) (w : World) :
    CallsIn F n Tryz.prog 76 #[.agg #[.int .u32 oid, .int .u32 ver, .string nm, .int .u8 id, v]] w fun e w' => e = .returned (.func (.func 98) #[] #[.pointer (some ⟨w.heap.size, 0, none⟩)]) ∧ w' = w.alloc (.cells #[.int .u32 oid, .int .u32 ver, .string nm, .int .u8 id, v] 99) := by
  refine callsIn_of_wp Tryz.func76 rfl hF ?_ hro
  simp only [Tryz.ntmps76, List.size_toArray, List.length_cons, List.length_nil, Nat.reduceAdd, Nat.reduceSub, Array.replicate_succ, Array.replicate_zero, List.push_toArray, List.append_toArray, List.nil_append, List.cons_append]
  gi_wp2
  go_ret
  exact ⟨rfl, rfl⟩

end Go.Proofs.YtdgalkljngigeaaGreat

/-
Has a relation a column of the key?
-/
namespace Go.Proofs.YtdgalkljngigeaaGreat
open Go.RowKit Go.Shelf
attribute [local go_sem] Oper.semAt_some

theorem fold_two (t : Array Value) (p q : Nat) (u v : Value) : Array.foldl (fun t x => t.setIfInBounds x.1 x.2) t (#[p, q].zip #[u, v]) = (t.setIfInBounds p u).setIfInBounds q v := by
  simp [List.zip_toArray]
theorem keysUp_any {cols : List Col} {k : Nat} (h : keysUp cols k ≠ []) : cols.any Col.key = true := by
  rw [List.any_eq_true]
  obtain ⟨x, hx⟩ := List.exists_mem_of_ne_nil _ h
  obtain ⟨⟨i, c⟩, hi, hc, hk⟩ := x
  exact ⟨c, List.mem_of_getElem? hc, hk⟩

set_option maxRecDepth 100000 in
set_option maxHeartbeats 2000000 in
theorem keyed_in (F : Fence) (n : Nat) (h1F : F.fn 98) (hKF : F.fn 76) (hDF : F.fn 86) (hro : F.round = none) (hn : 3 ≤ n) (oid ver : Int) (nm : ByteArray) (id : Int) (cols : List Col) (a : Option Addr) (cap : Nat) (w : World) (hl : Sl w (.slice a cols.length cap) 3 (cols.map Col.cells)) (hlen : cols.length ≤ 1000) :
    CallsIn F n Tryz.prog 86 #[.agg #[.int .u32 oid, .int .u32 ver, .string nm, .int .u8 id, .slice a cols.length cap]] w fun e w' => e = .returned (.bool (cols.any Col.key)) ∧ Ext w w' := by
  have h1 : 1 ≤ n := by omega
  have HL := Hid.mk' hl
  clear hl
  refine callsIn_of_wp_marks Tryz.func86 rfl hDF ?_ hro
  simp only [Tryz.ntmps86, List.size_toArray, List.length_cons, List.length_nil, Nat.reduceAdd, Nat.reduceSub, Array.replicate_succ, Array.replicate_zero, List.push_toArray, List.append_toArray, List.nil_append, List.cons_append]
  gi_wp2_with (gi_at_call 76; refine (keys_in F (n - 1) hKF hro _ _ _ _ _ _).mono ?_; rintro e w' ⟨rfl, rfl⟩)
  have hE3 : Ext w (((w.alloc (.cells #[.int .u32 oid, .int .u32 ver, .string nm, .int .u8 id, .slice a cols.length cap] 99)).alloc (.cells #[.bool false] 4)).alloc (.cells #[.int .u32 oid, .int .u32 ver, .string nm, .int .u8 id, .slice a cols.length cap] 99)) := ((Ext.refl w).alloc _).alloc _ |>.alloc _
  have hB1 : Blk (((w.alloc (.cells #[.int .u32 oid, .int .u32 ver, .string nm, .int .u8 id, .slice a cols.length cap] 99)).alloc (.cells #[.bool false] 4)).alloc (.cells #[.int .u32 oid, .int .u32 ver, .string nm, .int .u8 id, .slice a cols.length cap] 99)) (w.heap.size + 1) #[.bool false] 4 := (Blk.new' _ _ (by simp)).alloc _
  have hB2 : Blk (((w.alloc (.cells #[.int .u32 oid, .int .u32 ver, .string nm, .int .u8 id, .slice a cols.length cap] 99)).alloc (.cells #[.bool false] 4)).alloc (.cells #[.int .u32 oid, .int .u32 ver, .string nm, .int .u8 id, .slice a cols.length cap] 99)) (w.heap.size + 1 + 1) #[.int .u32 oid, .int .u32 ver, .string nm, .int .u8 id, .slice a cols.length cap] 99 := Blk.new' _ _ (by simp)
  refine wpIn_rangeFunc_ownG hro h1 (gf := 98) (lb := #[.pointer (some ⟨w.heap.size + 1 + 1, 0, none⟩)]) rfl h1F (enters_of Tryz.func98 (by kernel_rfl) rfl)
    (keys_stops F (n - 1) h1F hro (by omega) (w.heap.size + 1 + 1) w a cap cols hlen HL.out _ hE3 (hB2.cell 4) hB2.lt) belowK_t (belowK_b (by simp; omega)) (Below.refl _ _) (fun _ => rfl)
    (fun pre W => (pre = [] ∧ W.cell? ⟨w.heap.size + 1, 0, none⟩ = some (.bool false) ∧ W.frozen? ⟨w.heap.size + 1, 0, none⟩ = false) ∧ Below w.heap.size w W)
    (fun c pre W => (c = .ret ∧ pre ≠ [] ∧ W.cell? ⟨w.heap.size + 1, 0, none⟩ = some (.bool true)) ∧ Below w.heap.size w W)
    (OwnFrom.and (Own.from (fun s A B row hs hg hr => ⟨hs.1, cell_kept hs.2.1 hg hr, (frozen_kept hs.2.1 hg hr).trans hs.2.2⟩) _) (ownFrom_below (Nat.le_refl _) (by simp; omega)))
    (fun c => OwnFrom.and (Own.from (fun s A B row hs hg hr => ⟨hs.1, hs.2.1, cell_kept hs.2.2 hg hr⟩) _) (ownFrom_below (Nat.le_refl _) (by simp; omega)))
    ⟨⟨rfl, hB1.cell 0, hB1.frozen 0⟩, hE3⟩
    (fun x => { tmps := #[.agg #[.int .u32 oid, .int .u32 ver, .string nm, .int .u8 id, .slice a cols.length cap], .pointer (some ⟨w.heap.size, 0, none⟩), .pointer (some ⟨w.heap.size + 1, 0, none⟩), .agg #[.int .u32 oid, .int .u32 ver, .string nm, .int .u8 id, .slice a cols.length cap], .func (.func 98) #[] #[.pointer (some ⟨w.heap.size + 1 + 1, 0, none⟩)], .int .i64 (x.1.1 : Int), .agg #[.string x.1.2.nm, .int .u8 x.1.2.ty, .bool x.1.2.key]], defers := [] }) ?assign ?body ?done ?stop
  case assign =>
    intro l x W K hK
    unfold encK
    rw [fold_two]
    gi_wp2
    exact hK
  case body =>
    rintro l pre x W ⟨⟨rfl, hc, hf⟩, hB⟩ _
    gi_wp2
    exact ⟨(KeepsOthers.setCell _ _ _).from _, ⟨rfl, by simp, World.cell?_setCell_same' _ _ _ (by rw [hc]; rfl)⟩, hB.setCell (p := ⟨w.heap.size + 1, 0, none⟩) (by simp) _⟩
  case done =>
    rintro D ys W hD hys ⟨⟨rfl, hc, hf⟩, hB⟩ hK
    gi_wp2
    have hK' := (KeepsOthers.setCell W ⟨w.heap.size + 1, 0, none⟩ (.bool false)).same D _ hK rfl
    refine ⟨by simp, .inl ⟨_, _, rfl, run_takeDeferred hK', ?_⟩⟩
    have hc5 := cell_kept (World.cell?_setCell_same' W ⟨w.heap.size + 1, 0, none⟩ (.bool false) (by rw [hc]; rfl)) (grownBy_putObj' _ D (.deferred none)) (fun r e => by cases e; exact ⟨_, hK', rfl⟩)
    refine ⟨.bool false, ?_, by rw [keysUp_none.1 hys.symm], (hB.setCell (p := ⟨w.heap.size + 1, 0, none⟩) (by simp) _).trans (belowK_b (w := w) (Nat.le_refl _) _ D _ _ (by simp at hD; omega) hK' rfl rfl)⟩
    simp [results, Tryz.f86, go_sem, hc5]
  case stop =>
    rintro D c pre W hD ⟨k, hk, rfl⟩ ⟨⟨rfl, hne, hc⟩, hB⟩ hK
    gi_wp2
    refine ⟨by simp, .inl ⟨_, _, rfl, run_takeDeferred hK, ?_⟩⟩
    have hc5 := cell_kept hc (grownBy_putObj' _ D (.deferred none)) (fun r e => by cases e; exact ⟨_, hK, rfl⟩)
    refine ⟨.bool true, ?_, by rw [keysUp_any hne], hB.trans (belowK_b (w := w) (Nat.le_refl _) W D _ _ (by simp at hD; omega) hK rfl rfl)⟩
    simp [results, Tryz.f86, go_sem, hc5]

theorem keyed_any (oid ver : Int) (nm : ByteArray) (id : Int) (cols : List Col) (a : Option Addr) (cap : Nat) (w : World) (hl : Sl w (.slice a cols.length cap) 3 (cols.map Col.cells)) (hlen : cols.length ≤ 1000) :
    Calls Tryz.prog 86 #[.agg #[.int .u32 oid, .int .u32 ver, .string nm, .int .u8 id, .slice a cols.length cap]] w fun e w' => e = .returned (.bool (cols.any Col.key)) ∧ Ext w w' :=
  callsIn_wide.1 (keyed_in Fence.wide 3 trivial trivial trivial rfl (Nat.le_refl _) oid ver nm id cols a cap w hl hlen)

end Go.Proofs.YtdgalkljngigeaaGreat

/-
What is wrong with a relation, the program's answer.
-/
namespace Go.Proofs.YtdgalkljngigeaaGreat
open Go.RowKit

theorem Sl.take {w : World} {a : Option Addr} {n cap k : Nat} {xss : List (List Value)} (h : Sl w (.slice a n cap) k xss) {i : Nat} (hi : i ≤ xss.length) : Sl w (.slice a i cap) k (xss.take i) := by
  obtain ⟨a', cap', hv, hs⟩ := h
  simp only [Value.slice.injEq] at hv
  obtain ⟨rfl, -, rfl⟩ := hv
  have hl : (xss.take i).length = i := by rw [List.length_take]; omega
  refine ⟨a, cap, by rw [hl], ?_⟩
  rcases hs with rfl | ⟨b, o, rfl, hb, hc⟩
  · left; simp
  · refine .inr ⟨b, o, rfl, hb, fun j hj q hq => ?_⟩
    rw [hl] at hj
    rw [hc j (by omega) q hq]
    simp [hj]

/-- The body's verdicts, in the order of the text. -/
theorem Rl.right_cols {r : Rl} (h1 : r.oid ≠ 0) (h2 : r.ver ≠ 0) (h3 : namedB r.nm = true) (h4 : r.id ≤ 2) (h5 : 1 ≤ r.cols.length) (h6 : r.cols.length ≤ 16) :
    r.right = if firstE (colAt r.cols) r.cols.length ≠ 0 then firstE (colAt r.cols) r.cols.length else if r.id = 1 ∧ r.cols.any Col.key = false then 13 else 0 := by
  unfold Rl.right
  rw [if_neg (by omega), if_neg (by rw [h3]; simp), if_neg (by omega), if_neg (by omega)]

set_option maxRecDepth 100000 in set_option maxHeartbeats 4000000 in
theorem right8_any (oid ver : Int) (nm : ByteArray) (id : Int) (cols : List Col) (a : Option Addr) (cap : Nat) (w : World) (hl : Sl w (.slice a cols.length cap) 3 (cols.map Col.cells)) (hcap : cols.length ≤ cap) (hlen : cols.length ≤ 1000)
    (hnm : nm.size ≤ 9223372036854775807) (hcs : ∀ c ∈ cols, c.nm.size ≤ 9223372036854775807) :
    Calls Tryz.prog 61 #[.agg #[.int .u32 oid, .int .u32 ver, .string nm, .int .u8 id, .slice a cols.length cap]] w fun e w' => e = .returned (.int .i64 (⟨oid, ver, nm, id, cols⟩ : Rl).right) ∧ Ext w w' := by
  have HN := Hid.mk' (fun w => named_any nm w hnm)
  have HK := Hid.mk' (fun W (h : Ext w W) => keyed_any oid ver nm id cols a cap W (hl.ext h) hlen)
  have HL := Hid.mk' hl
  have HCS := Hid.mk' hcs
  clear hl hcs
  by_cases h1 : oid = 0
  · have HR := Hid.mk' (show (⟨oid, ver, nm, id, cols⟩ : Rl).right = 4 by unfold Rl.right; rw [if_pos (.inl h1)])
    have e1 : (oid == 0) = true := by simpa using h1
    clear h1
    go_enter Tryz.func61, Tryz.ntmps61
    go_wp2
    go_ret
    exact ⟨ret_int HR.out.symm, by exact eX⟩
  have e1 : (oid == 0) = false := by simpa using h1
  by_cases h2 : ver = 0
  · have HR := Hid.mk' (show (⟨oid, ver, nm, id, cols⟩ : Rl).right = 4 by unfold Rl.right; rw [if_pos (.inr h2)])
    have e2 : (ver == 0) = true := by simpa using h2
    clear h2 h1
    go_enter Tryz.func61, Tryz.ntmps61
    go_wp2
    go_ret
    exact ⟨ret_int HR.out.symm, by exact eX⟩
  have e2 : (ver == 0) = false := by simpa using h2
  cases h3 : namedB nm with
  | false =>
    have HR := Hid.mk' (show (⟨oid, ver, nm, id, cols⟩ : Rl).right = 3 by unfold Rl.right; rw [if_neg (by simp only; omega), if_pos h3])
    rw [h3] at HN
    clear h3 h2 h1
    go_enter Tryz.func61, Tryz.ntmps61
    go_wp2_with (go_at_call 84; refine (HN.out _).mono ?_; rintro e w1 ⟨rfl, rfl⟩)
    go_ret
    exact ⟨ret_int HR.out.symm, by exact eX⟩
  | true =>
  by_cases h4 : 2 < id
  · have HR := Hid.mk' (show (⟨oid, ver, nm, id, cols⟩ : Rl).right = 7 by unfold Rl.right; rw [if_neg (by simp only; omega), if_neg (by simp only [h3]; simp), if_pos h4])
    rw [h3] at HN
    clear h3 h2 h1
    go_enter Tryz.func61, Tryz.ntmps61
    go_wp2_with (go_at_call 84; refine (HN.out _).mono ?_; rintro e w1 ⟨rfl, rfl⟩)
    go_ret
    exact ⟨ret_int HR.out.symm, by exact eX⟩
  by_cases h5 : cols.length < 1
  · have HR := Hid.mk' (show (⟨oid, ver, nm, id, cols⟩ : Rl).right = 17 by unfold Rl.right; rw [if_neg (by simp only; omega), if_neg (by simp only [h3]; simp), if_neg (by simp only; omega), if_pos (.inl h5)])
    have h4' : id ≤ 2 := by omega
    rw [h3] at HN
    clear h3 h2 h1
    go_enter Tryz.func61, Tryz.ntmps61
    go_wp2_with (go_at_call 84; refine (HN.out _).mono ?_; rintro e w1 ⟨rfl, rfl⟩)
    go_ret
    exact ⟨ret_int HR.out.symm, by exact eX⟩
  by_cases h6 : 16 < cols.length
  · have HR := Hid.mk' (show (⟨oid, ver, nm, id, cols⟩ : Rl).right = 17 by unfold Rl.right; rw [if_neg (by simp only; omega), if_neg (by simp only [h3]; simp), if_neg (by simp only; omega), if_pos (.inr h6)])
    have h4' : id ≤ 2 := by omega
    have h5' : 1 ≤ cols.length := by omega
    rw [h3] at HN
    clear h3 h2 h1
    go_enter Tryz.func61, Tryz.ntmps61
    go_wp2_with (go_at_call 84; refine (HN.out _).mono ?_; rintro e w1 ⟨rfl, rfl⟩)
    go_ret
    exact ⟨ret_int HR.out.symm, by exact eX⟩
  have HR := Hid.mk' (Rl.right_cols (r := (⟨oid, ver, nm, id, cols⟩ : Rl)) h1 h2 h3 (by simp only; omega) (by simp only; omega) (by simp only; omega))
  simp only at HR
  rw [h3] at HN
  have h4' : id ≤ 2 := by omega
  have h5' : 1 ≤ cols.length := by omega
  have h6' : cols.length ≤ 16 := by omega
  clear h3 h2 h1 h4 h5 h6
  go_enter Tryz.func61, Tryz.ntmps61
  go_wp2_with (go_at_call 84; refine (HN.out _).mono ?_; rintro e w1 ⟨rfl, rfl⟩)
  go_loopw [40] (fun i wr => ∃ k : Nat, k ≤ cols.length ∧ i = .int .i64 k ∧ Hid (∀ j, j < k → colAt cols j = 0) ∧ Hid (Ext (w.alloc (.cells #[.int .u32 oid, .int .u32 ver, .string nm, .int .u8 id, .slice a cols.length cap] 99)) wr)) (fun i _ => cols.length - (intOf i).toNat)
  case atStart => exact ⟨0, Nat.zero_le _, rfl, fun j h => by omega, Ext.refl _⟩
  case round =>
    obtain ⟨k, hk, rfl, hrel, hE⟩ := hrel
    have hBx := (Blk.new w #[.int .u32 oid, .int .u32 ver, .string nm, .int .u8 id, .slice a cols.length cap] 99).ext hE.out
    have g0 := hBx.cell
    have z0 := hBx.lt
    clear hBx
    by_cases hlt : k < cols.length
    · obtain ⟨b, o, rfl, hb, hx⟩ := HL.out.at_ (i := k) (by simpa using hlt)
      have hEw : Hid (Ext w wr) := Hid.mk' (((Ext.refl w).alloc _).trans hE.out)
      obtain ⟨f0, f1, f2⟩ := Col.at_ hlt hx hb hEw.out
      have hbw : b < wr.heap.size := Nat.lt_of_lt_of_le hb hEw.out.size
      have HF := Hid.mk' (fun W (h : Ext wr W) => column_any cols[k] (cols.take k) (some ⟨b, o, none⟩) k cap W (by rw [List.length_take]; omega) (by have := (HL.out.ext (hEw.out.trans h)).take (i := k) (by rw [List.length_map]; omega); rwa [← List.map_take] at this) (by rw [List.length_take]; omega) (HCS.out _ (List.getElem_mem hlt)))
      have hAt := colAt_lt hlt
      have q1 : (0 : Int) ≤ (k : Int) := by omega
      have q2 : (k : Int) ≤ (cap : Int) := by omega
      obtain ⟨E, hE0⟩ : ∃ E, E = colE cols[k] (cols.take k) := ⟨_, rfl⟩
      rw [← hE0] at HF hAt
      have HAt := Hid.mk' hAt
      clear hx hAt hE0
      by_cases h0 : E = 0
      · subst h0
        go_wp2
        go_region_held3 (fun w' => Ext (wr.alloc (.cells #[.string cols[k].nm, .int .u8 cols[k].ty, .bool cols[k].key] 115)) w' ∧ (∀ b o, b < (wr.alloc (.cells #[.string cols[k].nm, .int .u8 cols[k].ty, .bool cols[k].key] 115)).heap.size → w'.cell? ⟨b, o, none⟩ = (wr.alloc (.cells #[.string cols[k].nm, .int .u8 cols[k].ty, .bool cols[k].key] 115)).cell? ⟨b, o, none⟩) ∧ (∀ b o, b < (wr.alloc (.cells #[.string cols[k].nm, .int .u8 cols[k].ty, .bool cols[k].key] 115)).heap.size → w'.frozen? ⟨b, o, none⟩ = (wr.alloc (.cells #[.string cols[k].nm, .int .u8 cols[k].ty, .bool cols[k].key] 115)).frozen? ⟨b, o, none⟩)) ((exact held_of (by exact eX)))
          (first
            | (go_at_call 85; refine (HF.out _ (by exact eX)).mono ?_; rintro e w2 ⟨rfl, hb2⟩))
        go_wp2
        go_roundw
        case rel => exact ⟨k + 1, by omega, by go_num, fun j hj => by
          by_cases e : j = k
          · subst e; exact HAt.out
          · exact hrel.out j (by omega), Hid.mk' (hE.out.trans (by exact eX))⟩
        case measure => simp [intOf]; omega
      · have h0' : (E != 0) = true := by simpa using h0
        have HR2 := Hid.mk' (show (⟨oid, ver, nm, id, cols⟩ : Rl).right = E by rw [HR.out, firstE_at hrel.out hlt (by rw [HAt.out]; exact h0), HAt.out, if_pos h0])
        clear h0
        go_wp2
        go_region_held3 (fun w' => Ext (wr.alloc (.cells #[.string cols[k].nm, .int .u8 cols[k].ty, .bool cols[k].key] 115)) w' ∧ (∀ b o, b < (wr.alloc (.cells #[.string cols[k].nm, .int .u8 cols[k].ty, .bool cols[k].key] 115)).heap.size → w'.cell? ⟨b, o, none⟩ = (wr.alloc (.cells #[.string cols[k].nm, .int .u8 cols[k].ty, .bool cols[k].key] 115)).cell? ⟨b, o, none⟩) ∧ (∀ b o, b < (wr.alloc (.cells #[.string cols[k].nm, .int .u8 cols[k].ty, .bool cols[k].key] 115)).heap.size → w'.frozen? ⟨b, o, none⟩ = (wr.alloc (.cells #[.string cols[k].nm, .int .u8 cols[k].ty, .bool cols[k].key] 115)).frozen? ⟨b, o, none⟩)) ((exact held_of (by exact eX)))
          (first
            | (go_at_call 85; refine (HF.out _ (by exact eX)).mono ?_; rintro e w2 ⟨rfl, hb2⟩))
        go_wp2
        go_ret
        exact ⟨ret_int HR2.out.symm, hEw.out.trans (by exact eX)⟩
    · have hkk : k = cols.length := by omega
      have hEw : Hid (Ext w wr) := Hid.mk' (((Ext.refl w).alloc _).trans hE.out)
      have HR2 := Hid.mk' (show (⟨oid, ver, nm, id, cols⟩ : Rl).right = if id = 1 ∧ cols.any Col.key = false then 13 else 0 by rw [HR.out, firstE_zero (fun i hi => hrel.out i (by omega)), if_neg (by simp)])
      subst hkk
      clear hrel HR
      by_cases h7 : id = 1
      · subst h7
        cases h8 : cols.any Col.key with
        | false =>
          rw [h8] at HK HR2
          clear h8
          go_wp2_with (go_at_call 86; refine (HK.out _ hEw.out).mono ?_; rintro e w2 ⟨rfl, hb2⟩)
          go_ret
          exact ⟨ret_int (by rw [HR2.out]; simp), hEw.out.trans (by exact eX)⟩
        | true =>
          rw [h8] at HK HR2
          clear h8
          go_wp2_with (go_at_call 86; refine (HK.out _ hEw.out).mono ?_; rintro e w2 ⟨rfl, hb2⟩)
          go_ret
          exact ⟨ret_int (by rw [HR2.out]; simp), hEw.out.trans (by exact eX)⟩
      · have e7 : (id == 1) = false := by simpa using h7
        have HR3 := Hid.mk' (HR2.out.trans (if_neg (fun h => h7 h.1)))
        clear h7 HR2
        go_wp2
        go_ret
        exact ⟨ret_int HR3.out.symm, hEw.out⟩

end Go.Proofs.YtdgalkljngigeaaGreat

/-
The laws' Own of a relation of any number of columns; what is wrong with one of any number.
-/
namespace Go.Proofs.YtdgalkljngigeaaGreat
open Go.RowKit

theorem owns_base {w : World} {base base2 : Nat} {e : TypeId} {size n : Nat} {v : Value} {xs : List Value} (h : w.ownsRow base e size v n xs) (hb : base2 ≤ base) : w.ownsRow base2 e size v n xs := by
  obtain ⟨h1, h2⟩ := h
  refine ⟨h1, h2.imp id ?_⟩
  rintro ⟨g, cap, cur, hv, hg, hr⟩
  exact ⟨g, cap, cur, hv, by omega, hr⟩

set_option maxRecDepth 100000 in set_option maxHeartbeats 1600000 in
theorem own8_big (oid ver : Int) (nm : ByteArray) (id : Int) (cols : List Col) (a : Option Addr) (cap : Nat) (w : World) (hl : Sl w (.slice a cols.length cap) 3 (cols.map Col.cells)) (hlen : cols.length ≤ 5864062014634) :
    Calls Tryz.prog 58 #[.agg #[.int .u32 oid, .int .u32 ver, .string nm, .int .u8 id, .slice a cols.length cap]] w fun e w' => ∃ a' cap', e = .returned (.agg #[.int .u32 oid, .int .u32 ver, .string nm, .int .u8 id, .slice a' cols.length cap']) ∧ cols.length ≤ cap' ∧ w'.ownsRow w.heap.size 115 3 (.slice a' cols.length cap') cols.length (cols.map Col.cells).flatten ∧ Ext w w' := by
  have HL := Hid.mk' hl
  clear hl
  obtain ⟨i0, hi, hz0, hz1, hz2⟩ := info_parts Tryz.infoCol
  go_enter Tryz.func58, Tryz.ntmps58
  go_wp2
  go_loopw [4] (fun i wr => ∃ (k : Nat) (v : Value), k ≤ cols.length ∧ i = .int .i64 k ∧ Hid (wr.ownsRow (w.heap.size + 3) 115 3 v k ((cols.map Col.cells).take k).flatten) ∧ Blk wr w.heap.size #[.int .u32 oid, .int .u32 ver, .string nm, .int .u8 id, .slice a cols.length cap] 51 ∧ Blk wr (w.heap.size + 1) #[.int .u32 0, .int .u32 0, .string ⟨#[]⟩, .int .u8 0, .slice none 0 0] 99 ∧ Blk wr (w.heap.size + 1 + 1) #[.int .u32 oid, .int .u32 ver, .string nm, .int .u8 id, v] 99 ∧ Hid (Ext w wr)) (fun i _ => cols.length - (intOf i).toNat)
  case atStart => exact ⟨0, .slice none 0 0, Nat.zero_le _, rfl, World.ownsRow_nil _ _ _ _, ((Blk.new _ _ _).alloc _).alloc _, (Blk.new' _ _ (by simp)).alloc _, Blk.new' _ _ (by simp), Hid.mk' (by exact eX)⟩
  case round =>
    obtain ⟨k, v, hk, rfl, hown, hB0, hB1, hB2, hE⟩ := hrel
    by_cases hlt : k < cols.length
    · obtain ⟨b, o, rfl, hb, hc⟩ := HL.out.at_ (i := k) (by simpa using hlt)
      obtain ⟨f0, f1, f2⟩ := Col.at_ hlt hc hb hE.out
      have hT := Hid.mk' (flat_snoc (f := Col.cells) hlt)
      obtain ⟨c, hcc⟩ : ∃ c, c = cols[k] := ⟨_, rfl⟩
      rw [← hcc] at f0 f1 f2 hT
      have hbw : b < wr.heap.size := Nat.lt_of_lt_of_le hb hE.out.size
      have HC := Hid.mk' hcc
      clear hcc hc
      have g0 := hB0.cell
      have g2 := hB2.cell
      have z0 := hB0.lt
      have z1 := hB1.lt
      have z2 := hB2.lt
      have HB0 := Hid.mk' hB0
      have HB1 := Hid.mk' hB1
      have HB2 := Hid.mk' hB2
      clear hB0 hB1 hB2
      go_wp2
      refine wp_region_head 22 (fun w' => Ext (wr) w' ∧ (∀ b o, b < (wr).heap.size → w'.cell? ⟨b, o, none⟩ = (wr).cell? ⟨b, o, none⟩) ∧ (∀ b o, b < (wr).heap.size → w'.frozen? ⟨b, o, none⟩ = (wr).frozen? ⟨b, o, none⟩)) (by kernel_rfl) (by decide) ?_
      have hA0 : Hid ((fun w' => Ext (wr) w' ∧ (∀ b o, b < (wr).heap.size → w'.cell? ⟨b, o, none⟩ = (wr).cell? ⟨b, o, none⟩) ∧ (∀ b o, b < (wr).heap.size → w'.frozen? ⟨b, o, none⟩ = (wr).frozen? ⟨b, o, none⟩)) wr.drew) := held_of (by exact eX)
      (refine wpHd_take (i := 0) (v := ?_) rfl (by kernel_rfl) (by kernel_rfl) (by kernel_rfl) (fun _ _ _ h => h) (Or.inl ⟨by rfl, ?_⟩) hA0.out ?_; rotate_left 1; · (intro w' hS'; (obtain ⟨hEs', hcs', hfs'⟩ := hS'); go_simp; try with_reducible rfl))
      (refine wpHd_take (i := 1) (v := ?_) rfl (by kernel_rfl) (by kernel_rfl) (by kernel_rfl) (fun _ _ _ h => h) (Or.inl ⟨by rfl, ?_⟩) hA0.out ?_; rotate_left 1; · (intro w' hS'; (obtain ⟨hEs', hcs', hfs'⟩ := hS'); go_simp; try with_reducible rfl))
      (refine wpHd_take (i := 2) (v := ?_) rfl (by kernel_rfl) (by kernel_rfl) (by kernel_rfl) (fun _ _ _ h => h) (Or.inl ⟨by rfl, ?_⟩) hA0.out ?_; rotate_left 1; · (intro w' hS'; (obtain ⟨hEs', hcs', hfs'⟩ := hS'); go_simp; try with_reducible rfl))
      (refine wpHd_take (i := 3) (v := ?_) rfl (by kernel_rfl) (by kernel_rfl) (by kernel_rfl) (fun _ _ _ h => h) (Or.inl ⟨by rfl, ?_⟩) hA0.out ?_; rotate_left 1; · (intro w' hS'; (obtain ⟨hEs', hcs', hfs'⟩ := hS'); go_simp; try with_reducible rfl))
      (refine wpHd_take (i := 4) (v := ?_) rfl (by kernel_rfl) (by kernel_rfl) (by kernel_rfl) (fun _ _ _ h => h) (Or.inl ⟨by rfl, ?_⟩) hA0.out ?_; rotate_left 1; · (intro w' hS'; (obtain ⟨hEs', hcs', hfs'⟩ := hS'); go_simp; try with_reducible rfl))
      (refine wpHd_take (i := 5) (v := ?_) rfl (by kernel_rfl) (by kernel_rfl) (by kernel_rfl) (fun _ _ _ h => h) (Or.inl ⟨by rfl, ?_⟩) hA0.out ?_; rotate_left 1; · (intro w' hS'; (obtain ⟨hEs', hcs', hfs'⟩ := hS'); go_simp; try with_reducible rfl))
      (refine wpHd_take (i := 6) (v := ?_) rfl (by kernel_rfl) (by kernel_rfl) (by kernel_rfl) (fun _ _ _ h => h) (Or.inl ⟨by rfl, ?_⟩) hA0.out ?_; rotate_left 1; · (intro w' hS'; (obtain ⟨hEs', hcs', hfs'⟩ := hS'); go_simp; try with_reducible rfl))
      (refine wpHd_take (i := 7) (v := ?_) rfl (by kernel_rfl) (by kernel_rfl) (by kernel_rfl) (fun _ _ _ h => h) (Or.inl ⟨by rfl, ?_⟩) hA0.out ?_; rotate_left 1; · (intro w' hS'; (obtain ⟨hEs', hcs', hfs'⟩ := hS'); go_simp; try with_reducible rfl))
      (refine wpHd_take (i := 8) (v := ?_) rfl (by kernel_rfl) (by kernel_rfl) (by kernel_rfl) (fun _ _ _ h => h) (Or.inl ⟨by rfl, ?_⟩) hA0.out ?_; rotate_left 1; · (intro w' hS'; (obtain ⟨hEs', hcs', hfs'⟩ := hS'); go_simp; try with_reducible rfl))
      (refine wpHd_take (i := 9) (v := ?_) rfl (by kernel_rfl) (by kernel_rfl) (by kernel_rfl) (fun _ _ _ h => h) (Or.inl ⟨by rfl, ?_⟩) hA0.out ?_; rotate_left 1; · (intro w' hS'; (obtain ⟨hEs', hcs', hfs'⟩ := hS'); go_simp; try with_reducible rfl))
      (refine wpHd_take (i := 10) (v := ?_) rfl (by kernel_rfl) (by kernel_rfl) (by kernel_rfl) (fun _ _ _ h => h) (Or.inl ⟨by rfl, ?_⟩) hA0.out ?_; rotate_left 1; · (intro w' hS'; (obtain ⟨hEs', hcs', hfs'⟩ := hS'); go_simp; try with_reducible rfl))
      (refine wpHd_take (i := 11) (v := ?_) rfl (by kernel_rfl) (by kernel_rfl) (by kernel_rfl) (fun _ _ _ h => h) (Or.inl ⟨by rfl, ?_⟩) hA0.out ?_; rotate_left 1; · (intro w' hS'; (obtain ⟨hEs', hcs', hfs'⟩ := hS'); go_simp; try with_reducible rfl))
      (refine wpHd_take (i := 12) (v := ?_) rfl (by kernel_rfl) (by kernel_rfl) (by kernel_rfl) (fun _ _ _ h => h) (Or.inl ⟨by rfl, ?_⟩) hA0.out ?_; rotate_left 1; · (intro w' hS'; (obtain ⟨hEs', hcs', hfs'⟩ := hS'); go_simp; try with_reducible rfl))
      (refine wpHd_take (i := 13) (v := ?_) rfl (by kernel_rfl) (by kernel_rfl) (by kernel_rfl) (fun _ _ _ h => h) (Or.inl ⟨by rfl, ?_⟩) hA0.out ?_; rotate_left 1; · (intro w' hS'; (obtain ⟨hEs', hcs', hfs'⟩ := hS'); go_simp; try with_reducible rfl))
      (refine wpHd_take (i := 14) (v := ?_) rfl (by kernel_rfl) (by kernel_rfl) (by kernel_rfl) (fun _ _ _ h => h) (Or.inl ⟨by rfl, ?_⟩) hA0.out ?_; rotate_left 1; · (intro w' hS'; (obtain ⟨hEs', hcs', hfs'⟩ := hS'); go_simp; try with_reducible rfl))
      (refine wpHd_take (i := 15) (v := ?_) rfl (by kernel_rfl) (by kernel_rfl) (by kernel_rfl) (fun _ _ _ h => h) (Or.inl ⟨by rfl, ?_⟩) hA0.out ?_; rotate_left 1; · (intro w' hS'; (obtain ⟨hEs', hcs', hfs'⟩ := hS'); go_simp; try with_reducible rfl))
      (refine wpHd_take (i := 16) (v := ?_) rfl (by kernel_rfl) (by kernel_rfl) (by kernel_rfl) (fun _ _ _ h => h) (Or.inl ⟨by rfl, ?_⟩) hA0.out ?_; rotate_left 1; · (intro w' hS'; (obtain ⟨hEs', hcs', hfs'⟩ := hS'); go_simp; try with_reducible rfl))
      (refine wpHd_take (i := 17) (v := ?_) rfl (by kernel_rfl) (by kernel_rfl) (by kernel_rfl) (fun _ _ _ h => h) (Or.inl ⟨by rfl, ?_⟩) hA0.out ?_; rotate_left 1; · (intro w' hS'; (obtain ⟨hEs', hcs', hfs'⟩ := hS'); go_simp; try with_reducible rfl))
      (refine wpHd_take (i := 18) (v := ?_) rfl (by kernel_rfl) (by kernel_rfl) (by kernel_rfl) (fun _ _ _ h => h) (Or.inl ⟨by rfl, ?_⟩) hA0.out ?_; rotate_left 1; · (intro w' hS'; (obtain ⟨hEs', hcs', hfs'⟩ := hS'); go_simp; try with_reducible rfl))
      (refine wpHd_take (i := 19) (v := ?_) rfl (by kernel_rfl) (by kernel_rfl) (by kernel_rfl) (fun _ _ _ h => h) (Or.inl ⟨by rfl, ?_⟩) hA0.out ?_; rotate_left 1; · (intro w' hS'; (obtain ⟨hEs', hcs', hfs'⟩ := hS'); go_simp; try with_reducible rfl))
      (refine wpHd_take (i := 20) (v := ?_) rfl (by kernel_rfl) (by kernel_rfl) (by kernel_rfl) (fun _ _ _ h => h) (Or.inl ⟨by rfl, ?_⟩) hA0.out ?_; rotate_left 1; · (intro w' hS'; (obtain ⟨hEs', hcs', hfs'⟩ := hS'); go_simp; try with_reducible rfl))
      refine wpHd_one (i := 21) rfl rfl (by kernel_rfl) (fun K hK => ?_)
      go_simp
      refine hK.out _ _ (held_of (by exact eX)) (fun hA => ?_)
      clear hK K hA hA0
      refine wpHd_tail (by kernel_rfl) ?_
      simp only [List.drop_succ_cons, List.drop_zero]
      have hob := owns_ne hown.out (show w.heap.size + 1 + 1 < w.heap.size + 3 by omega)
      go_wp2_with (at_builtin; refine wpList_append_lies _ rfl _ _ 97 rfl (w.heap.size + 3) 115 i0 _ 3 24 Tryz.underlying97 hi hz0 hz1 hz2 rfl (by decide) _ _ _ rfl (owns_ext hown.out (by exact eX)) ⟨_, 0, none⟩ 1 1 c.cells rfl rfl ?c1 ?c2 (by decide) ?c3 ?c4 ?c5 _ rfl ?_)
      case c1 => exact cells_new _ #[.string c.nm, .int .u8 c.ty, .bool c.key] _
      case c2 => intro u hu; simp [Col.cells] at hu; rcases hu with rfl | rfl | rfl <;> rfl
      case c3 => unfold maxLen; omega
      case c4 => omega
      case c5 => simp; omega
      intro g' cap' w2 hown' hgrow _ _
      have hE1 : Ext wr (wr.drew.alloc (.cells #[.string c.nm, .int .u8 c.ty, .bool c.key] 115)) := by exact eX
      have HE2 : Hid (Ext w w2) := Hid.mk' (Below.grown (hE.out.trans hE1) hgrow (hE.out.trans hE1).size (fun g hg => by have := (hown.out.lt g hg).1; omega))
      have hsz2 := hgrow.size
      have HB0' := Hid.mk' ((HB0.out.ext hE1).grown hgrow (owns_ne hown.out (by omega)))
      have HB1' := Hid.mk' ((HB1.out.ext hE1).grown hgrow (owns_ne hown.out (by omega)))
      have hB2' := (HB2.out.ext hE1).grown hgrow hob
      have g2' := hB2'.cell
      have g2f := hB2'.frozen
      have z2' := hB2'.lt
      have HB2' := Hid.mk' hB2'
      have HO := Hid.mk' hown'
      clear hB2' hown' hgrow hE1 hob
      go_wp2
      go_roundw
      case rel => exact ⟨k + 1, _, by omega, by go_num, Hid.mk' (by rw [hT.out]; exact owns_set (p := ⟨w.heap.size + 1 + 1, 4, none⟩) HO.out (by show w.heap.size + 1 + 1 < _; omega) _), HB0'.out.other _ _ (by show w.heap.size ≠ w.heap.size + 1 + 1; omega), HB1'.out.other _ _ (by show w.heap.size + 1 ≠ w.heap.size + 1 + 1; omega), HB2'.out.set 4 _, Hid.mk' (HE2.out.setCell (by simp; omega) _)⟩
      case measure => simp [intOf]; omega
    · have hkk : k = cols.length := by omega
      subst hkk
      rw [show cols.length = (cols.map Col.cells).length by simp, List.take_length] at hown
      rw [List.length_map] at hown
      obtain ⟨a', c', rfl⟩ := owns_shape hown.out
      have g0 := hB0.cell
      have z0 := hB0.lt
      have g1 := hB1.cell
      have g1f := hB1.frozen
      have g2 := hB2.cell
      have z1 := hB1.lt
      have z2 := hB2.lt
      clear hB0 hB1 hB2
      go_wp2
      simp [bodyPost, results, Tryz.results58, go_sem, *]
      refine ⟨_, _, ⟨rfl, rfl⟩, owns_cap hown.out, owns_base (base := w.heap.size + 3) ?_ (by omega), ?_⟩
      · have hown := hown.out
        repeat (with_reducible (first | exact hown | refine owns_set ?_ (by show w.heap.size + 1 < _; omega) _))
      · have hE := hE.out
        exact eX

set_option maxRecDepth 100000 in set_option maxHeartbeats 4000000 in
theorem right8_big (oid ver : Int) (nm : ByteArray) (id : Int) (cols : List Col) (a : Option Addr) (cap : Nat) (w : World) (hl : Sl w (.slice a cols.length cap) 3 (cols.map Col.cells)) (hcap : cols.length ≤ cap) (hlen : cols.length ≤ 9223372036854775807)
    (hnm : nm.size ≤ 9223372036854775807) (hcs : ∀ c ∈ cols, c.nm.size ≤ 9223372036854775807) :
    Calls Tryz.prog 61 #[.agg #[.int .u32 oid, .int .u32 ver, .string nm, .int .u8 id, .slice a cols.length cap]] w fun e w' => e = .returned (.int .i64 (⟨oid, ver, nm, id, cols⟩ : Rl).right) ∧ Ext w w' := by
  have HN := Hid.mk' (fun w => named_any nm w hnm)
  have HK0 := Hid.mk' (fun (hn : cols.length ≤ 1000) W (h : Ext w W) => keyed_any oid ver nm id cols a cap W (hl.ext h) hn)
  have HL := Hid.mk' hl
  have HCS := Hid.mk' hcs
  clear hl hcs
  by_cases h1 : oid = 0
  · have HR := Hid.mk' (show (⟨oid, ver, nm, id, cols⟩ : Rl).right = 4 by unfold Rl.right; rw [if_pos (.inl h1)])
    have e1 : (oid == 0) = true := by simpa using h1
    clear h1
    go_enter Tryz.func61, Tryz.ntmps61
    go_wp2
    go_ret
    exact ⟨ret_int HR.out.symm, by exact eX⟩
  have e1 : (oid == 0) = false := by simpa using h1
  by_cases h2 : ver = 0
  · have HR := Hid.mk' (show (⟨oid, ver, nm, id, cols⟩ : Rl).right = 4 by unfold Rl.right; rw [if_pos (.inr h2)])
    have e2 : (ver == 0) = true := by simpa using h2
    clear h2 h1
    go_enter Tryz.func61, Tryz.ntmps61
    go_wp2
    go_ret
    exact ⟨ret_int HR.out.symm, by exact eX⟩
  have e2 : (ver == 0) = false := by simpa using h2
  cases h3 : namedB nm with
  | false =>
    have HR := Hid.mk' (show (⟨oid, ver, nm, id, cols⟩ : Rl).right = 3 by unfold Rl.right; rw [if_neg (by simp only; omega), if_pos h3])
    rw [h3] at HN
    clear h3 h2 h1
    go_enter Tryz.func61, Tryz.ntmps61
    go_wp2_with (go_at_call 84; refine (HN.out _).mono ?_; rintro e w1 ⟨rfl, rfl⟩)
    go_ret
    exact ⟨ret_int HR.out.symm, by exact eX⟩
  | true =>
  by_cases h4 : 2 < id
  · have HR := Hid.mk' (show (⟨oid, ver, nm, id, cols⟩ : Rl).right = 7 by unfold Rl.right; rw [if_neg (by simp only; omega), if_neg (by simp only [h3]; simp), if_pos h4])
    rw [h3] at HN
    clear h3 h2 h1
    go_enter Tryz.func61, Tryz.ntmps61
    go_wp2_with (go_at_call 84; refine (HN.out _).mono ?_; rintro e w1 ⟨rfl, rfl⟩)
    go_ret
    exact ⟨ret_int HR.out.symm, by exact eX⟩
  by_cases h5 : cols.length < 1
  · have HR := Hid.mk' (show (⟨oid, ver, nm, id, cols⟩ : Rl).right = 17 by unfold Rl.right; rw [if_neg (by simp only; omega), if_neg (by simp only [h3]; simp), if_neg (by simp only; omega), if_pos (.inl h5)])
    have h4' : id ≤ 2 := by omega
    rw [h3] at HN
    clear h3 h2 h1
    go_enter Tryz.func61, Tryz.ntmps61
    go_wp2_with (go_at_call 84; refine (HN.out _).mono ?_; rintro e w1 ⟨rfl, rfl⟩)
    go_ret
    exact ⟨ret_int HR.out.symm, by exact eX⟩
  by_cases h6 : 16 < cols.length
  · have HR := Hid.mk' (show (⟨oid, ver, nm, id, cols⟩ : Rl).right = 17 by unfold Rl.right; rw [if_neg (by simp only; omega), if_neg (by simp only [h3]; simp), if_neg (by simp only; omega), if_pos (.inr h6)])
    have h4' : id ≤ 2 := by omega
    have h5' : 1 ≤ cols.length := by omega
    rw [h3] at HN
    clear h3 h2 h1
    go_enter Tryz.func61, Tryz.ntmps61
    go_wp2_with (go_at_call 84; refine (HN.out _).mono ?_; rintro e w1 ⟨rfl, rfl⟩)
    go_ret
    exact ⟨ret_int HR.out.symm, by exact eX⟩
  have hlen : cols.length ≤ 1000 := by omega
  have HK := Hid.mk' (HK0.out hlen)
  clear HK0
  have HR := Hid.mk' (Rl.right_cols (r := (⟨oid, ver, nm, id, cols⟩ : Rl)) h1 h2 h3 (by simp only; omega) (by simp only; omega) (by simp only; omega))
  simp only at HR
  rw [h3] at HN
  have h4' : id ≤ 2 := by omega
  have h5' : 1 ≤ cols.length := by omega
  have h6' : cols.length ≤ 16 := by omega
  clear h3 h2 h1 h4 h5 h6
  go_enter Tryz.func61, Tryz.ntmps61
  go_wp2_with (go_at_call 84; refine (HN.out _).mono ?_; rintro e w1 ⟨rfl, rfl⟩)
  go_loopw [40] (fun i wr => ∃ k : Nat, k ≤ cols.length ∧ i = .int .i64 k ∧ Hid (∀ j, j < k → colAt cols j = 0) ∧ Hid (Ext (w.alloc (.cells #[.int .u32 oid, .int .u32 ver, .string nm, .int .u8 id, .slice a cols.length cap] 99)) wr)) (fun i _ => cols.length - (intOf i).toNat)
  case atStart => exact ⟨0, Nat.zero_le _, rfl, fun j h => by omega, Ext.refl _⟩
  case round =>
    obtain ⟨k, hk, rfl, hrel, hE⟩ := hrel
    have hBx := (Blk.new w #[.int .u32 oid, .int .u32 ver, .string nm, .int .u8 id, .slice a cols.length cap] 99).ext hE.out
    have g0 := hBx.cell
    have z0 := hBx.lt
    clear hBx
    by_cases hlt : k < cols.length
    · obtain ⟨b, o, rfl, hb, hx⟩ := HL.out.at_ (i := k) (by simpa using hlt)
      have hEw : Hid (Ext w wr) := Hid.mk' (((Ext.refl w).alloc _).trans hE.out)
      obtain ⟨f0, f1, f2⟩ := Col.at_ hlt hx hb hEw.out
      have hbw : b < wr.heap.size := Nat.lt_of_lt_of_le hb hEw.out.size
      have HF := Hid.mk' (fun W (h : Ext wr W) => column_any cols[k] (cols.take k) (some ⟨b, o, none⟩) k cap W (by rw [List.length_take]; omega) (by have := (HL.out.ext (hEw.out.trans h)).take (i := k) (by rw [List.length_map]; omega); rwa [← List.map_take] at this) (by rw [List.length_take]; omega) (HCS.out _ (List.getElem_mem hlt)))
      have hAt := colAt_lt hlt
      have q1 : (0 : Int) ≤ (k : Int) := by omega
      have q2 : (k : Int) ≤ (cap : Int) := by omega
      obtain ⟨E, hE0⟩ : ∃ E, E = colE cols[k] (cols.take k) := ⟨_, rfl⟩
      rw [← hE0] at HF hAt
      have HAt := Hid.mk' hAt
      clear hx hAt hE0
      by_cases h0 : E = 0
      · subst h0
        go_wp2
        go_region_held3 (fun w' => Ext (wr.alloc (.cells #[.string cols[k].nm, .int .u8 cols[k].ty, .bool cols[k].key] 115)) w' ∧ (∀ b o, b < (wr.alloc (.cells #[.string cols[k].nm, .int .u8 cols[k].ty, .bool cols[k].key] 115)).heap.size → w'.cell? ⟨b, o, none⟩ = (wr.alloc (.cells #[.string cols[k].nm, .int .u8 cols[k].ty, .bool cols[k].key] 115)).cell? ⟨b, o, none⟩) ∧ (∀ b o, b < (wr.alloc (.cells #[.string cols[k].nm, .int .u8 cols[k].ty, .bool cols[k].key] 115)).heap.size → w'.frozen? ⟨b, o, none⟩ = (wr.alloc (.cells #[.string cols[k].nm, .int .u8 cols[k].ty, .bool cols[k].key] 115)).frozen? ⟨b, o, none⟩)) ((exact held_of (by exact eX)))
          (first
            | (go_at_call 85; refine (HF.out _ (by exact eX)).mono ?_; rintro e w2 ⟨rfl, hb2⟩))
        go_wp2
        go_roundw
        case rel => exact ⟨k + 1, by omega, by go_num, fun j hj => by
          by_cases e : j = k
          · subst e; exact HAt.out
          · exact hrel.out j (by omega), Hid.mk' (hE.out.trans (by exact eX))⟩
        case measure => simp [intOf]; omega
      · have h0' : (E != 0) = true := by simpa using h0
        have HR2 := Hid.mk' (show (⟨oid, ver, nm, id, cols⟩ : Rl).right = E by rw [HR.out, firstE_at hrel.out hlt (by rw [HAt.out]; exact h0), HAt.out, if_pos h0])
        clear h0
        go_wp2
        go_region_held3 (fun w' => Ext (wr.alloc (.cells #[.string cols[k].nm, .int .u8 cols[k].ty, .bool cols[k].key] 115)) w' ∧ (∀ b o, b < (wr.alloc (.cells #[.string cols[k].nm, .int .u8 cols[k].ty, .bool cols[k].key] 115)).heap.size → w'.cell? ⟨b, o, none⟩ = (wr.alloc (.cells #[.string cols[k].nm, .int .u8 cols[k].ty, .bool cols[k].key] 115)).cell? ⟨b, o, none⟩) ∧ (∀ b o, b < (wr.alloc (.cells #[.string cols[k].nm, .int .u8 cols[k].ty, .bool cols[k].key] 115)).heap.size → w'.frozen? ⟨b, o, none⟩ = (wr.alloc (.cells #[.string cols[k].nm, .int .u8 cols[k].ty, .bool cols[k].key] 115)).frozen? ⟨b, o, none⟩)) ((exact held_of (by exact eX)))
          (first
            | (go_at_call 85; refine (HF.out _ (by exact eX)).mono ?_; rintro e w2 ⟨rfl, hb2⟩))
        go_wp2
        go_ret
        exact ⟨ret_int HR2.out.symm, hEw.out.trans (by exact eX)⟩
    · have hkk : k = cols.length := by omega
      have hEw : Hid (Ext w wr) := Hid.mk' (((Ext.refl w).alloc _).trans hE.out)
      have HR2 := Hid.mk' (show (⟨oid, ver, nm, id, cols⟩ : Rl).right = if id = 1 ∧ cols.any Col.key = false then 13 else 0 by rw [HR.out, firstE_zero (fun i hi => hrel.out i (by omega)), if_neg (by simp)])
      subst hkk
      clear hrel HR
      by_cases h7 : id = 1
      · subst h7
        cases h8 : cols.any Col.key with
        | false =>
          rw [h8] at HK HR2
          clear h8
          go_wp2_with (go_at_call 86; refine (HK.out _ hEw.out).mono ?_; rintro e w2 ⟨rfl, hb2⟩)
          go_ret
          exact ⟨ret_int (by rw [HR2.out]; simp), hEw.out.trans (by exact eX)⟩
        | true =>
          rw [h8] at HK HR2
          clear h8
          go_wp2_with (go_at_call 86; refine (HK.out _ hEw.out).mono ?_; rintro e w2 ⟨rfl, hb2⟩)
          go_ret
          exact ⟨ret_int (by rw [HR2.out]; simp), hEw.out.trans (by exact eX)⟩
      · have e7 : (id == 1) = false := by simpa using h7
        have HR3 := Hid.mk' (HR2.out.trans (if_neg (fun h => h7 h.1)))
        clear h7 HR2
        go_wp2
        go_ret
        exact ⟨ret_int HR3.out.symm, hEw.out⟩

end Go.Proofs.YtdgalkljngigeaaGreat

/-
Events that lie somewhere, in rows; transactions.
-/
namespace Go.Proofs.YtdgalkljngigeaaGreat
open Go.RowKit

/-- An event that lies somewhere: its rows and its refs. -/
structure EL where
  e : Ev
  ba : Option Addr
  bc : Nat
  aa : Option Addr
  ac : Nat
  ra : Option Addr
  rc : Nat
def EL.vals (x : EL) : List Value := [.int .u8 x.e.kind, .int .u32 x.e.ao, .int .u32 x.e.av, .int .u8 x.e.old, .slice x.ba x.e.b.length x.bc, .slice x.aa x.e.a.length x.ac, .slice x.ra x.e.rs.length x.rc, .int .u8 x.e.fl]
def EL.agg (x : EL) : Value := .agg #[.int .u8 x.e.kind, .int .u32 x.e.ao, .int .u32 x.e.av, .int .u8 x.e.old, .slice x.ba x.e.b.length x.bc, .slice x.aa x.e.a.length x.ac, .slice x.ra x.e.rs.length x.rc, .int .u8 x.e.fl]
/-- A row of cells, n values each, f of each. -/
abbrev Kr (n : Nat) (f : K → List Value) (W : World) (a : Option Addr) (c : Nat) (l : List K) : Prop := Sl W (.slice a l.length c) n (l.map f)
/-- All that it has lies there. -/
structure EL.at (n : Nat) (f : K → List Value) (W : World) (x : EL) : Prop where
  b : Kr n f W x.ba x.bc x.e.b
  a : Kr n f W x.aa x.ac x.e.a
  r : Sl W (.slice x.ra x.e.rs.length x.rc) 2 (x.e.rs.map Rf.cells)
/-- Whatever it has lies in blocks of S. -/
structure EL.on (S : Nat → Prop) (x : EL) : Prop where
  b : x.e.b ≠ [] → ∀ b o, x.ba = some ⟨b, o, none⟩ → S b
  a : x.e.a ≠ [] → ∀ b o, x.aa = some ⟨b, o, none⟩ → S b
  r : x.e.rs ≠ [] → ∀ b o, x.ra = some ⟨b, o, none⟩ → S b
theorem map_ne {α β : Type} {f : α → β} {l : List α} (h : l.map f ≠ []) : l ≠ [] := fun e => h (by rw [e]; rfl)
theorem Sl.lt {W : World} {b n c k : Nat} {xss : List (List Value)} {o' : Nat} (h : Sl W (.slice (some ⟨b, o', none⟩) n c) k xss) (h0 : xss ≠ []) : b < W.heap.size := by
  obtain ⟨b2, o2, e, hb, -⟩ := h.at_ (i := 0) (List.length_pos_iff.2 h0)
  simp only [Option.some.injEq, Addr.mk.injEq] at e
  rw [e.1]; exact hb
section
variable {S T : Nat → Prop} {n : Nat} {f : K → List Value} {W W' : World} {x : EL}
theorem EL.on.mono (h : x.on S) (hs : ∀ b, S b → T b) : x.on T := ⟨fun h0 b o e => hs b (h.b h0 b o e), fun h0 b o e => hs b (h.a h0 b o e), fun h0 b o e => hs b (h.r h0 b o e)⟩
theorem EL.on.and (h : x.on S) (k : x.on T) : x.on (fun b => S b ∧ T b) := ⟨fun h0 b o e => ⟨h.b h0 b o e, k.b h0 b o e⟩, fun h0 b o e => ⟨h.a h0 b o e, k.a h0 b o e⟩, fun h0 b o e => ⟨h.r h0 b o e, k.r h0 b o e⟩⟩
theorem EL.at.ext (h : x.at n f W) (he : Ext W W') : x.at n f W' := ⟨h.b.ext he, h.a.ext he, h.r.ext he⟩
theorem EL.at.kp (h : x.at n f W) (hk : Kp S W W') (hs : x.on (fun b => ¬ S b)) : x.at n f W' := ⟨h.b.kp hk (fun h0 => hs.b (map_ne h0)), h.a.kp hk (fun h0 => hs.a (map_ne h0)), h.r.kp hk (fun h0 => hs.r (map_ne h0))⟩
theorem EL.at.lt (h : x.at n f W) : x.on (fun b => b < W.heap.size) :=
  ⟨fun h0 b o e => Sl.lt (by have := h.b; unfold Kr at this; rw [e] at this; exact this) (fun q => h0 (by simpa using q)), fun h0 b o e => Sl.lt (by have := h.a; unfold Kr at this; rw [e] at this; exact this) (fun q => h0 (by simpa using q)), fun h0 b o e => Sl.lt (by have := h.r; rw [e] at this; exact this) (fun q => h0 (by simpa using q))⟩
end

theorem EL.at_ {w wr : World} {b o : Nat} {l : List EL} {k : Nat} (hk : k < l.length) (hc : ∀ j, j < 8 → w.cell? ⟨b, o + k * 8 + j, none⟩ = ((l.map EL.vals).getD k [])[j]?) (hb : b < w.heap.size) (hE : Ext w wr) :
    wr.cell? ⟨b, o + k * 8, none⟩ = some (.int .u8 l[k].e.kind) ∧ wr.cell? ⟨b, o + k * 8 + 1, none⟩ = some (.int .u32 l[k].e.ao) ∧ wr.cell? ⟨b, o + k * 8 + 2, none⟩ = some (.int .u32 l[k].e.av) ∧ wr.cell? ⟨b, o + k * 8 + 3, none⟩ = some (.int .u8 l[k].e.old) ∧
      wr.cell? ⟨b, o + k * 8 + 4, none⟩ = some (.slice l[k].ba l[k].e.b.length l[k].bc) ∧ wr.cell? ⟨b, o + k * 8 + 5, none⟩ = some (.slice l[k].aa l[k].e.a.length l[k].ac) ∧ wr.cell? ⟨b, o + k * 8 + 6, none⟩ = some (.slice l[k].ra l[k].e.rs.length l[k].rc) ∧ wr.cell? ⟨b, o + k * 8 + 7, none⟩ = some (.int .u8 l[k].e.fl) := by
  rw [getD_map EL.vals l hk] at hc
  have c := hE.cells.1 b
  exact ⟨(c _ hb).trans (hc 0 (by omega)), (c _ hb).trans (hc 1 (by omega)), (c _ hb).trans (hc 2 (by omega)), (c _ hb).trans (hc 3 (by omega)), (c _ hb).trans (hc 4 (by omega)), (c _ hb).trans (hc 5 (by omega)), (c _ hb).trans (hc 6 (by omega)), (c _ hb).trans (hc 7 (by omega))⟩
theorem EL.len (l : List EL) : ∀ xs ∈ l.map EL.vals, xs.length = 8 := by
  intro xs hxs
  rw [List.mem_map] at hxs
  obtain ⟨p, _, rfl⟩ := hxs
  rfl
theorem EL.one (x : EL) : ∀ u ∈ x.vals, u.oneCell' = true := by
  intro u hu
  simp [EL.vals] at hu
  rcases hu with rfl | rfl | rfl | rfl | rfl | rfl | rfl | rfl <;> rfl

/-- Events in a row, all that they have lies there. -/
structure ES (n : Nat) (f : K → List Value) (W : World) (v : Value) (xs : List EL) : Prop where
  row : Sl W v 8 (xs.map EL.vals)
  sl : ∀ x ∈ xs, x.at n f W
section
variable {S T : Nat → Prop} {n : Nat} {f : K → List Value} {W W' : World} {xs : List EL} {v : Value}
theorem ES.ext (h : ES n f W v xs) (he : Ext W W') : ES n f W' v xs := ⟨h.row.ext he, fun x hx => (h.sl x hx).ext he⟩
theorem ES.kp {a : Option Addr} {m c : Nat} (h : ES n f W (.slice a m c) xs) (hk : Kp S W W') (hs : xs ≠ [] → ∀ b o, a = some ⟨b, o, none⟩ → ¬ S b) (hx : ∀ x ∈ xs, x.on (fun b => ¬ S b)) : ES n f W' (.slice a m c) xs :=
  ⟨h.row.kp hk (fun h0 => hs (map_ne h0)), fun x hm => (h.sl x hm).kp hk (hx x hm)⟩
end

/-- Events of the call's own, in a row of its own, all from N on. -/
structure OwnE (n : Nat) (f : K → List Value) (T : TypeId) (W : World) (N : Nat) (es : List Ev) (v : Value) (qs : List EL) : Prop where
  own : W.ownsRow N T 8 v qs.length (qs.map EL.vals).flatten
  e : qs.map EL.e = es
  sl : ∀ q ∈ qs, q.at n f W
  ne : ∀ q ∈ qs, q.on (fun b => N ≤ b ∧ v.ownBlock ≠ some b)
section
variable {S : Nat → Prop} {n : Nat} {f : K → List Value} {T : TypeId} {W W' : World} {N : Nat} {es : List Ev} {v v' : Value} {qs : List EL} {q : EL}
theorem OwnE.nil (W : World) (N : Nat) : OwnE n f T W N [] (.slice none 0 0) [] := ⟨World.ownsRow_nil _ _ _ _, rfl, (fun q h => by cases h), (fun q h => by cases h)⟩
theorem OwnE.len (h : OwnE n f T W N es v qs) : qs.length = es.length := by rw [← h.e, List.length_map]
theorem OwnE.kp (h : OwnE n f T W N es v qs) (hk : Kp S W W') (h1 : ∀ b, v.ownBlock = some b → ¬ S b) (h2 : ∀ q ∈ qs, q.on (fun b => ¬ S b)) : OwnE n f T W' N es v qs :=
  ⟨owns_kp h.own hk h1, h.e, fun q hq => (h.sl q hq).kp hk (h2 q hq), h.ne⟩
theorem OwnE.ext (h : OwnE n f T W N es v qs) (he : Ext W W') : OwnE n f T W' N es v qs :=
  ⟨owns_ext h.own he, h.e, fun q hq => (h.sl q hq).ext he, h.ne⟩
/-- Where only what is not of its own was written. -/
theorem OwnE.low (h : OwnE n f T W N es v qs) (hk : Kp S W W') (h1 : ∀ b, S b → b < N ∨ W.heap.size ≤ b) : OwnE n f T W' N es v qs :=
  h.kp hk (fun b hb hs => by have := owns_lt3 h.own hb; have := h1 b hs; omega) (fun q hq => ((h.ne q hq).and (h.sl q hq).lt).mono (fun b hb hs => by have := h1 b hs; omega))
theorem OwnE.base (h : OwnE n f T W N es v qs) {M : Nat} (hm : M ≤ N) : OwnE n f T W M es v qs := ⟨owns_base h.own hm, h.e, h.sl, fun q hq => (h.ne q hq).mono (fun b hb => ⟨by omega, hb.2⟩)⟩
theorem OwnE.push (h : OwnE n f T W N es v qs) (hs : q.at n f W) (hn : q.on (fun b => N ≤ b ∧ v.ownBlock ≠ some b))
    (hg : W.grownBy W' v.ownBlock) (hat : v'.ownBlock = v.ownBlock ∨ v'.ownBlock = some W.heap.size) (ho : W'.ownsRow N T 8 v' (qs.length + 1) ((qs.map EL.vals).flatten ++ q.vals)) : OwnE n f T W' N (es ++ [q.e]) v' (qs ++ [q]) := by
  have hall : ∀ x ∈ qs ++ [q], x.at n f W ∧ x.on (fun b => N ≤ b ∧ v.ownBlock ≠ some b) := fun x hx => by
    rcases List.mem_append.1 hx with hx | hx
    · exact ⟨h.sl x hx, h.ne x hx⟩
    · obtain rfl : x = q := by simpa using hx
      exact ⟨hs, hn⟩
  refine ⟨by simpa using ho, by rw [List.map_append, h.e]; rfl, fun x hx => (hall x hx).1.kp (Kp.of_grown hg) ((hall x hx).2.mono (fun b hb => hb.2)), fun x hx => ((hall x hx).2.and (hall x hx).1.lt).mono (fun b hb => ⟨hb.1.1, ?_⟩)⟩
  rcases hat with h4 | h4
  · rw [h4]; exact hb.1.2
  · rw [h4]; intro h5; injection h5 with h5
    have := hb.2; omega
theorem OwnE.row (h : OwnE n f T W N es v qs) : ES n f W v qs := ⟨Sl.of_owns (base := N) (e := T) (by rw [List.length_map]; exact h.own) (EL.len qs), h.sl⟩
end

end Go.Proofs.YtdgalkljngigeaaGreat

/-
Does a law look at so much?
-/
namespace Go.Proofs.YtdgalkljngigeaaGreat
open Go.RowKit

def GreatK (l : List K) (cols : List Col) (nm : ByteArray) (w : World) (e : Ending) (w' : World) : Prop :=
  ∃ g : Bool, e = .returned (.bool g) ∧ (g = false → (∀ c ∈ l, c.v.s.size ≤ 3000) ∧ (∀ c ∈ cols, c.nm.size ≤ 60) ∧ l.length ≤ 20 ∧ cols.length ≤ 20 ∧ nm.size ≤ 60) ∧ Ext w w'

set_option maxRecDepth 100000 in set_option maxHeartbeats 4000000 in
theorem greatK_any (l : List K) (a : Option Addr) (cap : Nat) (oid ver : Int) (nm : ByteArray) (id : Int) (cols : List Col) (a2 : Option Addr) (cap2 : Nat) (w : World) (hl : Sl w (.slice a l.length cap) 6 (l.map K.rc)) (hl2 : Sl w (.slice a2 cols.length cap2) 3 (cols.map Col.cells))
    (hlen : l.length ≤ 9223372036854775807) (hlen2 : cols.length ≤ 9223372036854775807) (hs : ∀ c ∈ l, c.v.s.size ≤ 9223372036854775807) (hs2 : ∀ c ∈ cols, c.nm.size ≤ 9223372036854775807) (hnm : nm.size ≤ 9223372036854775807) :
    Calls Tryz.prog 15 #[.slice a l.length cap, .agg #[.int .u32 oid, .int .u32 ver, .string nm, .int .u8 id, .slice a2 cols.length cap2]] w (GreatK l cols nm w) := by
  have HL := Hid.mk' hl
  have HL2 := Hid.mk' hl2
  have HS := Hid.mk' hs
  have HS2 := Hid.mk' hs2
  clear hl hl2 hs hs2
  go_enter Tryz.func15, Tryz.ntmps15
  go_wp2
  go_loopw [5] (fun i wr => ∃ k : Nat, k ≤ l.length ∧ i = .int .i64 k ∧ Hid (∀ j (hj : j < l.length), j < k → l[j].v.s.size ≤ 3000) ∧ Hid (Ext (w.alloc (.cells #[.int .u32 oid, .int .u32 ver, .string nm, .int .u8 id, .slice a2 cols.length cap2] 51)) wr)) (fun i _ => l.length - (intOf i).toNat)
  case atStart => exact ⟨0, Nat.zero_le _, rfl, fun j _ h => by omega, Ext.refl _⟩
  case round =>
    obtain ⟨k, hk, rfl, hrel, hE⟩ := hrel
    have hEw : Hid (Ext w wr) := Hid.mk' (((Ext.refl w).alloc _).trans hE.out)
    by_cases hlt : k < l.length
    · obtain ⟨b, o, rfl, hb, hx⟩ := HL.out.at_ (i := k) (by simpa using hlt)
      obtain ⟨f0, f1, f2, f3, f4, f5⟩ := K.rcAt hlt hx hb hEw.out
      have hbw : b < wr.heap.size := Nat.lt_of_lt_of_le hb hEw.out.size
      have hsz := HS.out _ (List.getElem_mem hlt)
      clear hx
      by_cases h3 : 3000 < l[k].v.s.size
      · go_wp2
        go_ret
        exact ⟨true, rfl, (fun h => by cases h), hEw.out⟩
      · have h4 : l[k].v.s.size ≤ 3000 := by omega
        go_wp2
        go_roundw
        case rel => exact ⟨k + 1, by omega, by go_num, fun j hj hjk => by
          by_cases e : j = k
          · subst e; exact h4
          · exact hrel.out j hj (by omega), hE⟩
        case measure => simp [intOf]; omega
    · have hkk : k = l.length := by omega
      have H3 : Hid (∀ c ∈ l, c.v.s.size ≤ 3000) := Hid.mk' (fun c hc => by
        obtain ⟨i, hi, rfl⟩ := List.getElem_of_mem hc
        exact hrel.out i hi (by omega))
      subst hkk
      clear hrel
      have hBx := (Blk.new w #[.int .u32 oid, .int .u32 ver, .string nm, .int .u8 id, .slice a2 cols.length cap2] 51).ext hE.out
      have g0 := hBx.cell
      have z0 := hBx.lt
      clear hBx
      go_wp2
      obtain ⟨wo, rfl⟩ : ∃ wo : World, wo = wr := ⟨_, rfl⟩
      go_loopw [6] (fun i wr => ∃ k : Nat, k ≤ cols.length ∧ i = .int .i64 k ∧ Hid (∀ j (hj : j < cols.length), j < k → cols[j].nm.size ≤ 60) ∧ wr = wo) (fun i _ => cols.length - (intOf i).toNat)
      case atStart => exact ⟨0, Nat.zero_le _, rfl, fun j _ h => by omega, rfl⟩
      case round =>
        obtain ⟨k, hk, rfl, hrel, rfl⟩ := hrel
        by_cases hlt : k < cols.length
        · obtain ⟨b, o, rfl, hb, hx⟩ := HL2.out.at_ (i := k) (by simpa using hlt)
          obtain ⟨f0, f1, f2⟩ := Col.at_ hlt hx hb hEw.out
          have hbw : b < wr.heap.size := Nat.lt_of_lt_of_le hb hEw.out.size
          have hsz := HS2.out _ (List.getElem_mem hlt)
          clear hx
          by_cases h3 : 60 < cols[k].nm.size
          · go_wp2
            go_ret
            exact ⟨true, rfl, (fun h => by cases h), hEw.out⟩
          · have h4 : cols[k].nm.size ≤ 60 := by omega
            go_wp2
            go_roundw
            case rel => exact ⟨k + 1, by omega, by go_num, fun j hj hjk => by
              by_cases e : j = k
              · subst e; exact h4
              · exact hrel.out j hj (by omega), (by first | trivial | rfl)⟩
            case measure => simp [intOf]; omega
        · have hkk : k = cols.length := by omega
          have H4 : Hid (∀ c ∈ cols, c.nm.size ≤ 60) := Hid.mk' (fun c hc => by
            obtain ⟨i, hi, rfl⟩ := List.getElem_of_mem hc
            exact hrel.out i hi (by omega))
          subst hkk
          clear hrel
          by_cases c1 : 20 < l.length
          · go_wp2
            go_ret
            exact ⟨_, rfl, fun h => by simp at h; try omega, hEw.out⟩
          · have c1' : l.length ≤ 20 := by omega
            by_cases c2 : 20 < cols.length
            · go_wp2
              go_ret
              exact ⟨_, rfl, fun h => by simp at h; try omega, hEw.out⟩
            · have c2' : cols.length ≤ 20 := by omega
              go_wp2
              go_ret
              exact ⟨_, rfl, fun h => ⟨H3.out, H4.out, c1', c2', by simp at h; omega⟩, hEw.out⟩

end Go.Proofs.YtdgalkljngigeaaGreat

/-
What is wrong with a relation, the reference's answer.
-/
namespace Go.Proofs.YtdgalkljngigeaaGreat
open Go.RowKit

theorem take_any_no {cols : List Col} {c : Col} {k : Nat} (h : ∀ i (hi : i < cols.length), i < k → cols[i].nm ≠ c.nm) : (cols.take k).any (fun o => decide (o.nm = c.nm)) = false := by
  refine any_none fun i hi => ?_
  rw [List.length_take] at hi
  rw [List.getElem_take]
  exact decide_eq_false (h i (by omega) (by omega))
theorem take_any_yes {cols : List Col} {c : Col} {k j : Nat} (hj : j < cols.length) (hk : j < k) (h : cols[j].nm = c.nm) : (cols.take k).any (fun o => decide (o.nm = c.nm)) = true := by
  have hl : j < (cols.take k).length := by rw [List.length_take]; omega
  refine any_at (k := j) hl ?_
  rw [List.getElem_take]
  exact decide_eq_true h
theorem take_key {cols : List Col} {k : Nat} (hk : k < cols.length) : (cols.take (k + 1)).any Col.key = ((cols.take k).any Col.key || cols[k].key) := by
  rw [List.take_succ_eq_append_getElem hk, List.any_append]; simp
theorem colE_un {c : Col} {l : List Col} (h : namedB c.nm = false) : colE c l = 3 := by unfold colE; rw [if_pos h]
theorem colE_ex {c : Col} {l : List Col} (h : namedB c.nm = true) (h2 : l.any (fun o => decide (o.nm = c.nm)) = true) : colE c l = 9 := by unfold colE; rw [if_neg (by rw [h]; simp), if_pos h2]
theorem colE_ty {c : Col} {l : List Col} (h : namedB c.nm = true) (h2 : l.any (fun o => decide (o.nm = c.nm)) = false) (h3 : c.ty < 1 ∨ 6 < c.ty) : colE c l = 11 := by unfold colE; rw [if_neg (by rw [h]; simp), if_neg (by rw [h2]; simp), if_pos h3]
theorem colE_ok {c : Col} {l : List Col} (h : namedB c.nm = true) (h2 : l.any (fun o => decide (o.nm = c.nm)) = false) (h3 : ¬ (c.ty < 1 ∨ 6 < c.ty)) : colE c l = 0 := by unfold colE; rw [if_neg (by rw [h]; simp), if_neg (by rw [h2]; simp), if_neg h3]

set_option maxRecDepth 100000 in set_option maxHeartbeats 4000000 in
theorem rright8_big (oid ver : Int) (nm : ByteArray) (id : Int) (cols : List Col) (a : Option Addr) (cap : Nat) (w : World) (hl : Sl w (.slice a cols.length cap) 3 (cols.map Col.cells)) (hlen : cols.length ≤ 9223372036854775807)
    (hnm : nm.size ≤ 9223372036854775807) (hcs : ∀ c ∈ cols, c.nm.size ≤ 9223372036854775807) :
    Calls Tryz.prog 72 #[.agg #[.int .u32 oid, .int .u32 ver, .string nm, .int .u8 id, .slice a cols.length cap]] w fun e w' => e = .returned (.int .i64 (⟨oid, ver, nm, id, cols⟩ : Rl).right) ∧ Ext w w' := by
  have HN := Hid.mk' (fun w => rnamed_any nm w hnm)
  have HL := Hid.mk' hl
  have HCS := Hid.mk' hcs
  clear hl hcs
  by_cases h1 : oid = 0
  · have HR := Hid.mk' (show (⟨oid, ver, nm, id, cols⟩ : Rl).right = 4 by unfold Rl.right; rw [if_pos (.inl h1)])
    have e1 : (oid == 0) = true := by simpa using h1
    clear h1
    go_enter Tryz.func72, Tryz.ntmps72
    go_wp2
    go_ret
    exact ⟨ret_int HR.out.symm, by exact eX⟩
  have e1 : (oid == 0) = false := by simpa using h1
  by_cases h2 : ver = 0
  · have HR := Hid.mk' (show (⟨oid, ver, nm, id, cols⟩ : Rl).right = 4 by unfold Rl.right; rw [if_pos (.inr h2)])
    have e2 : (ver == 0) = true := by simpa using h2
    clear h2 h1
    go_enter Tryz.func72, Tryz.ntmps72
    go_wp2
    go_ret
    exact ⟨ret_int HR.out.symm, by exact eX⟩
  have e2 : (ver == 0) = false := by simpa using h2
  cases h3 : namedB nm with
  | false =>
    have HR := Hid.mk' (show (⟨oid, ver, nm, id, cols⟩ : Rl).right = 3 by unfold Rl.right; rw [if_neg (by simp only; omega), if_pos h3])
    rw [h3] at HN
    clear h3 h2 h1
    go_enter Tryz.func72, Tryz.ntmps72
    go_wp2_with (go_at_call 96; refine (HN.out _).mono ?_; rintro e w1 ⟨rfl, rfl⟩)
    go_ret
    exact ⟨ret_int HR.out.symm, by exact eX⟩
  | true =>
  by_cases h4 : 2 < id
  · have HR := Hid.mk' (show (⟨oid, ver, nm, id, cols⟩ : Rl).right = 7 by unfold Rl.right; rw [if_neg (by simp only; omega), if_neg (by simp only [h3]; simp), if_pos h4])
    rw [h3] at HN
    clear h3 h2 h1
    go_enter Tryz.func72, Tryz.ntmps72
    go_wp2_with (go_at_call 96; refine (HN.out _).mono ?_; rintro e w1 ⟨rfl, rfl⟩)
    go_ret
    exact ⟨ret_int HR.out.symm, by exact eX⟩
  by_cases h5 : cols.length < 1
  · have HR := Hid.mk' (show (⟨oid, ver, nm, id, cols⟩ : Rl).right = 17 by unfold Rl.right; rw [if_neg (by simp only; omega), if_neg (by simp only [h3]; simp), if_neg (by simp only; omega), if_pos (.inl h5)])
    have h4' : id ≤ 2 := by omega
    have hz : (((cols.length : Nat) : Int) == 0) = true := by simp; exact List.length_eq_zero_iff.1 (by omega)
    rw [h3] at HN
    clear h3 h2 h1
    go_enter Tryz.func72, Tryz.ntmps72
    go_wp2_with (go_at_call 96; refine (HN.out _).mono ?_; rintro e w1 ⟨rfl, rfl⟩)
    go_ret
    exact ⟨ret_int HR.out.symm, by exact eX⟩
  have hz : (((cols.length : Nat) : Int) == 0) = false := by
    simp; rintro rfl; simp at h5
  by_cases h6 : 16 < cols.length
  · have HR := Hid.mk' (show (⟨oid, ver, nm, id, cols⟩ : Rl).right = 17 by unfold Rl.right; rw [if_neg (by simp only; omega), if_neg (by simp only [h3]; simp), if_neg (by simp only; omega), if_pos (.inr h6)])
    have h4' : id ≤ 2 := by omega
    rw [h3] at HN
    clear h3 h2 h1
    go_enter Tryz.func72, Tryz.ntmps72
    go_wp2_with (go_at_call 96; refine (HN.out _).mono ?_; rintro e w1 ⟨rfl, rfl⟩)
    go_ret
    exact ⟨ret_int HR.out.symm, by exact eX⟩
  have HR := Hid.mk' (Rl.right_cols (r := (⟨oid, ver, nm, id, cols⟩ : Rl)) h1 h2 h3 (by simp only; omega) (by simp only; omega) (by simp only; omega))
  simp only at HR
  rw [h3] at HN
  have h4' : id ≤ 2 := by omega
  have h6' : cols.length ≤ 16 := by omega
  clear h3 h2 h1 h4 h5 h6
  go_enter Tryz.func72, Tryz.ntmps72
  go_wp2_with (go_at_call 96; refine (HN.out _).mono ?_; rintro e w1 ⟨rfl, rfl⟩)
  go_loopw [3, 4] (fun q i wr => ∃ k : Nat, k ≤ cols.length ∧ i = .int .i64 k ∧ (∃ B : Bool, q = .bool B ∧ Hid ((cols.take k).any Col.key = B)) ∧ Hid (∀ j, j < k → colAt cols j = 0) ∧ Hid (Ext (w.alloc (.cells #[.int .u32 oid, .int .u32 ver, .string nm, .int .u8 id, .slice a cols.length cap] 51)) wr)) (fun _ i _ => cols.length - (intOf i).toNat)
  case atStart => exact ⟨0, Nat.zero_le _, rfl, ⟨false, rfl, by show List.any _ _ = _; simp⟩, fun j h => by omega, Ext.refl _⟩
  case round =>
    obtain ⟨k, hk, rfl, ⟨B, rfl, hKB⟩, hrel, hE⟩ := hrel
    have HRL := hrel
    have hBx := (Blk.new w #[.int .u32 oid, .int .u32 ver, .string nm, .int .u8 id, .slice a cols.length cap] 51).ext hE.out
    have g0 := hBx.cell
    have z0 := hBx.lt
    have HBx := Hid.mk' hBx
    clear hBx
    by_cases hlt : k < cols.length
    · obtain ⟨b, o, rfl, hb, hx⟩ := HL.out.at_ (i := k) (by simpa using hlt)
      have hEw : Hid (Ext w wr) := Hid.mk' (((Ext.refl w).alloc _).trans hE.out)
      obtain ⟨f0, f1, f2⟩ := Col.at_ hlt hx hb hEw.out
      have hbw : b < wr.heap.size := Nat.lt_of_lt_of_le hb hEw.out.size
      have hAt := colAt_lt hlt
      have HNC := Hid.mk' (fun w => rnamed_any cols[k].nm w (HCS.out _ (List.getElem_mem hlt)))
      have HTK := Hid.mk' (take_key hlt)
      obtain ⟨c, hc⟩ : ∃ c, c = cols[k] := ⟨_, rfl⟩
      rw [← hc] at f0 f1 f2 hAt HNC HTK
      have HAt := Hid.mk' hAt
      have HC := Hid.mk' hc
      clear hx hAt hc
      cases hnc : namedB c.nm with
      | false =>
        rw [hnc] at HNC
        have HR2 := Hid.mk' (show (⟨oid, ver, nm, id, cols⟩ : Rl).right = 3 by rw [HR.out, firstE_at hrel.out hlt (by rw [HAt.out, colE_un hnc]; decide), HAt.out, colE_un hnc]; simp)
        clear hnc
        go_wp2_with (go_at_call 96; refine (HNC.out _).mono ?_; rintro e w1 ⟨rfl, rfl⟩)
        go_ret
        exact ⟨ret_int HR2.out.symm, hEw.out.trans (by exact eX)⟩
      | true =>
        rw [hnc] at HNC
        have HNM := Hid.mk' hnc
        clear hnc
        go_wp2_with (go_at_call 96; refine (HNC.out _).mono ?_; rintro e w1 ⟨rfl, rfl⟩)
        obtain ⟨wo, rfl⟩ : ∃ wo : World, wo = wr := ⟨_, rfl⟩
        go_loopw [6] (fun m wr => ∃ j : Nat, j ≤ k ∧ m = .int .i64 j ∧ Hid (∀ i (hi : i < cols.length), i < j → cols[i].nm ≠ c.nm) ∧ Hid (Ext (wo.alloc (.cells #[.string c.nm, .int .u8 c.ty, .bool c.key] 129)) wr)) (fun m _ => k - (intOf m).toNat)
        case atStart => exact ⟨0, Nat.zero_le _, rfl, fun i _ h => by omega, Ext.refl _⟩
        case round =>
          obtain ⟨j, hj, rfl, hno, hEi⟩ := hrel
          have hEri : Hid (Ext wo wr) := Hid.mk' (((Ext.refl wo).alloc _).trans hEi.out)
          have hBi := HBx.out.ext hEri.out
          have gi := hBi.cell
          have zi := hBi.lt
          have hCi := (Blk.new wo #[.string c.nm, .int .u8 c.ty, .bool c.key] 129).ext hEi.out
          have ci := hCi.cell
          have yi := hCi.lt
          clear hBi hCi
          by_cases hjk : j < k
          · have hjl : j < cols.length := by omega
            obtain ⟨b2, o2, e2, hb2, hx2⟩ := HL.out.at_ (i := j) (by simpa using hjl)
            obtain ⟨rfl, rfl⟩ : b2 = b ∧ o2 = o := by simp at e2; exact ⟨e2.1.symm, e2.2.symm⟩
            obtain ⟨p0, p1, p2⟩ := Col.at_ hjl hx2 hb2 (hEw.out.trans hEri.out)
            have hbi : b2 < wr.heap.size := Nat.lt_of_lt_of_le hbw hEri.out.size
            clear e2 hx2
            by_cases hnn : cols[j].nm = c.nm
            · have hEq : (cols[j].nm.toList == c.nm.toList) = true := by rw [str_beq]; exact decide_eq_true hnn
              have hAl := take_any_yes hjl hjk hnn
              have HR2 := Hid.mk' (show (⟨oid, ver, nm, id, cols⟩ : Rl).right = 9 by rw [HR.out, firstE_at HRL.out hlt (by rw [HAt.out, colE_ex HNM.out hAl]; decide), HAt.out, colE_ex HNM.out hAl]; simp)
              clear hnn hAl
              go_wp2
              go_region_held3 (fun w' => Ext (wr) w' ∧ (∀ b o, b < (wr).heap.size → w'.cell? ⟨b, o, none⟩ = (wr).cell? ⟨b, o, none⟩) ∧ (∀ b o, b < (wr).heap.size → w'.frozen? ⟨b, o, none⟩ = (wr).frozen? ⟨b, o, none⟩)) ((exact held_of (by exact eX))) (fail)
              go_wp2
              go_ret
              exact ⟨ret_int HR2.out.symm, (hEw.out.trans hEri.out).trans (by exact eX)⟩
            · have hEq : (cols[j].nm.toList == c.nm.toList) = false := by rw [str_beq]; exact decide_eq_false hnn
              have HNN := Hid.mk' hnn
              clear hnn
              go_wp2
              go_region_held3 (fun w' => Ext (wr) w' ∧ (∀ b o, b < (wr).heap.size → w'.cell? ⟨b, o, none⟩ = (wr).cell? ⟨b, o, none⟩) ∧ (∀ b o, b < (wr).heap.size → w'.frozen? ⟨b, o, none⟩ = (wr).frozen? ⟨b, o, none⟩)) ((exact held_of (by exact eX))) (fail)
              go_wp2
              go_roundw
              case rel => exact ⟨j + 1, by omega, by go_num, fun i hi hij => by
                by_cases e : i = j
                · subst e; exact HNN.out
                · exact hno.out i hi (by omega), Hid.mk' (hEi.out.trans (by exact eX))⟩
              case measure => simp [intOf]; omega
          · obtain rfl : j = k := by omega
            have HNO := Hid.mk' (take_any_no hno.out)
            by_cases ht : c.ty < 1 ∨ 6 < c.ty
            · have HR2 := Hid.mk' (show (⟨oid, ver, nm, id, cols⟩ : Rl).right = 11 by rw [HR.out, firstE_at HRL.out hlt (by rw [HAt.out, colE_ty HNM.out HNO.out ht]; decide), HAt.out, colE_ty HNM.out HNO.out ht]; simp)
              rcases ht with ht | ht
              all_goals
                (try have ht1 : 1 ≤ c.ty := by omega)
                go_wp2
                go_ret
                exact ⟨ret_int HR2.out.symm, (hEw.out.trans hEri.out).trans (by exact eX)⟩
            · have ht1 : 1 ≤ c.ty := by omega
              have ht2 : c.ty ≤ 6 := by omega
              have HA0 := Hid.mk' (HAt.out.trans (colE_ok HNM.out HNO.out ht))
              clear ht
              cases B
              all_goals
                go_wp2
                go_roundw
                case rel => exact ⟨j + 1, by omega, by go_num, ⟨_, rfl, by show List.any _ _ = _; rw [HTK.out, hKB.out]; simp⟩, fun i hi => by
                  by_cases e : i = j
                  · subst e; exact HA0.out
                  · exact HRL.out i (by omega), Hid.mk' ((hE.out.trans hEri.out).trans (by exact eX))⟩
                case measure => simp [intOf]; omega
    · have hkk : k = cols.length := by omega
      have hEw : Hid (Ext w wr) := Hid.mk' (((Ext.refl w).alloc _).trans hE.out)
      have HR2 := Hid.mk' (show (⟨oid, ver, nm, id, cols⟩ : Rl).right = if id = 1 ∧ cols.any Col.key = false then 13 else 0 by rw [HR.out, firstE_zero (fun i hi => hrel.out i (by omega)), if_neg (by simp)])
      subst hkk
      rw [List.take_length] at hKB
      rw [hKB.out] at HR2
      clear hrel HR
      by_cases h7 : id = 1
      · subst h7
        cases B
        all_goals
          go_wp2
          go_ret
          exact ⟨ret_int (by rw [HR2.out]; simp), hEw.out⟩
      · have e7 : (id == 1) = false := by simpa using h7
        have HR3 := Hid.mk' (HR2.out.trans (if_neg (fun h => h7 h.1)))
        clear h7 HR2
        go_wp2
        go_ret
        exact ⟨ret_int HR3.out.symm, hEw.out⟩

theorem rright8_any (oid ver : Int) (nm : ByteArray) (id : Int) (cols : List Col) (a : Option Addr) (cap : Nat) (w : World) (hl : Sl w (.slice a cols.length cap) 3 (cols.map Col.cells)) (hlen : cols.length ≤ 1000)
    (hnm : nm.size ≤ 9223372036854775807) (hcs : ∀ c ∈ cols, c.nm.size ≤ 9223372036854775807) :
    Calls Tryz.prog 72 #[.agg #[.int .u32 oid, .int .u32 ver, .string nm, .int .u8 id, .slice a cols.length cap]] w fun e w' => e = .returned (.int .i64 (⟨oid, ver, nm, id, cols⟩ : Rl).right) ∧ Ext w w' :=
  rright8_big oid ver nm id cols a cap w hl (by omega) hnm hcs

end Go.Proofs.YtdgalkljngigeaaGreat
