/-
What is wrong with a column: the closure, the library's IndexFunc and ContainsFunc at it, rel.column.
-/
import Derived.RangeFuncNested
import Derived.RangeFuncBound
import Derived.RangeFuncCalls
import Derived.RangeFuncLeaves
import Derived.RangeFuncBox
import Derived.Shelf.Abstract
import Derived.Shelf.RegionOpen
import Derived.OwnWalkIn
import Derived.TacticsInMore
import Derived.LoopNIn
import Derived.LoopIn
import Derived.Deep.RegionHeld
import Derived.Maps.AppendAt
import Derived.Test.YtlobghojjfkchaaGreatP2
namespace Go.Proofs.YtlobghojjfkchaaGreat
open Go.RowKit

def Col.agg (c : Col) : Value := .agg #[.string c.nm, .int .u8 c.ty, .bool c.key]
/-- A name is the captured column's. -/
def sameNm (c : Col) (o : Col) : Bool := decide (o.nm = c.nm)

set_option maxRecDepth 20000 in set_option maxHeartbeats 400000 in
theorem colf_any (o c : Col) (B : Nat) (w : World) (hc : w.cell? ⟨B, 0, none⟩ = some (.string c.nm)) (hB : B < w.heap.size) :
    Calls Tryz.prog 198 #[.agg #[.string o.nm, .int .u8 o.ty, .bool o.key], .pointer (some ⟨B, 0, none⟩)] w fun e w' => e = .returned (.bool (sameNm c o)) ∧ Ext w w' := by
  go_enter Tryz.func198, Tryz.ntmps198
  go_wp2
  go_ret
  exact ⟨ret_bool (str_beq _ _), by exact eX⟩

def IdxPost {α : Type} (l : List α) (p : α → Bool) (w : World) (e : Ending) (w' : World) : Prop := ∃ i : Int, e = .returned (.int .i64 i) ∧ decide (0 ≤ i) = l.any p ∧ Ext w w'
theorem any_at {α : Type} {l : List α} {p : α → Bool} {k : Nat} (hk : k < l.length) (h : p l[k] = true) : l.any p = true := List.any_eq_true.2 ⟨_, List.getElem_mem hk, h⟩
theorem any_none {α : Type} {l : List α} {p : α → Bool} (h : ∀ i (hi : i < l.length), p l[i] = false) : l.any p = false := by
  rw [List.any_eq_false]
  intro x hx
  obtain ⟨i, hi, rfl⟩ := List.getElem_of_mem hx
  simp [h i hi]

set_option maxRecDepth 100000 in set_option maxHeartbeats 1600000 in
theorem colidx_any (l : List Col) (a : Option Addr) (n cap : Nat) (c : Col) (B : Nat) (w : World) (hn : l.length = n) (hl : Sl w (.slice a n cap) 3 (l.map Col.cells)) (hc : w.cell? ⟨B, 0, none⟩ = some (.string c.nm)) (hB : B < w.heap.size) (hlen : l.length ≤ 1000) :
    Calls Tryz.prog 221 #[.slice a n cap, .func (.func 198) #[] #[.pointer (some ⟨B, 0, none⟩)]] w (IdxPost l (sameNm c) w) := by
  subst hn
  have HL := Hid.mk' hl
  have HC := Hid.mk' hc
  clear hl hc
  go_enter Tryz.func221, Tryz.ntmps221
  go_wp2
  go_loopw [8] (fun i wr => ∃ k : Nat, k ≤ l.length ∧ i = .int .i64 k ∧ Hid (∀ j (hj : j < l.length), j < k → sameNm c l[j] = false) ∧ Hid (Ext w wr)) (fun i _ => l.length - (intOf i).toNat)
  case atStart => exact ⟨0, Nat.zero_le _, rfl, fun j _ h => by omega, Ext.refl _⟩
  case round =>
    obtain ⟨k, hk, rfl, hrel, hE⟩ := hrel
    by_cases hlt : k < l.length
    · obtain ⟨b, o, rfl, hb, hx⟩ := HL.out.at_ (i := k) (by simpa using hlt)
      obtain ⟨f0, f1, f2⟩ := Col.at_ hlt hx hb hE.out
      have hbw : b < wr.heap.size := Nat.lt_of_lt_of_le hb hE.out.size
      have HF := Hid.mk' (fun W (h : Ext wr W) => colf_any l[k] c B W ((hE.out.trans h).cells.1 B _ hB |>.trans HC.out) (Nat.lt_of_lt_of_le hB (hE.out.trans h).size))
      cases hq : sameNm c l[k] with
      | true =>
        rw [hq] at HF
        have HQ := Hid.mk' (any_at hlt hq)
        clear hq hx
        go_wp2_with (go_at_call 198; refine (HF.out _ (by exact eX)).mono ?_; rintro e w1 ⟨rfl, hb1⟩)
        go_ret
        exact ⟨_, rfl, by rw [HQ.out]; simp, hE.out.trans (by exact eX)⟩
      | false =>
        rw [hq] at HF
        have HQ := Hid.mk' hq
        clear hq hx
        go_wp2_with (go_at_call 198; refine (HF.out _ (by exact eX)).mono ?_; rintro e w1 ⟨rfl, hb1⟩)
        go_roundw
        case rel => exact ⟨k + 1, by omega, by go_num, fun j hj hjk => by
          by_cases e : j = k
          · subst e; exact HQ.out
          · exact hrel.out j hj (by omega), Hid.mk' (hE.out.trans (by exact eX))⟩
        case measure => simp [intOf]; omega
    · have hkk : k = l.length := by omega
      have HQ := Hid.mk' (any_none (p := sameNm c) fun j hj => hrel.out j hj (by omega))
      subst hkk
      go_wp2
      go_ret
      exact ⟨_, rfl, by rw [HQ.out]; simp, hE.out⟩

set_option maxRecDepth 20000 in set_option maxHeartbeats 400000 in
theorem colhas_any (l : List Col) (a : Option Addr) (n cap : Nat) (c : Col) (B : Nat) (w : World) (hn : l.length = n) (hl : Sl w (.slice a n cap) 3 (l.map Col.cells)) (hc : w.cell? ⟨B, 0, none⟩ = some (.string c.nm)) (hB : B < w.heap.size) (hlen : l.length ≤ 1000) :
    Calls Tryz.prog 197 #[.slice a n cap, .func (.func 198) #[] #[.pointer (some ⟨B, 0, none⟩)]] w fun e w' => e = .returned (.bool (l.any (sameNm c))) ∧ Ext w w' := by
  have HI := Hid.mk' (colidx_any l a n cap c B w hn hl hc hB hlen)
  clear hl hc
  go_enter Tryz.func197, Tryz.ntmps197
  go_wp2_with (go_at_call 221; refine HI.out.mono ?_; rintro e w1 ⟨i, rfl, hi, hb1⟩; have HI2 := Hid.mk' hi; clear hi)
  go_ret
  exact ⟨ret_bool HI2.out, hb1⟩

set_option maxRecDepth 100000 in set_option maxHeartbeats 1600000 in
theorem column_any (c : Col) (l : List Col) (a : Option Addr) (n cap : Nat) (w : World) (hn : l.length = n) (hl : Sl w (.slice a n cap) 3 (l.map Col.cells)) (hlen : l.length ≤ 1000) (hs : c.nm.size ≤ 9223372036854775807) :
    Calls Tryz.prog 166 #[.agg #[.string c.nm, .int .u8 c.ty, .bool c.key], .slice a n cap] w fun e w' => e = .returned (.int .i64 (colE c l)) ∧ Ext w w' := by
  have HN := Hid.mk' (fun w => named_any c.nm w hs)
  have HH := Hid.mk' (fun W (h : Ext w W) (B : Nat) hc hB => colhas_any l a n cap c B W hn (hl.ext h) hc hB hlen)
  have HE := Hid.mk' (show colE c l = if namedB c.nm = false then 3 else if l.any (sameNm c) = true then 9 else if c.ty < 1 ∨ 6 < c.ty then 11 else 0 from rfl)
  clear hl
  cases h1 : namedB c.nm with
  | false =>
    rw [h1] at HN HE
    clear h1
    go_enter Tryz.func166, Tryz.ntmps166
    go_wp2_with (go_at_call 165; refine (HN.out _).mono ?_; rintro e w1 ⟨rfl, rfl⟩)
    go_ret
    exact ⟨ret_int (by rw [HE.out]; simp), by exact eX⟩
  | true =>
    rw [h1] at HN HE
    clear h1
    cases h2 : l.any (sameNm c) with
    | true =>
      rw [h2] at HH HE
      clear h2
      go_enter Tryz.func166, Tryz.ntmps166
      go_wp2_with (first
        | (go_at_call 165; refine (HN.out _).mono ?_; rintro e w1 ⟨rfl, rfl⟩)
        | (go_at_call 197; refine (HH.out _ (by exact eX) _ (by simp) (by simp)).mono ?_; rintro e w2 ⟨rfl, hb2⟩; have hE2 : Ext w w2 := (by exact eX)))
      go_ret
      exact ⟨ret_int (by rw [HE.out]; simp), hE2⟩
    | false =>
      rw [h2] at HH HE
      clear h2
      by_cases h3 : c.ty < 1
      · have HR := Hid.mk' (HE.out.trans (by rw [if_neg (by simp), if_neg (by simp), if_pos (.inl h3)]))
        clear HE
        go_enter Tryz.func166, Tryz.ntmps166
        go_wp2_with (first
          | (go_at_call 165; refine (HN.out _).mono ?_; rintro e w1 ⟨rfl, rfl⟩)
          | (go_at_call 197; refine (HH.out _ (by exact eX) _ (by simp) (by simp)).mono ?_; rintro e w2 ⟨rfl, hb2⟩; have hE2 : Ext w w2 := (by exact eX); have hk := ((Blk.new w #[.string c.nm, .int .u8 c.ty, .bool c.key] 130).ext hb2).cell))
        go_ret
        exact ⟨ret_int HR.out.symm, hE2⟩
      · by_cases h4 : 6 < c.ty
        · have HR := Hid.mk' (HE.out.trans (by rw [if_neg (by simp), if_neg (by simp), if_pos (.inr h4)]))
          clear HE
          go_enter Tryz.func166, Tryz.ntmps166
          go_wp2_with (first
            | (go_at_call 165; refine (HN.out _).mono ?_; rintro e w1 ⟨rfl, rfl⟩)
            | (go_at_call 197; refine (HH.out _ (by exact eX) _ (by simp) (by simp)).mono ?_; rintro e w2 ⟨rfl, hb2⟩; have hE2 : Ext w w2 := (by exact eX); have hk := ((Blk.new w #[.string c.nm, .int .u8 c.ty, .bool c.key] 130).ext hb2).cell))
          go_ret
          exact ⟨ret_int HR.out.symm, hE2⟩
        · have HR := Hid.mk' (HE.out.trans (by rw [if_neg (by simp), if_neg (by simp), if_neg (by omega)]))
          clear HE
          go_enter Tryz.func166, Tryz.ntmps166
          go_wp2_with (first
            | (go_at_call 165; refine (HN.out _).mono ?_; rintro e w1 ⟨rfl, rfl⟩)
            | (go_at_call 197; refine (HH.out _ (by exact eX) _ (by simp) (by simp)).mono ?_; rintro e w2 ⟨rfl, hb2⟩; have hE2 : Ext w w2 := (by exact eX); have hk := ((Blk.new w #[.string c.nm, .int .u8 c.ty, .bool c.key] 130).ext hb2).cell))
          go_ret
          exact ⟨ret_int HR.out.symm, hE2⟩

end Go.Proofs.YtlobghojjfkchaaGreat

/-
The walk through the columns of the key: rel.Keys and its closure, for every loop body; rel.keyed.
-/
namespace Go.Proofs.YtlobghojjfkchaaGreat
open Go.RowKit Go.Shelf
attribute [local go_sem] Oper.semAt_some

/-- A column of the key, with its place. -/
abbrev KX (cols : List Col) := { x : Nat × Col // x.1 < cols.length ∧ cols[x.1]? = some x.2 ∧ x.2.key = true }
/-- The columns of the key among the first k. -/
def keysUp (cols : List Col) : Nat → List (KX cols)
  | 0 => []
  | k + 1 => if h : ∃ h : k < cols.length, cols[k].key = true then keysUp cols k ++ [⟨(k, cols[k]'h.1), h.1, List.getElem?_eq_getElem h.1, h.2⟩] else keysUp cols k
theorem keysUp_yes {cols : List Col} {k : Nat} (hk : k < cols.length) (h : cols[k].key = true) : keysUp cols (k + 1) = keysUp cols k ++ [⟨(k, cols[k]), hk, List.getElem?_eq_getElem hk, h⟩] := by
  unfold keysUp
  rw [dif_pos ⟨hk, h⟩]
  cases k <;> rfl
theorem keysUp_no {cols : List Col} {k : Nat} (hk : k < cols.length) (h : cols[k].key = false) : keysUp cols (k + 1) = keysUp cols k := by
  conv => lhs; unfold keysUp
  rw [dif_neg (by rintro ⟨_, h2⟩; rw [h] at h2; cases h2)]
theorem keysUp_len {cols : List Col} : ∀ k, (keysUp cols k).length ≤ k
  | 0 => Nat.le_refl _
  | k + 1 => by
    have := keysUp_len (cols := cols) k
    unfold keysUp
    split
    · rw [List.length_append, List.length_singleton]; omega
    · omega
theorem keysUp_mem {cols : List Col} : ∀ (k : Nat) (x : KX cols), x ∈ keysUp cols k ↔ x.1.1 < k
  | 0, x => by simp [keysUp]
  | k + 1, x => by
    have ih := keysUp_mem (cols := cols) k x
    obtain ⟨⟨i, c⟩, hi, hc, hk⟩ := x
    simp only at *
    unfold keysUp
    split
    · rename_i h
      rw [List.mem_append, ih, List.mem_singleton, Subtype.mk.injEq, Prod.mk.injEq]
      constructor
      · rintro (h1 | ⟨rfl, _⟩) <;> omega
      · intro h1
        by_cases e : i = k
        · subst e; right; refine ⟨rfl, ?_⟩; rw [List.getElem?_eq_getElem hi] at hc; exact (Option.some.inj hc).symm
        · left; omega
    · rename_i h
      rw [ih]
      constructor
      · intro h1; omega
      · intro h1
        by_cases e : i = k
        · subst e
          rw [List.getElem?_eq_getElem hi] at hc
          exact absurd ⟨hi, by rw [Option.some.inj hc]; exact hk⟩ h
        · omega
theorem keysUp_none {cols : List Col} : keysUp cols cols.length = [] ↔ cols.any Col.key = false := by
  constructor
  · intro h
    rw [List.any_eq_false]
    intro c hc
    obtain ⟨i, hi, rfl⟩ := List.getElem_of_mem hc
    intro hk
    have : (⟨(i, cols[i]), hi, List.getElem?_eq_getElem hi, hk⟩ : KX cols) ∈ keysUp cols cols.length := (keysUp_mem _ _).2 hi
    rw [h] at this; cases this
  · intro h
    rw [List.any_eq_false] at h
    rw [List.eq_nil_iff_forall_not_mem]
    rintro ⟨⟨i, c⟩, hi, hc, hk⟩ _
    exact h c (List.mem_of_getElem? hc) hk

/-- What a column of the key is handed out as. -/
def encK {cols : List Col} (x : KX cols) : Array Value := #[.int .i64 (x.1.1 : Int), .agg #[.string x.1.2.nm, .int .u8 x.1.2.ty, .bool x.1.2.key]]

set_option maxRecDepth 100000 in
set_option maxHeartbeats 2000000 in
theorem keys1_in (F : Fence) (n : Nat) (hF : F.fn 196) (hro : F.round = none) (hn : 1 ≤ n) (l Bs : Nat) (w0 : World) (a : Option Addr) (cap : Nat) (cols : List Col) (hlen : cols.length ≤ 1000) (hl : Hid (Sl w0 (.slice a cols.length cap) 3 (cols.map Col.cells)))
    (J Jx : List (KX cols) → World → Prop) (W0 : World) (hJ : Hid (AbidesFrom W0.heap.size J))
    (hY : Hid (∀ pre x W, J pre W → pre.length < cols.length → YieldAt F (n - 1) Tryz.prog l (encK x) W fun e W' => (e = .returned (.bool true) ∧ J (pre ++ [x]) W' ∧ Below w0.heap.size W W') ∨ (e = .returned (.bool false) ∧ Jx (pre ++ [x]) W')))
    (hE : Hid (Ext w0 W0)) (hBs : W0.cell? ⟨Bs, 4, none⟩ = some (.slice a cols.length cap)) (h0 : Hid (J [] W0)) :
    CallsIn F n Tryz.prog 196 #[.func (.yield l) #[] #[], .pointer (some ⟨Bs, 0, none⟩)] W0 fun e W' => (∃ v, e = .returned v) ∧
      ((∃ ys, ys = keysUp cols cols.length ∧ J ys W') ∨ (∃ pre, (∃ k, k ≤ cols.length ∧ pre = keysUp cols k) ∧ Jx pre W')) := by
  refine callsIn_of_wp Tryz.func196 rfl hF ?_ hro
  simp only [Tryz.ntmps196, List.size_toArray, List.length_cons, List.length_nil, Nat.reduceAdd, Nat.reduceSub, Array.replicate_succ, Array.replicate_zero, List.push_toArray, List.append_toArray, List.nil_append, List.cons_append]
  gi_wp2
  gi_loopw [8] (fun i wr => ∃ k : Nat, k ≤ cols.length ∧ i = .int .i64 k ∧ Hid (J (keysUp cols k) wr) ∧ Hid (Ext w0 wr)) (fun i _ => cols.length - (intOf i).toNat)
  case atStart => exact ⟨0, Nat.zero_le _, rfl, h0, hE⟩
  case round =>
    obtain ⟨k, hk, rfl, hJs, hEw⟩ := hrel
    by_cases hlt : k < cols.length
    · obtain ⟨b, o, rfl, hb, hx⟩ := hl.out.at_ (i := k) (by simpa using hlt)
      obtain ⟨f0, f1, f2⟩ := Col.at_ hlt hx hb hEw.out
      have hJa : Hid (∀ o : Obj, J (keysUp cols k) (wr.alloc o)) := Hid.mk' (fun o => hJ.out _ _ _ none hJs.out (World.grownBy_alloc _ _ none) (by simp))
      clear hx
      cases hq : cols[k].key with
      | true =>
        obtain ⟨x, hu, hx2⟩ : ∃ x : KX cols, keysUp cols (k + 1) = keysUp cols k ++ [x] ∧ x.1 = (k, cols[k]) := ⟨_, keysUp_yes hlt hq, rfl⟩
        have HU := Hid.mk' hu
        obtain ⟨fn, tmps, assign, body, hy, hR⟩ := hY.out (keysUp cols k) x (wr.alloc (.cells #[.string cols[k].nm, .int .u8 cols[k].ty, .bool true] 130)) (hJa.out _) (by have := keysUp_len (cols := cols) k; omega)
        simp only [encK, hx2, hq] at hy
        rw [hq] at f2
        clear hq hu hx2
        gi_wp2
        refine hR.mono ?_
        rintro e W3 (⟨rfl, hJ3, hk3⟩ | ⟨rfl, hJx3⟩)
        · gi_wp2
          go_roundw
          case rel => exact ⟨k + 1, by omega, by go_num, Hid.mk' (by rw [HU.out]; exact hJ3), Hid.mk' (Below.trans (hEw.out.alloc _) hk3)⟩
          case measure => simp [intOf]; omega
        · gi_wp2
          refine bodyPost_ret (results_none rfl _ _ _) rfl ?_
          exact ⟨⟨_, rfl⟩, .inr ⟨_, ⟨k + 1, by omega, HU.out.symm⟩, hJx3⟩⟩
      | false =>
        have HU := Hid.mk' (keysUp_no hlt hq)
        rw [hq] at f2
        clear hq
        gi_wp2
        refine ⟨fun _ h => (by cases h), ?_⟩
        gi_wp2
        go_roundw
        case rel => exact ⟨k + 1, by omega, by go_num, Hid.mk' (by rw [HU.out]; exact hJa.out _), Hid.mk' (hEw.out.alloc _)⟩
        case measure => simp [intOf]; omega
    · obtain rfl : k = cols.length := by omega
      gi_wp2
      go_end0
      exact ⟨⟨_, rfl⟩, .inl ⟨_, rfl, hJs.out⟩⟩

theorem keys_stops (F : Fence) (n : Nat) (hF : F.fn 196) (hro : F.round = none) (hn : 1 ≤ n) (Bs : Nat) (w0 : World) (a : Option Addr) (cap : Nat) (cols : List Col) (hlen : cols.length ≤ 1000) (hl : Sl w0 (.slice a cols.length cap) 3 (cols.map Col.cells))
    (w : World) (hE : Ext w0 w) (hBs : w.cell? ⟨Bs, 4, none⟩ = some (.slice a cols.length cap)) (hB : Bs < w.heap.size) :
    SeqStopsK F n Tryz.prog 196 #[.pointer (some ⟨Bs, 0, none⟩)] (encK (cols := cols)) (Below w0.heap.size) (fun ys => ys = keysUp cols cols.length) (fun pre => ∃ k, k ≤ cols.length ∧ pre = keysUp cols k) cols.length w := fun l J Jx W hW hJ _ hY h0 =>
  keys1_in F n hF hro hn l Bs w0 a cap cols hlen hl J Jx W hJ hY (Below.trans hE (hW.mono hE.size)) ((hW.cell (p := ⟨Bs, 4, none⟩) hB).trans hBs) h0

set_option maxHeartbeats 1000000 in
theorem keys_in (F : Fence) (n : Nat) (hF : F.fn 164) (hro : F.round = none) (oid ver : Int) (nm : ByteArray) (id : Int) (v : Value) (w : World) :
    CallsIn F n Tryz.prog 164 #[.agg #[.int .u32 oid, .int .u32 ver, .string nm, .int .u8 id, v]] w fun e w' => e = .returned (.func (.func 196) #[] #[.pointer (some ⟨w.heap.size, 0, none⟩)]) ∧ w' = w.alloc (.cells #[.int .u32 oid, .int .u32 ver, .string nm, .int .u8 id, v] 112) := by
  refine callsIn_of_wp Tryz.func164 rfl hF ?_ hro
  simp only [Tryz.ntmps164, List.size_toArray, List.length_cons, List.length_nil, Nat.reduceAdd, Nat.reduceSub, Array.replicate_succ, Array.replicate_zero, List.push_toArray, List.append_toArray, List.nil_append, List.cons_append]
  gi_wp2
  go_ret
  exact ⟨rfl, rfl⟩

end Go.Proofs.YtlobghojjfkchaaGreat

/-
Has a relation a column of the key?
-/
namespace Go.Proofs.YtlobghojjfkchaaGreat
open Go.RowKit Go.Shelf
attribute [local go_sem] Oper.semAt_some

theorem fold_two (t : Array Value) (p q : Nat) (u v : Value) : Array.foldl (fun t x => t.setIfInBounds x.1 x.2) t (#[p, q].zip #[u, v]) = (t.setIfInBounds p u).setIfInBounds q v := by
  simp [List.zip_toArray]
theorem keysUp_any {cols : List Col} {k : Nat} (h : keysUp cols k ≠ []) : cols.any Col.key = true := by
  rw [List.any_eq_true]
  obtain ⟨x, hx⟩ := List.exists_mem_of_ne_nil _ h
  obtain ⟨⟨i, c⟩, hi, hc, hk⟩ := x
  exact ⟨c, List.mem_of_getElem? hc, hk⟩

set_option maxRecDepth 100000 in
set_option maxHeartbeats 2000000 in
theorem keyed_in (F : Fence) (n : Nat) (h1F : F.fn 196) (hKF : F.fn 164) (hDF : F.fn 167) (hro : F.round = none) (hn : 3 ≤ n) (oid ver : Int) (nm : ByteArray) (id : Int) (cols : List Col) (a : Option Addr) (cap : Nat) (w : World) (hl : Sl w (.slice a cols.length cap) 3 (cols.map Col.cells)) (hlen : cols.length ≤ 1000) :
    CallsIn F n Tryz.prog 167 #[.agg #[.int .u32 oid, .int .u32 ver, .string nm, .int .u8 id, .slice a cols.length cap]] w fun e w' => e = .returned (.bool (cols.any Col.key)) ∧ Ext w w' := by
  have h1 : 1 ≤ n := by omega
  have HL := Hid.mk' hl
  clear hl
  refine callsIn_of_wp_marks Tryz.func167 rfl hDF ?_ hro
  simp only [Tryz.ntmps167, List.size_toArray, List.length_cons, List.length_nil, Nat.reduceAdd, Nat.reduceSub, Array.replicate_succ, Array.replicate_zero, List.push_toArray, List.append_toArray, List.nil_append, List.cons_append]
  gi_wp2_with (gi_at_call 164; refine (keys_in F (n - 1) hKF hro _ _ _ _ _ _).mono ?_; rintro e w' ⟨rfl, rfl⟩)
  have hE3 : Ext w (((w.alloc (.cells #[.int .u32 oid, .int .u32 ver, .string nm, .int .u8 id, .slice a cols.length cap] 112)).alloc (.cells #[.bool false] 4)).alloc (.cells #[.int .u32 oid, .int .u32 ver, .string nm, .int .u8 id, .slice a cols.length cap] 112)) := ((Ext.refl w).alloc _).alloc _ |>.alloc _
  have hB1 : Blk (((w.alloc (.cells #[.int .u32 oid, .int .u32 ver, .string nm, .int .u8 id, .slice a cols.length cap] 112)).alloc (.cells #[.bool false] 4)).alloc (.cells #[.int .u32 oid, .int .u32 ver, .string nm, .int .u8 id, .slice a cols.length cap] 112)) (w.heap.size + 1) #[.bool false] 4 := (Blk.new' _ _ (by simp)).alloc _
  have hB2 : Blk (((w.alloc (.cells #[.int .u32 oid, .int .u32 ver, .string nm, .int .u8 id, .slice a cols.length cap] 112)).alloc (.cells #[.bool false] 4)).alloc (.cells #[.int .u32 oid, .int .u32 ver, .string nm, .int .u8 id, .slice a cols.length cap] 112)) (w.heap.size + 1 + 1) #[.int .u32 oid, .int .u32 ver, .string nm, .int .u8 id, .slice a cols.length cap] 112 := Blk.new' _ _ (by simp)
  refine wpIn_rangeFunc_ownG hro h1 (gf := 196) (lb := #[.pointer (some ⟨w.heap.size + 1 + 1, 0, none⟩)]) rfl h1F (enters_of Tryz.func196 (by kernel_rfl) rfl)
    (keys_stops F (n - 1) h1F hro (by omega) (w.heap.size + 1 + 1) w a cap cols hlen HL.out _ hE3 (hB2.cell 4) hB2.lt) belowK_t (belowK_b (by simp; omega)) (Below.refl _ _) (fun _ => rfl)
    (fun pre W => (pre = [] ∧ W.cell? ⟨w.heap.size + 1, 0, none⟩ = some (.bool false) ∧ W.frozen? ⟨w.heap.size + 1, 0, none⟩ = false) ∧ Below w.heap.size w W)
    (fun c pre W => (c = .ret ∧ pre ≠ [] ∧ W.cell? ⟨w.heap.size + 1, 0, none⟩ = some (.bool true)) ∧ Below w.heap.size w W)
    (OwnFrom.and (Own.from (fun s A B row hs hg hr => ⟨hs.1, cell_kept hs.2.1 hg hr, (frozen_kept hs.2.1 hg hr).trans hs.2.2⟩) _) (ownFrom_below (Nat.le_refl _) (by simp; omega)))
    (fun c => OwnFrom.and (Own.from (fun s A B row hs hg hr => ⟨hs.1, hs.2.1, cell_kept hs.2.2 hg hr⟩) _) (ownFrom_below (Nat.le_refl _) (by simp; omega)))
    ⟨⟨rfl, hB1.cell 0, hB1.frozen 0⟩, hE3⟩
    (fun x => { tmps := #[.agg #[.int .u32 oid, .int .u32 ver, .string nm, .int .u8 id, .slice a cols.length cap], .pointer (some ⟨w.heap.size, 0, none⟩), .pointer (some ⟨w.heap.size + 1, 0, none⟩), .agg #[.int .u32 oid, .int .u32 ver, .string nm, .int .u8 id, .slice a cols.length cap], .func (.func 196) #[] #[.pointer (some ⟨w.heap.size + 1 + 1, 0, none⟩)], .int .i64 (x.1.1 : Int), .agg #[.string x.1.2.nm, .int .u8 x.1.2.ty, .bool x.1.2.key]], defers := [] }) ?assign ?body ?done ?stop
  case assign =>
    intro l x W K hK
    unfold encK
    rw [fold_two]
    gi_wp2
    exact hK
  case body =>
    rintro l pre x W ⟨⟨rfl, hc, hf⟩, hB⟩ _
    gi_wp2
    exact ⟨(KeepsOthers.setCell _ _ _).from _, ⟨rfl, by simp, World.cell?_setCell_same' _ _ _ (by rw [hc]; rfl)⟩, hB.setCell (p := ⟨w.heap.size + 1, 0, none⟩) (by simp) _⟩
  case done =>
    rintro D ys W hD hys ⟨⟨rfl, hc, hf⟩, hB⟩ hK
    gi_wp2
    have hK' := (KeepsOthers.setCell W ⟨w.heap.size + 1, 0, none⟩ (.bool false)).same D _ hK rfl
    refine ⟨by simp, .inl ⟨_, _, rfl, run_takeDeferred hK', ?_⟩⟩
    have hc5 := cell_kept (World.cell?_setCell_same' W ⟨w.heap.size + 1, 0, none⟩ (.bool false) (by rw [hc]; rfl)) (grownBy_putObj' _ D (.deferred none)) (fun r e => by cases e; exact ⟨_, hK', rfl⟩)
    refine ⟨.bool false, ?_, by rw [keysUp_none.1 hys.symm], (hB.setCell (p := ⟨w.heap.size + 1, 0, none⟩) (by simp) _).trans (belowK_b (w := w) (Nat.le_refl _) _ D _ _ (by simp at hD; omega) hK' rfl rfl)⟩
    simp [results, Tryz.f167, go_sem, hc5]
  case stop =>
    rintro D c pre W hD ⟨k, hk, rfl⟩ ⟨⟨rfl, hne, hc⟩, hB⟩ hK
    gi_wp2
    refine ⟨by simp, .inl ⟨_, _, rfl, run_takeDeferred hK, ?_⟩⟩
    have hc5 := cell_kept hc (grownBy_putObj' _ D (.deferred none)) (fun r e => by cases e; exact ⟨_, hK, rfl⟩)
    refine ⟨.bool true, ?_, by rw [keysUp_any hne], hB.trans (belowK_b (w := w) (Nat.le_refl _) W D _ _ (by simp at hD; omega) hK rfl rfl)⟩
    simp [results, Tryz.f167, go_sem, hc5]

theorem keyed_any (oid ver : Int) (nm : ByteArray) (id : Int) (cols : List Col) (a : Option Addr) (cap : Nat) (w : World) (hl : Sl w (.slice a cols.length cap) 3 (cols.map Col.cells)) (hlen : cols.length ≤ 1000) :
    Calls Tryz.prog 167 #[.agg #[.int .u32 oid, .int .u32 ver, .string nm, .int .u8 id, .slice a cols.length cap]] w fun e w' => e = .returned (.bool (cols.any Col.key)) ∧ Ext w w' :=
  callsIn_wide.1 (keyed_in Fence.wide 3 trivial trivial trivial rfl (Nat.le_refl _) oid ver nm id cols a cap w hl hlen)

end Go.Proofs.YtlobghojjfkchaaGreat

/-
What is wrong with a relation, the program's answer.
-/
namespace Go.Proofs.YtlobghojjfkchaaGreat
open Go.RowKit

theorem Sl.take {w : World} {a : Option Addr} {n cap k : Nat} {xss : List (List Value)} (h : Sl w (.slice a n cap) k xss) {i : Nat} (hi : i ≤ xss.length) : Sl w (.slice a i cap) k (xss.take i) := by
  obtain ⟨a', cap', hv, hs⟩ := h
  simp only [Value.slice.injEq] at hv
  obtain ⟨rfl, -, rfl⟩ := hv
  have hl : (xss.take i).length = i := by rw [List.length_take]; omega
  refine ⟨a, cap, by rw [hl], ?_⟩
  rcases hs with rfl | ⟨b, o, rfl, hb, hc⟩
  · left; simp
  · refine .inr ⟨b, o, rfl, hb, fun j hj q hq => ?_⟩
    rw [hl] at hj
    rw [hc j (by omega) q hq]
    simp [hj]

/-- The body's verdicts, in the order of the text. -/
theorem Rl.right_cols {r : Rl} (h1 : r.oid ≠ 0) (h2 : r.ver ≠ 0) (h3 : namedB r.nm = true) (h4 : r.id ≤ 2) (h5 : 1 ≤ r.cols.length) (h6 : r.cols.length ≤ 16) :
    r.right = if firstE (colAt r.cols) r.cols.length ≠ 0 then firstE (colAt r.cols) r.cols.length else if r.id = 1 ∧ r.cols.any Col.key = false then 13 else 0 := by
  unfold Rl.right
  rw [if_neg (by omega), if_neg (by rw [h3]; simp), if_neg (by omega), if_neg (by omega)]

set_option maxRecDepth 100000 in set_option maxHeartbeats 4000000 in
theorem right8_any (oid ver : Int) (nm : ByteArray) (id : Int) (cols : List Col) (a : Option Addr) (cap : Nat) (w : World) (hl : Sl w (.slice a cols.length cap) 3 (cols.map Col.cells)) (hcap : cols.length ≤ cap) (hlen : cols.length ≤ 1000)
    (hnm : nm.size ≤ 9223372036854775807) (hcs : ∀ c ∈ cols, c.nm.size ≤ 9223372036854775807) :
    Calls Tryz.prog 130 #[.agg #[.int .u32 oid, .int .u32 ver, .string nm, .int .u8 id, .slice a cols.length cap]] w fun e w' => e = .returned (.int .i64 (⟨oid, ver, nm, id, cols⟩ : Rl).right) ∧ Ext w w' := by
  have HN := Hid.mk' (fun w => named_any nm w hnm)
  have HK := Hid.mk' (fun W (h : Ext w W) => keyed_any oid ver nm id cols a cap W (hl.ext h) hlen)
  have HL := Hid.mk' hl
  have HCS := Hid.mk' hcs
  clear hl hcs
  by_cases h1 : oid = 0
  · have HR := Hid.mk' (show (⟨oid, ver, nm, id, cols⟩ : Rl).right = 4 by unfold Rl.right; rw [if_pos (.inl h1)])
    have e1 : (oid == 0) = true := by simpa using h1
    clear h1
    go_enter Tryz.func130, Tryz.ntmps130
    go_wp2
    go_ret
    exact ⟨ret_int HR.out.symm, by exact eX⟩
  have e1 : (oid == 0) = false := by simpa using h1
  by_cases h2 : ver = 0
  · have HR := Hid.mk' (show (⟨oid, ver, nm, id, cols⟩ : Rl).right = 4 by unfold Rl.right; rw [if_pos (.inr h2)])
    have e2 : (ver == 0) = true := by simpa using h2
    clear h2 h1
    go_enter Tryz.func130, Tryz.ntmps130
    go_wp2
    go_ret
    exact ⟨ret_int HR.out.symm, by exact eX⟩
  have e2 : (ver == 0) = false := by simpa using h2
  cases h3 : namedB nm with
  | false =>
    have HR := Hid.mk' (show (⟨oid, ver, nm, id, cols⟩ : Rl).right = 3 by unfold Rl.right; rw [if_neg (by simp only; omega), if_pos h3])
    rw [h3] at HN
    clear h3 h2 h1
    go_enter Tryz.func130, Tryz.ntmps130
    go_wp2_with (go_at_call 165; refine (HN.out _).mono ?_; rintro e w1 ⟨rfl, rfl⟩)
    go_ret
    exact ⟨ret_int HR.out.symm, by exact eX⟩
  | true =>
  by_cases h4 : 2 < id
  · have HR := Hid.mk' (show (⟨oid, ver, nm, id, cols⟩ : Rl).right = 7 by unfold Rl.right; rw [if_neg (by simp only; omega), if_neg (by simp only [h3]; simp), if_pos h4])
    rw [h3] at HN
    clear h3 h2 h1
    go_enter Tryz.func130, Tryz.ntmps130
    go_wp2_with (go_at_call 165; refine (HN.out _).mono ?_; rintro e w1 ⟨rfl, rfl⟩)
    go_ret
    exact ⟨ret_int HR.out.symm, by exact eX⟩
  by_cases h5 : cols.length < 1
  · have HR := Hid.mk' (show (⟨oid, ver, nm, id, cols⟩ : Rl).right = 17 by unfold Rl.right; rw [if_neg (by simp only; omega), if_neg (by simp only [h3]; simp), if_neg (by simp only; omega), if_pos (.inl h5)])
    have h4' : id ≤ 2 := by omega
    rw [h3] at HN
    clear h3 h2 h1
    go_enter Tryz.func130, Tryz.ntmps130
    go_wp2_with (go_at_call 165; refine (HN.out _).mono ?_; rintro e w1 ⟨rfl, rfl⟩)
    go_ret
    exact ⟨ret_int HR.out.symm, by exact eX⟩
  by_cases h6 : 16 < cols.length
  · have HR := Hid.mk' (show (⟨oid, ver, nm, id, cols⟩ : Rl).right = 17 by unfold Rl.right; rw [if_neg (by simp only; omega), if_neg (by simp only [h3]; simp), if_neg (by simp only; omega), if_pos (.inr h6)])
    have h4' : id ≤ 2 := by omega
    have h5' : 1 ≤ cols.length := by omega
    rw [h3] at HN
    clear h3 h2 h1
    go_enter Tryz.func130, Tryz.ntmps130
    go_wp2_with (go_at_call 165; refine (HN.out _).mono ?_; rintro e w1 ⟨rfl, rfl⟩)
    go_ret
    exact ⟨ret_int HR.out.symm, by exact eX⟩
  have HR := Hid.mk' (Rl.right_cols (r := (⟨oid, ver, nm, id, cols⟩ : Rl)) h1 h2 h3 (by simp only; omega) (by simp only; omega) (by simp only; omega))
  simp only at HR
  rw [h3] at HN
  have h4' : id ≤ 2 := by omega
  have h5' : 1 ≤ cols.length := by omega
  have h6' : cols.length ≤ 16 := by omega
  clear h3 h2 h1 h4 h5 h6
  go_enter Tryz.func130, Tryz.ntmps130
  go_wp2_with (go_at_call 165; refine (HN.out _).mono ?_; rintro e w1 ⟨rfl, rfl⟩)
  go_loopw [40] (fun i wr => ∃ k : Nat, k ≤ cols.length ∧ i = .int .i64 k ∧ Hid (∀ j, j < k → colAt cols j = 0) ∧ Hid (Ext (w.alloc (.cells #[.int .u32 oid, .int .u32 ver, .string nm, .int .u8 id, .slice a cols.length cap] 112)) wr)) (fun i _ => cols.length - (intOf i).toNat)
  case atStart => exact ⟨0, Nat.zero_le _, rfl, fun j h => by omega, Ext.refl _⟩
  case round =>
    obtain ⟨k, hk, rfl, hrel, hE⟩ := hrel
    have hBx := (Blk.new w #[.int .u32 oid, .int .u32 ver, .string nm, .int .u8 id, .slice a cols.length cap] 112).ext hE.out
    have g0 := hBx.cell
    have z0 := hBx.lt
    clear hBx
    by_cases hlt : k < cols.length
    · obtain ⟨b, o, rfl, hb, hx⟩ := HL.out.at_ (i := k) (by simpa using hlt)
      have hEw : Hid (Ext w wr) := Hid.mk' (((Ext.refl w).alloc _).trans hE.out)
      obtain ⟨f0, f1, f2⟩ := Col.at_ hlt hx hb hEw.out
      have hbw : b < wr.heap.size := Nat.lt_of_lt_of_le hb hEw.out.size
      have HF := Hid.mk' (fun W (h : Ext wr W) => column_any cols[k] (cols.take k) (some ⟨b, o, none⟩) k cap W (by rw [List.length_take]; omega) (by have := (HL.out.ext (hEw.out.trans h)).take (i := k) (by rw [List.length_map]; omega); rwa [← List.map_take] at this) (by rw [List.length_take]; omega) (HCS.out _ (List.getElem_mem hlt)))
      have hAt := colAt_lt hlt
      have q1 : (0 : Int) ≤ (k : Int) := by omega
      have q2 : (k : Int) ≤ (cap : Int) := by omega
      obtain ⟨E, hE0⟩ : ∃ E, E = colE cols[k] (cols.take k) := ⟨_, rfl⟩
      rw [← hE0] at HF hAt
      have HAt := Hid.mk' hAt
      clear hx hAt hE0
      by_cases h0 : E = 0
      · subst h0
        go_wp2
        go_region_held3 (fun w' => Ext (wr.alloc (.cells #[.string cols[k].nm, .int .u8 cols[k].ty, .bool cols[k].key] 130)) w' ∧ (∀ b o, b < (wr.alloc (.cells #[.string cols[k].nm, .int .u8 cols[k].ty, .bool cols[k].key] 130)).heap.size → w'.cell? ⟨b, o, none⟩ = (wr.alloc (.cells #[.string cols[k].nm, .int .u8 cols[k].ty, .bool cols[k].key] 130)).cell? ⟨b, o, none⟩) ∧ (∀ b o, b < (wr.alloc (.cells #[.string cols[k].nm, .int .u8 cols[k].ty, .bool cols[k].key] 130)).heap.size → w'.frozen? ⟨b, o, none⟩ = (wr.alloc (.cells #[.string cols[k].nm, .int .u8 cols[k].ty, .bool cols[k].key] 130)).frozen? ⟨b, o, none⟩)) ((exact held_of (by exact eX)))
          (first
            | (go_at_call 166; refine (HF.out _ (by exact eX)).mono ?_; rintro e w2 ⟨rfl, hb2⟩))
        go_wp2
        go_roundw
        case rel => exact ⟨k + 1, by omega, by go_num, fun j hj => by
          by_cases e : j = k
          · subst e; exact HAt.out
          · exact hrel.out j (by omega), Hid.mk' (hE.out.trans (by exact eX))⟩
        case measure => simp [intOf]; omega
      · have h0' : (E != 0) = true := by simpa using h0
        have HR2 := Hid.mk' (show (⟨oid, ver, nm, id, cols⟩ : Rl).right = E by rw [HR.out, firstE_at hrel.out hlt (by rw [HAt.out]; exact h0), HAt.out, if_pos h0])
        clear h0
        go_wp2
        go_region_held3 (fun w' => Ext (wr.alloc (.cells #[.string cols[k].nm, .int .u8 cols[k].ty, .bool cols[k].key] 130)) w' ∧ (∀ b o, b < (wr.alloc (.cells #[.string cols[k].nm, .int .u8 cols[k].ty, .bool cols[k].key] 130)).heap.size → w'.cell? ⟨b, o, none⟩ = (wr.alloc (.cells #[.string cols[k].nm, .int .u8 cols[k].ty, .bool cols[k].key] 130)).cell? ⟨b, o, none⟩) ∧ (∀ b o, b < (wr.alloc (.cells #[.string cols[k].nm, .int .u8 cols[k].ty, .bool cols[k].key] 130)).heap.size → w'.frozen? ⟨b, o, none⟩ = (wr.alloc (.cells #[.string cols[k].nm, .int .u8 cols[k].ty, .bool cols[k].key] 130)).frozen? ⟨b, o, none⟩)) ((exact held_of (by exact eX)))
          (first
            | (go_at_call 166; refine (HF.out _ (by exact eX)).mono ?_; rintro e w2 ⟨rfl, hb2⟩))
        go_wp2
        go_ret
        exact ⟨ret_int HR2.out.symm, hEw.out.trans (by exact eX)⟩
    · have hkk : k = cols.length := by omega
      have hEw : Hid (Ext w wr) := Hid.mk' (((Ext.refl w).alloc _).trans hE.out)
      have HR2 := Hid.mk' (show (⟨oid, ver, nm, id, cols⟩ : Rl).right = if id = 1 ∧ cols.any Col.key = false then 13 else 0 by rw [HR.out, firstE_zero (fun i hi => hrel.out i (by omega)), if_neg (by simp)])
      subst hkk
      clear hrel HR
      by_cases h7 : id = 1
      · subst h7
        cases h8 : cols.any Col.key with
        | false =>
          rw [h8] at HK HR2
          clear h8
          go_wp2_with (go_at_call 167; refine (HK.out _ hEw.out).mono ?_; rintro e w2 ⟨rfl, hb2⟩)
          go_ret
          exact ⟨ret_int (by rw [HR2.out]; simp), hEw.out.trans (by exact eX)⟩
        | true =>
          rw [h8] at HK HR2
          clear h8
          go_wp2_with (go_at_call 167; refine (HK.out _ hEw.out).mono ?_; rintro e w2 ⟨rfl, hb2⟩)
          go_ret
          exact ⟨ret_int (by rw [HR2.out]; simp), hEw.out.trans (by exact eX)⟩
      · have e7 : (id == 1) = false := by simpa using h7
        have HR3 := Hid.mk' (HR2.out.trans (if_neg (fun h => h7 h.1)))
        clear h7 HR2
        go_wp2
        go_ret
        exact ⟨ret_int HR3.out.symm, hEw.out⟩

end Go.Proofs.YtlobghojjfkchaaGreat

/-
The laws' Own of a relation of any number of columns; what is wrong with one of any number.
-/
namespace Go.Proofs.YtlobghojjfkchaaGreat
open Go.RowKit

theorem owns_base {w : World} {base base2 : Nat} {e : TypeId} {size n : Nat} {v : Value} {xs : List Value} (h : w.ownsRow base e size v n xs) (hb : base2 ≤ base) : w.ownsRow base2 e size v n xs := by
  obtain ⟨h1, h2⟩ := h
  refine ⟨h1, h2.imp id ?_⟩
  rintro ⟨g, cap, cur, hv, hg, hr⟩
  exact ⟨g, cap, cur, hv, by omega, hr⟩

set_option maxRecDepth 100000 in set_option maxHeartbeats 1600000 in
theorem own8_big (oid ver : Int) (nm : ByteArray) (id : Int) (cols : List Col) (a : Option Addr) (cap : Nat) (w : World) (hl : Sl w (.slice a cols.length cap) 3 (cols.map Col.cells)) (hlen : cols.length ≤ 5864062014634) :
    Calls Tryz.prog 88 #[.agg #[.int .u32 oid, .int .u32 ver, .string nm, .int .u8 id, .slice a cols.length cap]] w fun e w' => ∃ a' cap', e = .returned (.agg #[.int .u32 oid, .int .u32 ver, .string nm, .int .u8 id, .slice a' cols.length cap']) ∧ cols.length ≤ cap' ∧ w'.ownsRow w.heap.size 130 3 (.slice a' cols.length cap') cols.length (cols.map Col.cells).flatten ∧ Ext w w' := by
  have HL := Hid.mk' hl
  clear hl
  obtain ⟨i0, hi, hz0, hz1, hz2⟩ := info_parts Tryz.infoCol
  go_enter Tryz.func88, Tryz.ntmps88
  go_wp2
  go_loopw [4] (fun i wr => ∃ (k : Nat) (v : Value), k ≤ cols.length ∧ i = .int .i64 k ∧ Hid (wr.ownsRow (w.heap.size + 3) 130 3 v k ((cols.map Col.cells).take k).flatten) ∧ Blk wr w.heap.size #[.int .u32 oid, .int .u32 ver, .string nm, .int .u8 id, .slice a cols.length cap] 101 ∧ Blk wr (w.heap.size + 1) #[.int .u32 0, .int .u32 0, .string ⟨#[]⟩, .int .u8 0, .slice none 0 0] 112 ∧ Blk wr (w.heap.size + 1 + 1) #[.int .u32 oid, .int .u32 ver, .string nm, .int .u8 id, v] 112 ∧ Hid (Ext w wr)) (fun i _ => cols.length - (intOf i).toNat)
  case atStart => exact ⟨0, .slice none 0 0, Nat.zero_le _, rfl, World.ownsRow_nil _ _ _ _, ((Blk.new _ _ _).alloc _).alloc _, (Blk.new' _ _ (by simp)).alloc _, Blk.new' _ _ (by simp), Hid.mk' (by exact eX)⟩
  case round =>
    obtain ⟨k, v, hk, rfl, hown, hB0, hB1, hB2, hE⟩ := hrel
    by_cases hlt : k < cols.length
    · obtain ⟨b, o, rfl, hb, hc⟩ := HL.out.at_ (i := k) (by simpa using hlt)
      obtain ⟨f0, f1, f2⟩ := Col.at_ hlt hc hb hE.out
      have hT := Hid.mk' (flat_snoc (f := Col.cells) hlt)
      obtain ⟨c, hcc⟩ : ∃ c, c = cols[k] := ⟨_, rfl⟩
      rw [← hcc] at f0 f1 f2 hT
      have hbw : b < wr.heap.size := Nat.lt_of_lt_of_le hb hE.out.size
      have HC := Hid.mk' hcc
      clear hcc hc
      have g0 := hB0.cell
      have g2 := hB2.cell
      have z0 := hB0.lt
      have z1 := hB1.lt
      have z2 := hB2.lt
      have HB0 := Hid.mk' hB0
      have HB1 := Hid.mk' hB1
      have HB2 := Hid.mk' hB2
      clear hB0 hB1 hB2
      go_wp2
      refine wp_region_head 22 (fun w' => Ext (wr) w' ∧ (∀ b o, b < (wr).heap.size → w'.cell? ⟨b, o, none⟩ = (wr).cell? ⟨b, o, none⟩) ∧ (∀ b o, b < (wr).heap.size → w'.frozen? ⟨b, o, none⟩ = (wr).frozen? ⟨b, o, none⟩)) (by kernel_rfl) (by decide) ?_
      have hA0 : Hid ((fun w' => Ext (wr) w' ∧ (∀ b o, b < (wr).heap.size → w'.cell? ⟨b, o, none⟩ = (wr).cell? ⟨b, o, none⟩) ∧ (∀ b o, b < (wr).heap.size → w'.frozen? ⟨b, o, none⟩ = (wr).frozen? ⟨b, o, none⟩)) wr.drew) := held_of (by exact eX)
      (refine wpHd_take (i := 0) (v := ?_) rfl (by kernel_rfl) (by kernel_rfl) (by kernel_rfl) (fun _ _ _ h => h) (Or.inl ⟨by rfl, ?_⟩) hA0.out ?_; rotate_left 1; · (intro w' hS'; (obtain ⟨hEs', hcs', hfs'⟩ := hS'); go_simp; try with_reducible rfl))
      (refine wpHd_take (i := 1) (v := ?_) rfl (by kernel_rfl) (by kernel_rfl) (by kernel_rfl) (fun _ _ _ h => h) (Or.inl ⟨by rfl, ?_⟩) hA0.out ?_; rotate_left 1; · (intro w' hS'; (obtain ⟨hEs', hcs', hfs'⟩ := hS'); go_simp; try with_reducible rfl))
      (refine wpHd_take (i := 2) (v := ?_) rfl (by kernel_rfl) (by kernel_rfl) (by kernel_rfl) (fun _ _ _ h => h) (Or.inl ⟨by rfl, ?_⟩) hA0.out ?_; rotate_left 1; · (intro w' hS'; (obtain ⟨hEs', hcs', hfs'⟩ := hS'); go_simp; try with_reducible rfl))
      (refine wpHd_take (i := 3) (v := ?_) rfl (by kernel_rfl) (by kernel_rfl) (by kernel_rfl) (fun _ _ _ h => h) (Or.inl ⟨by rfl, ?_⟩) hA0.out ?_; rotate_left 1; · (intro w' hS'; (obtain ⟨hEs', hcs', hfs'⟩ := hS'); go_simp; try with_reducible rfl))
      (refine wpHd_take (i := 4) (v := ?_) rfl (by kernel_rfl) (by kernel_rfl) (by kernel_rfl) (fun _ _ _ h => h) (Or.inl ⟨by rfl, ?_⟩) hA0.out ?_; rotate_left 1; · (intro w' hS'; (obtain ⟨hEs', hcs', hfs'⟩ := hS'); go_simp; try with_reducible rfl))
      (refine wpHd_take (i := 5) (v := ?_) rfl (by kernel_rfl) (by kernel_rfl) (by kernel_rfl) (fun _ _ _ h => h) (Or.inl ⟨by rfl, ?_⟩) hA0.out ?_; rotate_left 1; · (intro w' hS'; (obtain ⟨hEs', hcs', hfs'⟩ := hS'); go_simp; try with_reducible rfl))
      (refine wpHd_take (i := 6) (v := ?_) rfl (by kernel_rfl) (by kernel_rfl) (by kernel_rfl) (fun _ _ _ h => h) (Or.inl ⟨by rfl, ?_⟩) hA0.out ?_; rotate_left 1; · (intro w' hS'; (obtain ⟨hEs', hcs', hfs'⟩ := hS'); go_simp; try with_reducible rfl))
      (refine wpHd_take (i := 7) (v := ?_) rfl (by kernel_rfl) (by kernel_rfl) (by kernel_rfl) (fun _ _ _ h => h) (Or.inl ⟨by rfl, ?_⟩) hA0.out ?_; rotate_left 1; · (intro w' hS'; (obtain ⟨hEs', hcs', hfs'⟩ := hS'); go_simp; try with_reducible rfl))
      (refine wpHd_take (i := 8) (v := ?_) rfl (by kernel_rfl) (by kernel_rfl) (by kernel_rfl) (fun _ _ _ h => h) (Or.inl ⟨by rfl, ?_⟩) hA0.out ?_; rotate_left 1; · (intro w' hS'; (obtain ⟨hEs', hcs', hfs'⟩ := hS'); go_simp; try with_reducible rfl))
      (refine wpHd_take (i := 9) (v := ?_) rfl (by kernel_rfl) (by kernel_rfl) (by kernel_rfl) (fun _ _ _ h => h) (Or.inl ⟨by rfl, ?_⟩) hA0.out ?_; rotate_left 1; · (intro w' hS'; (obtain ⟨hEs', hcs', hfs'⟩ := hS'); go_simp; try with_reducible rfl))
      (refine wpHd_take (i := 10) (v := ?_) rfl (by kernel_rfl) (by kernel_rfl) (by kernel_rfl) (fun _ _ _ h => h) (Or.inl ⟨by rfl, ?_⟩) hA0.out ?_; rotate_left 1; · (intro w' hS'; (obtain ⟨hEs', hcs', hfs'⟩ := hS'); go_simp; try with_reducible rfl))
      (refine wpHd_take (i := 11) (v := ?_) rfl (by kernel_rfl) (by kernel_rfl) (by kernel_rfl) (fun _ _ _ h => h) (Or.inl ⟨by rfl, ?_⟩) hA0.out ?_; rotate_left 1; · (intro w' hS'; (obtain ⟨hEs', hcs', hfs'⟩ := hS'); go_simp; try with_reducible rfl))
      (refine wpHd_take (i := 12) (v := ?_) rfl (by kernel_rfl) (by kernel_rfl) (by kernel_rfl) (fun _ _ _ h => h) (Or.inl ⟨by rfl, ?_⟩) hA0.out ?_; rotate_left 1; · (intro w' hS'; (obtain ⟨hEs', hcs', hfs'⟩ := hS'); go_simp; try with_reducible rfl))
      (refine wpHd_take (i := 13) (v := ?_) rfl (by kernel_rfl) (by kernel_rfl) (by kernel_rfl) (fun _ _ _ h => h) (Or.inl ⟨by rfl, ?_⟩) hA0.out ?_; rotate_left 1; · (intro w' hS'; (obtain ⟨hEs', hcs', hfs'⟩ := hS'); go_simp; try with_reducible rfl))
      (refine wpHd_take (i := 14) (v := ?_) rfl (by kernel_rfl) (by kernel_rfl) (by kernel_rfl) (fun _ _ _ h => h) (Or.inl ⟨by rfl, ?_⟩) hA0.out ?_; rotate_left 1; · (intro w' hS'; (obtain ⟨hEs', hcs', hfs'⟩ := hS'); go_simp; try with_reducible rfl))
      (refine wpHd_take (i := 15) (v := ?_) rfl (by kernel_rfl) (by kernel_rfl) (by kernel_rfl) (fun _ _ _ h => h) (Or.inl ⟨by rfl, ?_⟩) hA0.out ?_; rotate_left 1; · (intro w' hS'; (obtain ⟨hEs', hcs', hfs'⟩ := hS'); go_simp; try with_reducible rfl))
      (refine wpHd_take (i := 16) (v := ?_) rfl (by kernel_rfl) (by kernel_rfl) (by kernel_rfl) (fun _ _ _ h => h) (Or.inl ⟨by rfl, ?_⟩) hA0.out ?_; rotate_left 1; · (intro w' hS'; (obtain ⟨hEs', hcs', hfs'⟩ := hS'); go_simp; try with_reducible rfl))
      (refine wpHd_take (i := 17) (v := ?_) rfl (by kernel_rfl) (by kernel_rfl) (by kernel_rfl) (fun _ _ _ h => h) (Or.inl ⟨by rfl, ?_⟩) hA0.out ?_; rotate_left 1; · (intro w' hS'; (obtain ⟨hEs', hcs', hfs'⟩ := hS'); go_simp; try with_reducible rfl))
      (refine wpHd_take (i := 18) (v := ?_) rfl (by kernel_rfl) (by kernel_rfl) (by kernel_rfl) (fun _ _ _ h => h) (Or.inl ⟨by rfl, ?_⟩) hA0.out ?_; rotate_left 1; · (intro w' hS'; (obtain ⟨hEs', hcs', hfs'⟩ := hS'); go_simp; try with_reducible rfl))
      (refine wpHd_take (i := 19) (v := ?_) rfl (by kernel_rfl) (by kernel_rfl) (by kernel_rfl) (fun _ _ _ h => h) (Or.inl ⟨by rfl, ?_⟩) hA0.out ?_; rotate_left 1; · (intro w' hS'; (obtain ⟨hEs', hcs', hfs'⟩ := hS'); go_simp; try with_reducible rfl))
      (refine wpHd_take (i := 20) (v := ?_) rfl (by kernel_rfl) (by kernel_rfl) (by kernel_rfl) (fun _ _ _ h => h) (Or.inl ⟨by rfl, ?_⟩) hA0.out ?_; rotate_left 1; · (intro w' hS'; (obtain ⟨hEs', hcs', hfs'⟩ := hS'); go_simp; try with_reducible rfl))
      refine wpHd_one (i := 21) rfl rfl (by kernel_rfl) (fun K hK => ?_)
      go_simp
      refine hK.out _ _ (held_of (by exact eX)) (fun hA => ?_)
      clear hK K hA hA0
      refine wpHd_tail (by kernel_rfl) ?_
      simp only [List.drop_succ_cons, List.drop_zero]
      have hob := owns_ne hown.out (show w.heap.size + 1 + 1 < w.heap.size + 3 by omega)
      go_wp2_with (at_builtin; refine wpList_append_lies _ rfl _ _ 110 rfl (w.heap.size + 3) 130 i0 _ 3 24 Tryz.underlying110 hi hz0 hz1 hz2 rfl (by decide) _ _ _ rfl (owns_ext hown.out (by exact eX)) ⟨_, 0, none⟩ 1 1 c.cells rfl rfl ?c1 ?c2 (by decide) ?c3 ?c4 ?c5 _ rfl ?_)
      case c1 => exact cells_new _ #[.string c.nm, .int .u8 c.ty, .bool c.key] _
      case c2 => intro u hu; simp [Col.cells] at hu; rcases hu with rfl | rfl | rfl <;> rfl
      case c3 => unfold maxLen; omega
      case c4 => omega
      case c5 => simp; omega
      intro g' cap' w2 hown' hgrow _ _
      have hE1 : Ext wr (wr.drew.alloc (.cells #[.string c.nm, .int .u8 c.ty, .bool c.key] 130)) := by exact eX
      have HE2 : Hid (Ext w w2) := Hid.mk' (Below.grown (hE.out.trans hE1) hgrow (hE.out.trans hE1).size (fun g hg => by have := (hown.out.lt g hg).1; omega))
      have hsz2 := hgrow.size
      have HB0' := Hid.mk' ((HB0.out.ext hE1).grown hgrow (owns_ne hown.out (by omega)))
      have HB1' := Hid.mk' ((HB1.out.ext hE1).grown hgrow (owns_ne hown.out (by omega)))
      have hB2' := (HB2.out.ext hE1).grown hgrow hob
      have g2' := hB2'.cell
      have g2f := hB2'.frozen
      have z2' := hB2'.lt
      have HB2' := Hid.mk' hB2'
      have HO := Hid.mk' hown'
      clear hB2' hown' hgrow hE1 hob
      go_wp2
      go_roundw
      case rel => exact ⟨k + 1, _, by omega, by go_num, Hid.mk' (by rw [hT.out]; exact owns_set (p := ⟨w.heap.size + 1 + 1, 4, none⟩) HO.out (by show w.heap.size + 1 + 1 < _; omega) _), HB0'.out.other _ _ (by show w.heap.size ≠ w.heap.size + 1 + 1; omega), HB1'.out.other _ _ (by show w.heap.size + 1 ≠ w.heap.size + 1 + 1; omega), HB2'.out.set 4 _, Hid.mk' (HE2.out.setCell (by simp; omega) _)⟩
      case measure => simp [intOf]; omega
    · have hkk : k = cols.length := by omega
      subst hkk
      rw [show cols.length = (cols.map Col.cells).length by simp, List.take_length] at hown
      rw [List.length_map] at hown
      obtain ⟨a', c', rfl⟩ := owns_shape hown.out
      have g0 := hB0.cell
      have z0 := hB0.lt
      have g1 := hB1.cell
      have g1f := hB1.frozen
      have g2 := hB2.cell
      have z1 := hB1.lt
      have z2 := hB2.lt
      clear hB0 hB1 hB2
      go_wp2
      simp [bodyPost, results, Tryz.results88, go_sem, *]
      refine ⟨_, _, ⟨rfl, rfl⟩, owns_cap hown.out, owns_base (base := w.heap.size + 3) ?_ (by omega), ?_⟩
      · have hown := hown.out
        repeat (with_reducible (first | exact hown | refine owns_set ?_ (by show w.heap.size + 1 < _; omega) _))
      · have hE := hE.out
        exact eX

set_option maxRecDepth 100000 in set_option maxHeartbeats 4000000 in
theorem right8_big (oid ver : Int) (nm : ByteArray) (id : Int) (cols : List Col) (a : Option Addr) (cap : Nat) (w : World) (hl : Sl w (.slice a cols.length cap) 3 (cols.map Col.cells)) (hcap : cols.length ≤ cap) (hlen : cols.length ≤ 9223372036854775807)
    (hnm : nm.size ≤ 9223372036854775807) (hcs : ∀ c ∈ cols, c.nm.size ≤ 9223372036854775807) :
    Calls Tryz.prog 130 #[.agg #[.int .u32 oid, .int .u32 ver, .string nm, .int .u8 id, .slice a cols.length cap]] w fun e w' => e = .returned (.int .i64 (⟨oid, ver, nm, id, cols⟩ : Rl).right) ∧ Ext w w' := by
  have HN := Hid.mk' (fun w => named_any nm w hnm)
  have HK0 := Hid.mk' (fun (hn : cols.length ≤ 1000) W (h : Ext w W) => keyed_any oid ver nm id cols a cap W (hl.ext h) hn)
  have HL := Hid.mk' hl
  have HCS := Hid.mk' hcs
  clear hl hcs
  by_cases h1 : oid = 0
  · have HR := Hid.mk' (show (⟨oid, ver, nm, id, cols⟩ : Rl).right = 4 by unfold Rl.right; rw [if_pos (.inl h1)])
    have e1 : (oid == 0) = true := by simpa using h1
    clear h1
    go_enter Tryz.func130, Tryz.ntmps130
    go_wp2
    go_ret
    exact ⟨ret_int HR.out.symm, by exact eX⟩
  have e1 : (oid == 0) = false := by simpa using h1
  by_cases h2 : ver = 0
  · have HR := Hid.mk' (show (⟨oid, ver, nm, id, cols⟩ : Rl).right = 4 by unfold Rl.right; rw [if_pos (.inr h2)])
    have e2 : (ver == 0) = true := by simpa using h2
    clear h2 h1
    go_enter Tryz.func130, Tryz.ntmps130
    go_wp2
    go_ret
    exact ⟨ret_int HR.out.symm, by exact eX⟩
  have e2 : (ver == 0) = false := by simpa using h2
  cases h3 : namedB nm with
  | false =>
    have HR := Hid.mk' (show (⟨oid, ver, nm, id, cols⟩ : Rl).right = 3 by unfold Rl.right; rw [if_neg (by simp only; omega), if_pos h3])
    rw [h3] at HN
    clear h3 h2 h1
    go_enter Tryz.func130, Tryz.ntmps130
    go_wp2_with (go_at_call 165; refine (HN.out _).mono ?_; rintro e w1 ⟨rfl, rfl⟩)
    go_ret
    exact ⟨ret_int HR.out.symm, by exact eX⟩
  | true =>
  by_cases h4 : 2 < id
  · have HR := Hid.mk' (show (⟨oid, ver, nm, id, cols⟩ : Rl).right = 7 by unfold Rl.right; rw [if_neg (by simp only; omega), if_neg (by simp only [h3]; simp), if_pos h4])
    rw [h3] at HN
    clear h3 h2 h1
    go_enter Tryz.func130, Tryz.ntmps130
    go_wp2_with (go_at_call 165; refine (HN.out _).mono ?_; rintro e w1 ⟨rfl, rfl⟩)
    go_ret
    exact ⟨ret_int HR.out.symm, by exact eX⟩
  by_cases h5 : cols.length < 1
  · have HR := Hid.mk' (show (⟨oid, ver, nm, id, cols⟩ : Rl).right = 17 by unfold Rl.right; rw [if_neg (by simp only; omega), if_neg (by simp only [h3]; simp), if_neg (by simp only; omega), if_pos (.inl h5)])
    have h4' : id ≤ 2 := by omega
    rw [h3] at HN
    clear h3 h2 h1
    go_enter Tryz.func130, Tryz.ntmps130
    go_wp2_with (go_at_call 165; refine (HN.out _).mono ?_; rintro e w1 ⟨rfl, rfl⟩)
    go_ret
    exact ⟨ret_int HR.out.symm, by exact eX⟩
  by_cases h6 : 16 < cols.length
  · have HR := Hid.mk' (show (⟨oid, ver, nm, id, cols⟩ : Rl).right = 17 by unfold Rl.right; rw [if_neg (by simp only; omega), if_neg (by simp only [h3]; simp), if_neg (by simp only; omega), if_pos (.inr h6)])
    have h4' : id ≤ 2 := by omega
    have h5' : 1 ≤ cols.length := by omega
    rw [h3] at HN
    clear h3 h2 h1
    go_enter Tryz.func130, Tryz.ntmps130
    go_wp2_with (go_at_call 165; refine (HN.out _).mono ?_; rintro e w1 ⟨rfl, rfl⟩)
    go_ret
    exact ⟨ret_int HR.out.symm, by exact eX⟩
  have hlen : cols.length ≤ 1000 := by omega
  have HK := Hid.mk' (HK0.out hlen)
  clear HK0
  have HR := Hid.mk' (Rl.right_cols (r := (⟨oid, ver, nm, id, cols⟩ : Rl)) h1 h2 h3 (by simp only; omega) (by simp only; omega) (by simp only; omega))
  simp only at HR
  rw [h3] at HN
  have h4' : id ≤ 2 := by omega
  have h5' : 1 ≤ cols.length := by omega
  have h6' : cols.length ≤ 16 := by omega
  clear h3 h2 h1 h4 h5 h6
  go_enter Tryz.func130, Tryz.ntmps130
  go_wp2_with (go_at_call 165; refine (HN.out _).mono ?_; rintro e w1 ⟨rfl, rfl⟩)
  go_loopw [40] (fun i wr => ∃ k : Nat, k ≤ cols.length ∧ i = .int .i64 k ∧ Hid (∀ j, j < k → colAt cols j = 0) ∧ Hid (Ext (w.alloc (.cells #[.int .u32 oid, .int .u32 ver, .string nm, .int .u8 id, .slice a cols.length cap] 112)) wr)) (fun i _ => cols.length - (intOf i).toNat)
  case atStart => exact ⟨0, Nat.zero_le _, rfl, fun j h => by omega, Ext.refl _⟩
  case round =>
    obtain ⟨k, hk, rfl, hrel, hE⟩ := hrel
    have hBx := (Blk.new w #[.int .u32 oid, .int .u32 ver, .string nm, .int .u8 id, .slice a cols.length cap] 112).ext hE.out
    have g0 := hBx.cell
    have z0 := hBx.lt
    clear hBx
    by_cases hlt : k < cols.length
    · obtain ⟨b, o, rfl, hb, hx⟩ := HL.out.at_ (i := k) (by simpa using hlt)
      have hEw : Hid (Ext w wr) := Hid.mk' (((Ext.refl w).alloc _).trans hE.out)
      obtain ⟨f0, f1, f2⟩ := Col.at_ hlt hx hb hEw.out
      have hbw : b < wr.heap.size := Nat.lt_of_lt_of_le hb hEw.out.size
      have HF := Hid.mk' (fun W (h : Ext wr W) => column_any cols[k] (cols.take k) (some ⟨b, o, none⟩) k cap W (by rw [List.length_take]; omega) (by have := (HL.out.ext (hEw.out.trans h)).take (i := k) (by rw [List.length_map]; omega); rwa [← List.map_take] at this) (by rw [List.length_take]; omega) (HCS.out _ (List.getElem_mem hlt)))
      have hAt := colAt_lt hlt
      have q1 : (0 : Int) ≤ (k : Int) := by omega
      have q2 : (k : Int) ≤ (cap : Int) := by omega
      obtain ⟨E, hE0⟩ : ∃ E, E = colE cols[k] (cols.take k) := ⟨_, rfl⟩
      rw [← hE0] at HF hAt
      have HAt := Hid.mk' hAt
      clear hx hAt hE0
      by_cases h0 : E = 0
      · subst h0
        go_wp2
        go_region_held3 (fun w' => Ext (wr.alloc (.cells #[.string cols[k].nm, .int .u8 cols[k].ty, .bool cols[k].key] 130)) w' ∧ (∀ b o, b < (wr.alloc (.cells #[.string cols[k].nm, .int .u8 cols[k].ty, .bool cols[k].key] 130)).heap.size → w'.cell? ⟨b, o, none⟩ = (wr.alloc (.cells #[.string cols[k].nm, .int .u8 cols[k].ty, .bool cols[k].key] 130)).cell? ⟨b, o, none⟩) ∧ (∀ b o, b < (wr.alloc (.cells #[.string cols[k].nm, .int .u8 cols[k].ty, .bool cols[k].key] 130)).heap.size → w'.frozen? ⟨b, o, none⟩ = (wr.alloc (.cells #[.string cols[k].nm, .int .u8 cols[k].ty, .bool cols[k].key] 130)).frozen? ⟨b, o, none⟩)) ((exact held_of (by exact eX)))
          (first
            | (go_at_call 166; refine (HF.out _ (by exact eX)).mono ?_; rintro e w2 ⟨rfl, hb2⟩))
        go_wp2
        go_roundw
        case rel => exact ⟨k + 1, by omega, by go_num, fun j hj => by
          by_cases e : j = k
          · subst e; exact HAt.out
          · exact hrel.out j (by omega), Hid.mk' (hE.out.trans (by exact eX))⟩
        case measure => simp [intOf]; omega
      · have h0' : (E != 0) = true := by simpa using h0
        have HR2 := Hid.mk' (show (⟨oid, ver, nm, id, cols⟩ : Rl).right = E by rw [HR.out, firstE_at hrel.out hlt (by rw [HAt.out]; exact h0), HAt.out, if_pos h0])
        clear h0
        go_wp2
        go_region_held3 (fun w' => Ext (wr.alloc (.cells #[.string cols[k].nm, .int .u8 cols[k].ty, .bool cols[k].key] 130)) w' ∧ (∀ b o, b < (wr.alloc (.cells #[.string cols[k].nm, .int .u8 cols[k].ty, .bool cols[k].key] 130)).heap.size → w'.cell? ⟨b, o, none⟩ = (wr.alloc (.cells #[.string cols[k].nm, .int .u8 cols[k].ty, .bool cols[k].key] 130)).cell? ⟨b, o, none⟩) ∧ (∀ b o, b < (wr.alloc (.cells #[.string cols[k].nm, .int .u8 cols[k].ty, .bool cols[k].key] 130)).heap.size → w'.frozen? ⟨b, o, none⟩ = (wr.alloc (.cells #[.string cols[k].nm, .int .u8 cols[k].ty, .bool cols[k].key] 130)).frozen? ⟨b, o, none⟩)) ((exact held_of (by exact eX)))
          (first
            | (go_at_call 166; refine (HF.out _ (by exact eX)).mono ?_; rintro e w2 ⟨rfl, hb2⟩))
        go_wp2
        go_ret
        exact ⟨ret_int HR2.out.symm, hEw.out.trans (by exact eX)⟩
    · have hkk : k = cols.length := by omega
      have hEw : Hid (Ext w wr) := Hid.mk' (((Ext.refl w).alloc _).trans hE.out)
      have HR2 := Hid.mk' (show (⟨oid, ver, nm, id, cols⟩ : Rl).right = if id = 1 ∧ cols.any Col.key = false then 13 else 0 by rw [HR.out, firstE_zero (fun i hi => hrel.out i (by omega)), if_neg (by simp)])
      subst hkk
      clear hrel HR
      by_cases h7 : id = 1
      · subst h7
        cases h8 : cols.any Col.key with
        | false =>
          rw [h8] at HK HR2
          clear h8
          go_wp2_with (go_at_call 167; refine (HK.out _ hEw.out).mono ?_; rintro e w2 ⟨rfl, hb2⟩)
          go_ret
          exact ⟨ret_int (by rw [HR2.out]; simp), hEw.out.trans (by exact eX)⟩
        | true =>
          rw [h8] at HK HR2
          clear h8
          go_wp2_with (go_at_call 167; refine (HK.out _ hEw.out).mono ?_; rintro e w2 ⟨rfl, hb2⟩)
          go_ret
          exact ⟨ret_int (by rw [HR2.out]; simp), hEw.out.trans (by exact eX)⟩
      · have e7 : (id == 1) = false := by simpa using h7
        have HR3 := Hid.mk' (HR2.out.trans (if_neg (fun h => h7 h.1)))
        clear h7 HR2
        go_wp2
        go_ret
        exact ⟨ret_int HR3.out.symm, hEw.out⟩

end Go.Proofs.YtlobghojjfkchaaGreat

/-
Events that lie somewhere, in rows; transactions.
-/
namespace Go.Proofs.YtlobghojjfkchaaGreat
open Go.RowKit

/-- An event that lies somewhere: its rows and its refs. -/
structure EL where
  e : Ev
  ba : Option Addr
  bc : Nat
  aa : Option Addr
  ac : Nat
  ra : Option Addr
  rc : Nat
def EL.vals (x : EL) : List Value := [.int .u8 x.e.kind, .int .u32 x.e.ao, .int .u32 x.e.av, .int .u8 x.e.old, .slice x.ba x.e.b.length x.bc, .slice x.aa x.e.a.length x.ac, .slice x.ra x.e.rs.length x.rc, .int .u8 x.e.fl]
def EL.agg (x : EL) : Value := .agg #[.int .u8 x.e.kind, .int .u32 x.e.ao, .int .u32 x.e.av, .int .u8 x.e.old, .slice x.ba x.e.b.length x.bc, .slice x.aa x.e.a.length x.ac, .slice x.ra x.e.rs.length x.rc, .int .u8 x.e.fl]
/-- A row of cells, n values each, f of each. -/
abbrev Kr (n : Nat) (f : K → List Value) (W : World) (a : Option Addr) (c : Nat) (l : List K) : Prop := Sl W (.slice a l.length c) n (l.map f)
/-- All that it has lies there. -/
structure EL.at (n : Nat) (f : K → List Value) (W : World) (x : EL) : Prop where
  b : Kr n f W x.ba x.bc x.e.b
  a : Kr n f W x.aa x.ac x.e.a
  r : Sl W (.slice x.ra x.e.rs.length x.rc) 2 (x.e.rs.map Rf.cells)
/-- Whatever it has lies in blocks of S. -/
structure EL.on (S : Nat → Prop) (x : EL) : Prop where
  b : x.e.b ≠ [] → ∀ b o, x.ba = some ⟨b, o, none⟩ → S b
  a : x.e.a ≠ [] → ∀ b o, x.aa = some ⟨b, o, none⟩ → S b
  r : x.e.rs ≠ [] → ∀ b o, x.ra = some ⟨b, o, none⟩ → S b
theorem map_ne {α β : Type} {f : α → β} {l : List α} (h : l.map f ≠ []) : l ≠ [] := fun e => h (by rw [e]; rfl)
theorem Sl.lt {W : World} {b n c k : Nat} {xss : List (List Value)} {o' : Nat} (h : Sl W (.slice (some ⟨b, o', none⟩) n c) k xss) (h0 : xss ≠ []) : b < W.heap.size := by
  obtain ⟨b2, o2, e, hb, -⟩ := h.at_ (i := 0) (List.length_pos_iff.2 h0)
  simp only [Option.some.injEq, Addr.mk.injEq] at e
  rw [e.1]; exact hb
section
variable {S T : Nat → Prop} {n : Nat} {f : K → List Value} {W W' : World} {x : EL}
theorem EL.on.mono (h : x.on S) (hs : ∀ b, S b → T b) : x.on T := ⟨fun h0 b o e => hs b (h.b h0 b o e), fun h0 b o e => hs b (h.a h0 b o e), fun h0 b o e => hs b (h.r h0 b o e)⟩
theorem EL.on.and (h : x.on S) (k : x.on T) : x.on (fun b => S b ∧ T b) := ⟨fun h0 b o e => ⟨h.b h0 b o e, k.b h0 b o e⟩, fun h0 b o e => ⟨h.a h0 b o e, k.a h0 b o e⟩, fun h0 b o e => ⟨h.r h0 b o e, k.r h0 b o e⟩⟩
theorem EL.at.ext (h : x.at n f W) (he : Ext W W') : x.at n f W' := ⟨h.b.ext he, h.a.ext he, h.r.ext he⟩
theorem EL.at.kp (h : x.at n f W) (hk : Kp S W W') (hs : x.on (fun b => ¬ S b)) : x.at n f W' := ⟨h.b.kp hk (fun h0 => hs.b (map_ne h0)), h.a.kp hk (fun h0 => hs.a (map_ne h0)), h.r.kp hk (fun h0 => hs.r (map_ne h0))⟩
theorem EL.at.lt (h : x.at n f W) : x.on (fun b => b < W.heap.size) :=
  ⟨fun h0 b o e => Sl.lt (by have := h.b; unfold Kr at this; rw [e] at this; exact this) (fun q => h0 (by simpa using q)), fun h0 b o e => Sl.lt (by have := h.a; unfold Kr at this; rw [e] at this; exact this) (fun q => h0 (by simpa using q)), fun h0 b o e => Sl.lt (by have := h.r; rw [e] at this; exact this) (fun q => h0 (by simpa using q))⟩
end

theorem EL.at_ {w wr : World} {b o : Nat} {l : List EL} {k : Nat} (hk : k < l.length) (hc : ∀ j, j < 8 → w.cell? ⟨b, o + k * 8 + j, none⟩ = ((l.map EL.vals).getD k [])[j]?) (hb : b < w.heap.size) (hE : Ext w wr) :
    wr.cell? ⟨b, o + k * 8, none⟩ = some (.int .u8 l[k].e.kind) ∧ wr.cell? ⟨b, o + k * 8 + 1, none⟩ = some (.int .u32 l[k].e.ao) ∧ wr.cell? ⟨b, o + k * 8 + 2, none⟩ = some (.int .u32 l[k].e.av) ∧ wr.cell? ⟨b, o + k * 8 + 3, none⟩ = some (.int .u8 l[k].e.old) ∧
      wr.cell? ⟨b, o + k * 8 + 4, none⟩ = some (.slice l[k].ba l[k].e.b.length l[k].bc) ∧ wr.cell? ⟨b, o + k * 8 + 5, none⟩ = some (.slice l[k].aa l[k].e.a.length l[k].ac) ∧ wr.cell? ⟨b, o + k * 8 + 6, none⟩ = some (.slice l[k].ra l[k].e.rs.length l[k].rc) ∧ wr.cell? ⟨b, o + k * 8 + 7, none⟩ = some (.int .u8 l[k].e.fl) := by
  rw [getD_map EL.vals l hk] at hc
  have c := hE.cells.1 b
  exact ⟨(c _ hb).trans (hc 0 (by omega)), (c _ hb).trans (hc 1 (by omega)), (c _ hb).trans (hc 2 (by omega)), (c _ hb).trans (hc 3 (by omega)), (c _ hb).trans (hc 4 (by omega)), (c _ hb).trans (hc 5 (by omega)), (c _ hb).trans (hc 6 (by omega)), (c _ hb).trans (hc 7 (by omega))⟩
theorem EL.len (l : List EL) : ∀ xs ∈ l.map EL.vals, xs.length = 8 := by
  intro xs hxs
  rw [List.mem_map] at hxs
  obtain ⟨p, _, rfl⟩ := hxs
  rfl
theorem EL.one (x : EL) : ∀ u ∈ x.vals, u.oneCell' = true := by
  intro u hu
  simp [EL.vals] at hu
  rcases hu with rfl | rfl | rfl | rfl | rfl | rfl | rfl | rfl <;> rfl

/-- Events in a row, all that they have lies there. -/
structure ES (n : Nat) (f : K → List Value) (W : World) (v : Value) (xs : List EL) : Prop where
  row : Sl W v 8 (xs.map EL.vals)
  sl : ∀ x ∈ xs, x.at n f W
section
variable {S T : Nat → Prop} {n : Nat} {f : K → List Value} {W W' : World} {xs : List EL} {v : Value}
theorem ES.ext (h : ES n f W v xs) (he : Ext W W') : ES n f W' v xs := ⟨h.row.ext he, fun x hx => (h.sl x hx).ext he⟩
theorem ES.kp {a : Option Addr} {m c : Nat} (h : ES n f W (.slice a m c) xs) (hk : Kp S W W') (hs : xs ≠ [] → ∀ b o, a = some ⟨b, o, none⟩ → ¬ S b) (hx : ∀ x ∈ xs, x.on (fun b => ¬ S b)) : ES n f W' (.slice a m c) xs :=
  ⟨h.row.kp hk (fun h0 => hs (map_ne h0)), fun x hm => (h.sl x hm).kp hk (hx x hm)⟩
end

/-- Events of the call's own, in a row of its own, all from N on. -/
structure OwnE (n : Nat) (f : K → List Value) (T : TypeId) (W : World) (N : Nat) (es : List Ev) (v : Value) (qs : List EL) : Prop where
  own : W.ownsRow N T 8 v qs.length (qs.map EL.vals).flatten
  e : qs.map EL.e = es
  sl : ∀ q ∈ qs, q.at n f W
  ne : ∀ q ∈ qs, q.on (fun b => N ≤ b ∧ v.ownBlock ≠ some b)
section
variable {S : Nat → Prop} {n : Nat} {f : K → List Value} {T : TypeId} {W W' : World} {N : Nat} {es : List Ev} {v v' : Value} {qs : List EL} {q : EL}
theorem OwnE.nil (W : World) (N : Nat) : OwnE n f T W N [] (.slice none 0 0) [] := ⟨World.ownsRow_nil _ _ _ _, rfl, (fun q h => by cases h), (fun q h => by cases h)⟩
theorem OwnE.len (h : OwnE n f T W N es v qs) : qs.length = es.length := by rw [← h.e, List.length_map]
theorem OwnE.kp (h : OwnE n f T W N es v qs) (hk : Kp S W W') (h1 : ∀ b, v.ownBlock = some b → ¬ S b) (h2 : ∀ q ∈ qs, q.on (fun b => ¬ S b)) : OwnE n f T W' N es v qs :=
  ⟨owns_kp h.own hk h1, h.e, fun q hq => (h.sl q hq).kp hk (h2 q hq), h.ne⟩
theorem OwnE.ext (h : OwnE n f T W N es v qs) (he : Ext W W') : OwnE n f T W' N es v qs :=
  ⟨owns_ext h.own he, h.e, fun q hq => (h.sl q hq).ext he, h.ne⟩
theorem OwnE.base (h : OwnE n f T W N es v qs) {M : Nat} (hm : M ≤ N) : OwnE n f T W M es v qs := ⟨owns_base h.own hm, h.e, h.sl, fun q hq => (h.ne q hq).mono (fun b hb => ⟨by omega, hb.2⟩)⟩
theorem OwnE.push (h : OwnE n f T W N es v qs) (hs : q.at n f W) (hn : q.on (fun b => N ≤ b ∧ v.ownBlock ≠ some b))
    (hg : W.grownBy W' v.ownBlock) (hat : v'.ownBlock = v.ownBlock ∨ v'.ownBlock = some W.heap.size) (ho : W'.ownsRow N T 8 v' (qs.length + 1) ((qs.map EL.vals).flatten ++ q.vals)) : OwnE n f T W' N (es ++ [q.e]) v' (qs ++ [q]) := by
  have hall : ∀ x ∈ qs ++ [q], x.at n f W ∧ x.on (fun b => N ≤ b ∧ v.ownBlock ≠ some b) := fun x hx => by
    rcases List.mem_append.1 hx with hx | hx
    · exact ⟨h.sl x hx, h.ne x hx⟩
    · obtain rfl : x = q := by simpa using hx
      exact ⟨hs, hn⟩
  refine ⟨by simpa using ho, by rw [List.map_append, h.e]; rfl, fun x hx => (hall x hx).1.kp (Kp.of_grown hg) ((hall x hx).2.mono (fun b hb => hb.2)), fun x hx => ((hall x hx).2.and (hall x hx).1.lt).mono (fun b hb => ⟨hb.1.1, ?_⟩)⟩
  rcases hat with h4 | h4
  · rw [h4]; exact hb.1.2
  · rw [h4]; intro h5; injection h5 with h5
    have := hb.2; omega
theorem OwnE.row (h : OwnE n f T W N es v qs) : ES n f W v qs := ⟨Sl.of_owns (base := N) (e := T) (by rw [List.length_map]; exact h.own) (EL.len qs), h.sl⟩
end

end Go.Proofs.YtlobghojjfkchaaGreat


/-
Whether two relations are the same, two lists of them: the program's, the reference's.
-/
namespace Go.Proofs.YtlobghojjfkchaaGreat
open Go.RowKit

end Go.Proofs.YtlobghojjfkchaaGreat

/-
slices.Clone of columns.
-/
namespace Go.Proofs.YtlobghojjfkchaaGreat
open Go.RowKit

theorem run_equalIn_slice_nil4 {P : Program} (w : World) (d : Nat) (t e : TypeId) (a : Option Addr) (l c : Nat) (h : P.underlying t = some (.slice e)) : (Op.equalIn (d + 1) t (.slice a l c) (.slice none 0 0)).run P w = .ok a.isNone w := by
  cases a <;> simp [Op.equalIn, run_underlying h]
@[go_sem] theorem run_eql_slice_nil4 {P : Program} (w : World) (t e : TypeId) (a : Option Addr) (l c : Nat) (h : P.underlying t = some (.slice e)) : (binOp .eql t (.slice a l c) (.slice none 0 0)).run P w = .ok (.bool a.isNone) w := by
  have e : (Op.equal t (.slice a l c) (.slice none 0 0)).run P w = .ok a.isNone w := by
    exact run_equalIn_slice_nil4 w 9999 t e a l c h
  simp [binOp, e]

theorem flatC_len (l : List Col) : (l.map Col.cells).flatten.length = l.length * 3 := by
  have := flat_length 3 (l.map Col.cells) (fun xs hxs => by simp at hxs; obtain ⟨c, _, rfl⟩ := hxs; rfl)
  rwa [List.length_map] at this
theorem news_col {w : World} {b o : Nat} {l : List Col} (h : ∀ i, i < l.length → ∀ j, j < 3 → w.cell? ⟨b, o + i * 3 + j, none⟩ = ((l.map Col.cells).getD i [])[j]?) : ∀ j u, ((l.map Col.cells).flatten)[j]? = some u → w.cell? ((⟨b, o, none⟩ : Addr).add j) = some u := by
  intro j u hj
  have hjl : j < l.length * 3 := by
    rcases Nat.lt_or_ge j (l.length * 3) with h | h
    · exact h
    · rw [List.getElem?_eq_none (by rw [flatC_len]; exact h)] at hj; cases hj
  have hplain : (⟨b, o, none⟩ : Addr).add j = ⟨b, o + j, none⟩ := by unfold Addr.add; split <;> simp_all
  have hi : j / 3 < l.length := by omega
  have hq := flat_get 3 (l.map Col.cells) (fun xs hxs => by simp at hxs; obtain ⟨c, _, rfl⟩ := hxs; rfl) (j / 3) (by simpa using hi) (j % 3) (Nat.mod_lt _ (by decide))
  have hm : j / 3 * 3 + j % 3 = j := by omega
  rw [hm] at hq
  rw [hplain, ← hj, hq, ← h (j / 3) hi (j % 3) (Nat.mod_lt _ (by decide)), Nat.add_assoc, hm]

set_option maxRecDepth 100000 in set_option maxHeartbeats 1600000 in
theorem clonec_any (l : List Col) (a : Option Addr) (cap : Nat) (w : World) (hl : Sl w (.slice a l.length cap) 3 (l.map Col.cells)) (hlen : l.length ≤ 1000) :
    Calls Tryz.prog 134 #[.slice a l.length cap] w fun e w' => ∃ a' cap', e = .returned (.slice a' l.length cap') ∧ w'.ownsRow w.heap.size 130 3 (.slice a' l.length cap') l.length ((l.map Col.cells).flatten) ∧ Ext w w' := by
  obtain ⟨i0, hi, hz0, hz1, hz2⟩ := info_parts Tryz.infoCol
  have HL := Hid.mk' hl
  clear hl
  cases a with
  | none =>
    have h0 : l = [] := by
      obtain ⟨a, c, hv, h⟩ := HL.out
      simp only [Value.slice.injEq] at hv
      rcases h with h | ⟨b, o, ha, _⟩
      · simpa using h
      · rw [← hv.1] at ha; cases ha
    obtain ⟨a, c, hv, -⟩ := HL.out
    subst h0
    clear HL hv
    go_enter Tryz.func134, Tryz.ntmps134
    go_wp2
    go_ret
    exact ⟨_, _, rfl, World.ownsRow_nil _ _ _ _, by exact eX⟩
  | some ad =>
    have hnews : ∀ j u, ((l.map Col.cells).flatten)[j]? = some u → (w.alloc (.cells #[] 130)).cell? (ad.add j) = some u := by
      obtain ⟨a, c, hv, h⟩ := HL.out
      simp only [Value.slice.injEq] at hv
      obtain ⟨rfl, -, -⟩ := hv
      rcases h with h | ⟨b, o, ha, hb, hc⟩
      · have h0 : l = [] := by simpa using h
        subst h0; intro j u hj; simp at hj
      · cases ha
        refine news_col fun i hi j hj => ?_
        have hE : Ext w (w.alloc (.cells #[] 130)) := (Ext.refl w).alloc _
        rw [hE.cells.1 b _ hb]
        exact hc i (by simpa using hi) j hj
    have HN := Hid.mk' hnews
    clear HL hnews
    go_enter Tryz.func134, Tryz.ntmps134
    go_wp2_with (at_builtin; refine wpList_append_own _ rfl _ _ 110 rfl w.heap.size 130 i0 _ 3 24 Tryz.underlying110 hi hz0 hz1 hz2 rfl (by decide) (.slice (some ⟨w.heap.size, 0, none⟩) 0 0) 0 [] rfl ?c0 _ l.length _ ((l.map Col.cells).flatten) rfl (flatC_len l) HN.out ?c2 ?c3 ?c4 ?c5 ?_)
    case c0 => exact ⟨rfl, .inr ⟨_, 0, #[], rfl, Nat.le_refl _, Blk.new w #[] _, Nat.le_refl _, Nat.zero_le _, rfl, rfl⟩⟩
    case c2 => intro u hu; rw [List.mem_flatten] at hu; obtain ⟨xs, hxs, hu⟩ := hu; rw [List.mem_map] at hxs; obtain ⟨c, _, rfl⟩ := hxs; simp [Col.cells] at hu; rcases hu with rfl | rfl | rfl <;> rfl
    case c3 => unfold maxLen; omega
    case c4 => omega
    case c5 => simp
    intro v' w2 hown hgrow _
    have hown : w2.ownsRow w.heap.size 130 3 v' l.length ((l.map Col.cells).flatten) := by simpa using hown
    have hE2 : Ext w w2 := ((Ext.refl w).alloc (.cells #[] 130)).grown (v := .slice (some ⟨w.heap.size, 0, none⟩) 0 0) (e := 130) (size := 3) (n := 0) (xs := []) ⟨rfl, .inr ⟨_, 0, #[], rfl, Nat.le_refl _, Blk.new w #[] _, Nat.le_refl _, Nat.zero_le _, rfl, rfl⟩⟩ hgrow
    obtain ⟨a', c', rfl⟩ := owns_shape hown
    have HO := Hid.mk' hown
    have HE2 := Hid.mk' hE2
    clear hown hE2 hgrow
    go_wp2
    go_ret
    exact ⟨a', c', rfl, HO.out, HE2.out⟩

end Go.Proofs.YtlobghojjfkchaaGreat

/-
Whether two events are alike, the program's and the reference's; slices.Equal and slices.Clone of refs.
-/
namespace Go.Proofs.YtlobghojjfkchaaGreat
open Go.RowKit

theorem Tryz.infoRfQ : (Tryz.prog.info? 45).map (fun i => (i.zero, i.size, i.bytes)) = some (some (.agg #[.int .u32 0, .int .u32 0]), 2, 8) := by kernel_rfl
noncomputable def rfB (c d : Rf) : Bool := @decide (c = d) (Classical.propDecidable _)
noncomputable def rfsB (l m : List Rf) : Bool := @decide (l = m) (Classical.propDecidable _)
noncomputable def evB (l m : Ev) : Bool := @decide (l = m) (Classical.propDecidable _)
theorem rfB_true {c d : Rf} : rfB c d = true ↔ c = d := by unfold rfB; simp
theorem rfB_false {c d : Rf} : rfB c d = false ↔ c ≠ d := by unfold rfB; simp
theorem rfsB_true {l m : List Rf} : rfsB l m = true ↔ l = m := by unfold rfsB; simp
theorem rfsB_false {l m : List Rf} : rfsB l m = false ↔ l ≠ m := by unfold rfsB; simp
theorem evB_true {l m : Ev} : evB l m = true ↔ l = m := by unfold evB; simp
theorem evB_false {l m : Ev} : evB l m = false ↔ l ≠ m := by unfold evB; simp
theorem rfB_eq (a b c d : Int) : rfB ⟨a, b⟩ ⟨c, d⟩ = decide (a = c ∧ b = d) := by
  unfold rfB
  by_cases h : a = c ∧ b = d
  · rw [decide_eq_true h]; obtain ⟨rfl, rfl⟩ := h; simp
  · rw [decide_eq_false h]; simp only [Rf.mk.injEq]; rw [decide_eq_false_iff_not]; exact h

set_option maxRecDepth 100000 in set_option maxHeartbeats 1600000 in
theorem neq_pref (a b c d : Int) (w : World) : (binOp .neq 45 (.agg #[.int .u32 a, .int .u32 b]) (.agg #[.int .u32 c, .int .u32 d])).run Tryz.prog w = .ok (.bool (!rfB ⟨a, b⟩ ⟨c, d⟩)) w := by
  rw [rfB_eq]
  by_cases h0 : a = c <;> by_cases h1 : b = d <;> simp [go_sem, h0, h1]
set_option maxRecDepth 100000 in set_option maxHeartbeats 1600000 in
theorem eql_pref (a b c d : Int) (w : World) : (binOp .eql 45 (.agg #[.int .u32 a, .int .u32 b]) (.agg #[.int .u32 c, .int .u32 d])).run Tryz.prog w = .ok (.bool (rfB ⟨a, b⟩ ⟨c, d⟩)) w := by
  rw [rfB_eq]
  by_cases h0 : a = c <;> by_cases h1 : b = d <;> simp [go_sem, h0, h1]
set_option maxRecDepth 100000 in set_option maxHeartbeats 1600000 in
theorem neq_rref (a b c d : Int) (w : World) : (binOp .neq 25 (.agg #[.int .u32 a, .int .u32 b]) (.agg #[.int .u32 c, .int .u32 d])).run Tryz.prog w = .ok (.bool (!rfB ⟨a, b⟩ ⟨c, d⟩)) w := by
  rw [rfB_eq]
  by_cases h0 : a = c <;> by_cases h1 : b = d <;> simp [go_sem, h0, h1]

set_option maxRecDepth 100000 in set_option maxHeartbeats 2000000 in
theorem eqrefs_any (l m : List Rf) (a b : Option Addr) (ca cb : Nat) (w : World) (hl : Sl w (.slice a l.length ca) 2 (l.map Rf.cells)) (hm : Sl w (.slice b m.length cb) 2 (m.map Rf.cells)) (hlen : l.length ≤ 100000) :
    Calls Tryz.prog 72 #[.slice a l.length ca, .slice b m.length cb] w fun e w' => e = .returned (.bool (rfsB l m)) ∧ Ext w w' := by
  have HL := Hid.mk' hl
  have HM := Hid.mk' hm
  clear hl hm
  by_cases hn : l.length = m.length
  case neg =>
    have hn' : (((l.length : Nat) : Int) != ((m.length : Nat) : Int)) = true := by simp; omega
    have HR := Hid.mk' (show rfsB l m = false from rfsB_false.2 (fun h => hn (by rw [h])))
    clear hn
    go_enter Tryz.func72, Tryz.ntmps72
    go_wp2
    go_ret
    exact ⟨ret_bool HR.out.symm, by exact eX⟩
  have hn' : (((l.length : Nat) : Int) != ((m.length : Nat) : Int)) = false := by simp; omega
  have HN := Hid.mk' hn
  clear hn
  go_enter Tryz.func72, Tryz.ntmps72
  go_wp2
  go_loopw [13] (fun i wr => ∃ k : Nat, k ≤ l.length ∧ i = .int .i64 k ∧ Hid (∀ j (h1 : j < l.length) (h2 : j < m.length), j < k → l[j] = m[j]) ∧ Hid (Ext w wr)) (fun i _ => l.length - (intOf i).toNat)
  case atStart => exact ⟨0, Nat.zero_le _, rfl, fun j _ _ h => by omega, Ext.refl _⟩
  case round =>
    obtain ⟨k, hk, rfl, hrel, hE⟩ := hrel
    by_cases hlt : k < l.length
    · have hlt2 : k < m.length := by have := HN.out; omega
      obtain ⟨b1, o1, rfl, hb1, hx1⟩ := HL.out.at_ (i := k) (by simpa using hlt)
      obtain ⟨f0, f1⟩ := Rf.at_ hlt hx1 hb1 hE.out
      obtain ⟨b2, o2, rfl, hb2, hx2⟩ := HM.out.at_ (i := k) (by simpa using hlt2)
      obtain ⟨p0, p1⟩ := Rf.at_ hlt2 hx2 hb2 hE.out
      have hbw : b1 < wr.heap.size := Nat.lt_of_lt_of_le hb1 hE.out.size
      have hbw2 : b2 < wr.heap.size := Nat.lt_of_lt_of_le hb2 hE.out.size
      have hNq := fun w => neq_pref l[k].o l[k].v m[k].o m[k].v w
      cases hA : rfB ⟨l[k].o, l[k].v⟩ ⟨m[k].o, m[k].v⟩ with
      | true =>
        rw [hA] at hNq
        have HA := Hid.mk' (rfB_true.1 hA)
        clear hA hx1 hx2
        go_wp2
        go_region_held3 (fun w' => Ext (wr) w' ∧ (∀ b o, b < (wr).heap.size → w'.cell? ⟨b, o, none⟩ = (wr).cell? ⟨b, o, none⟩) ∧ (∀ b o, b < (wr).heap.size → w'.frozen? ⟨b, o, none⟩ = (wr).frozen? ⟨b, o, none⟩)) ((exact held_of (by exact eX))) (fail)
        go_wp2
        go_roundw
        case rel => exact ⟨k + 1, by omega, by go_num, fun j h1 h2 hjk => by
          by_cases e : j = k
          · subst e; exact HA.out
          · exact hrel.out j h1 h2 (by omega), Hid.mk' (hE.out.trans (by exact eX))⟩
        case measure => simp [intOf]; omega
      | false =>
        rw [hA] at hNq
        have HR := Hid.mk' (show rfsB l m = false from rfsB_false.2 (fun h => rfB_false.1 hA (by subst h; rfl)))
        clear hA hx1 hx2
        go_wp2
        go_region_held3 (fun w' => Ext (wr) w' ∧ (∀ b o, b < (wr).heap.size → w'.cell? ⟨b, o, none⟩ = (wr).cell? ⟨b, o, none⟩) ∧ (∀ b o, b < (wr).heap.size → w'.frozen? ⟨b, o, none⟩ = (wr).frozen? ⟨b, o, none⟩)) ((exact held_of (by exact eX))) (fail)
        go_wp2
        go_ret
        exact ⟨ret_bool HR.out.symm, hE.out.trans (by exact eX)⟩
    · have hkk : k = l.length := by omega
      have HR := Hid.mk' (show rfsB l m = true from rfsB_true.2 (List.ext_getElem HN.out (fun i h1 h2 => hrel.out i h1 h2 (by omega))))
      subst hkk
      go_wp2
      go_ret
      exact ⟨ret_bool HR.out.symm, hE.out⟩

theorem flatR_len (l : List Rf) : (l.map Rf.cells).flatten.length = l.length * 2 := by
  have := flat_length 2 (l.map Rf.cells) (fun xs hxs => by simp at hxs; obtain ⟨c, _, rfl⟩ := hxs; rfl)
  rwa [List.length_map] at this
theorem news_ref {w : World} {b o : Nat} {l : List Rf} (h : ∀ i, i < l.length → ∀ j, j < 2 → w.cell? ⟨b, o + i * 2 + j, none⟩ = ((l.map Rf.cells).getD i [])[j]?) : ∀ j u, ((l.map Rf.cells).flatten)[j]? = some u → w.cell? ((⟨b, o, none⟩ : Addr).add j) = some u := by
  intro j u hj
  have hjl : j < l.length * 2 := by
    rcases Nat.lt_or_ge j (l.length * 2) with h | h
    · exact h
    · rw [List.getElem?_eq_none (by rw [flatR_len]; exact h)] at hj; cases hj
  have hplain : (⟨b, o, none⟩ : Addr).add j = ⟨b, o + j, none⟩ := by unfold Addr.add; split <;> simp_all
  have hi : j / 2 < l.length := by omega
  have hq := flat_get 2 (l.map Rf.cells) (fun xs hxs => by simp at hxs; obtain ⟨c, _, rfl⟩ := hxs; rfl) (j / 2) (by simpa using hi) (j % 2) (Nat.mod_lt _ (by decide))
  have hm : j / 2 * 2 + j % 2 = j := by omega
  rw [hm] at hq
  rw [hplain, ← hj, hq, ← h (j / 2) hi (j % 2) (Nat.mod_lt _ (by decide)), Nat.add_assoc, hm]

set_option maxRecDepth 100000 in set_option maxHeartbeats 1600000 in
theorem clonef_any (l : List Rf) (a : Option Addr) (cap : Nat) (w : World) (hl : Sl w (.slice a l.length cap) 2 (l.map Rf.cells)) (hlen : l.length ≤ 1000) :
    Calls Tryz.prog 57 #[.slice a l.length cap] w fun e w' => ∃ a' cap', e = .returned (.slice a' l.length cap') ∧ w'.ownsRow w.heap.size 45 2 (.slice a' l.length cap') l.length ((l.map Rf.cells).flatten) ∧ Ext w w' := by
  obtain ⟨i0, hi, hz0, hz1, hz2⟩ := info_parts Tryz.infoRfQ
  have HL := Hid.mk' hl
  clear hl
  cases a with
  | none =>
    have h0 : l = [] := by
      obtain ⟨a, c, hv, h⟩ := HL.out
      simp only [Value.slice.injEq] at hv
      rcases h with h | ⟨b, o, ha, _⟩
      · simpa using h
      · rw [← hv.1] at ha; cases ha
    obtain ⟨a, c, hv, -⟩ := HL.out
    subst h0
    clear HL hv
    go_enter Tryz.func57, Tryz.ntmps57
    go_wp2
    go_ret
    exact ⟨_, _, rfl, World.ownsRow_nil _ _ _ _, by exact eX⟩
  | some ad =>
    have hnews : ∀ j u, ((l.map Rf.cells).flatten)[j]? = some u → (w.alloc (.cells #[] 45)).cell? (ad.add j) = some u := by
      obtain ⟨a, c, hv, h⟩ := HL.out
      simp only [Value.slice.injEq] at hv
      obtain ⟨rfl, -, -⟩ := hv
      rcases h with h | ⟨b, o, ha, hb, hc⟩
      · have h0 : l = [] := by simpa using h
        subst h0; intro j u hj; simp at hj
      · cases ha
        refine news_ref fun i hi j hj => ?_
        have hE : Ext w (w.alloc (.cells #[] 45)) := (Ext.refl w).alloc _
        rw [hE.cells.1 b _ hb]
        exact hc i (by simpa using hi) j hj
    have HN := Hid.mk' hnews
    clear HL hnews
    go_enter Tryz.func57, Tryz.ntmps57
    go_wp2_with (at_builtin; refine wpList_append_own _ rfl _ _ 48 rfl w.heap.size 45 i0 _ 2 8 Tryz.underlying48 hi hz0 hz1 hz2 rfl (by decide) (.slice (some ⟨w.heap.size, 0, none⟩) 0 0) 0 [] rfl ?c0 _ l.length _ ((l.map Rf.cells).flatten) rfl (flatR_len l) HN.out ?c2 ?c3 ?c4 ?c5 ?_)
    case c0 => exact ⟨rfl, .inr ⟨_, 0, #[], rfl, Nat.le_refl _, Blk.new w #[] _, Nat.le_refl _, Nat.zero_le _, rfl, rfl⟩⟩
    case c2 => intro u hu; rw [List.mem_flatten] at hu; obtain ⟨xs, hxs, hu⟩ := hu; rw [List.mem_map] at hxs; obtain ⟨c, _, rfl⟩ := hxs; simp [Rf.cells] at hu; rcases hu with rfl | rfl <;> rfl
    case c3 => unfold maxLen; omega
    case c4 => omega
    case c5 => simp
    intro v' w2 hown hgrow _
    have hown : w2.ownsRow w.heap.size 45 2 v' l.length ((l.map Rf.cells).flatten) := by simpa using hown
    have hE2 : Ext w w2 := ((Ext.refl w).alloc (.cells #[] 45)).grown (v := .slice (some ⟨w.heap.size, 0, none⟩) 0 0) (e := 45) (size := 2) (n := 0) (xs := []) ⟨rfl, .inr ⟨_, 0, #[], rfl, Nat.le_refl _, Blk.new w #[] _, Nat.le_refl _, Nat.zero_le _, rfl, rfl⟩⟩ hgrow
    obtain ⟨a', c', rfl⟩ := owns_shape hown
    have HO := Hid.mk' hown
    have HE2 := Hid.mk' hE2
    clear hown hE2 hgrow
    go_wp2
    go_ret
    exact ⟨a', c', rfl, HO.out, HE2.out⟩

end Go.Proofs.YtlobghojjfkchaaGreat
