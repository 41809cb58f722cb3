/-
The walk through the columns of the key: rel.Keys and its closure, for every loop body; rel.keyed.
-/
import Derived.RangeFuncNested
import Derived.RangeFuncBound
import Derived.RangeFuncCalls
import Derived.RangeFuncLeaves
import Derived.RangeFuncBox
import Derived.Shelf.Abstract
import Derived.Shelf.RegionOpen
import Derived.OwnWalkIn
import Derived.TacticsInMore
import Derived.LoopNIn
import Derived.LoopIn
import Derived.Test.YtdbepkfblfhlhaaRelC
import Derived.Test.YtdbepkfblfhlhaaRelO
namespace Go.Proofs.Ytdbepkfblfhlhaa
open Go.RowKit Go.Shelf
attribute [local go_sem] Oper.semAt_some

/-- A column of the key, with its place. -/
abbrev KX (cols : List Col) := { x : Nat × Col // x.1 < cols.length ∧ cols[x.1]? = some x.2 ∧ x.2.key = true }
/-- The columns of the key among the first k. -/
def keysUp (cols : List Col) : Nat → List (KX cols)
  | 0 => []
  | k + 1 => if h : ∃ h : k < cols.length, cols[k].key = true then keysUp cols k ++ [⟨(k, cols[k]'h.1), h.1, List.getElem?_eq_getElem h.1, h.2⟩] else keysUp cols k
theorem keysUp_yes {cols : List Col} {k : Nat} (hk : k < cols.length) (h : cols[k].key = true) : keysUp cols (k + 1) = keysUp cols k ++ [⟨(k, cols[k]), hk, List.getElem?_eq_getElem hk, h⟩] := by
  unfold keysUp
  rw [dif_pos ⟨hk, h⟩]
  cases k <;> rfl
theorem keysUp_no {cols : List Col} {k : Nat} (hk : k < cols.length) (h : cols[k].key = false) : keysUp cols (k + 1) = keysUp cols k := by
  conv => lhs; unfold keysUp
  rw [dif_neg (by rintro ⟨_, h2⟩; rw [h] at h2; cases h2)]
theorem keysUp_len {cols : List Col} : ∀ k, (keysUp cols k).length ≤ k
  | 0 => Nat.le_refl _
  | k + 1 => by
    have := keysUp_len (cols := cols) k
    unfold keysUp
    split
    · rw [List.length_append, List.length_singleton]; omega
    · omega
theorem keysUp_mem {cols : List Col} : ∀ (k : Nat) (x : KX cols), x ∈ keysUp cols k ↔ x.1.1 < k
  | 0, x => by simp [keysUp]
  | k + 1, x => by
    have ih := keysUp_mem (cols := cols) k x
    obtain ⟨⟨i, c⟩, hi, hc, hk⟩ := x
    simp only at *
    unfold keysUp
    split
    · rename_i h
      rw [List.mem_append, ih, List.mem_singleton, Subtype.mk.injEq, Prod.mk.injEq]
      constructor
      · rintro (h1 | ⟨rfl, _⟩) <;> omega
      · intro h1
        by_cases e : i = k
        · subst e; right; refine ⟨rfl, ?_⟩; rw [List.getElem?_eq_getElem hi] at hc; exact (Option.some.inj hc).symm
        · left; omega
    · rename_i h
      rw [ih]
      constructor
      · intro h1; omega
      · intro h1
        by_cases e : i = k
        · subst e
          rw [List.getElem?_eq_getElem hi] at hc
          exact absurd ⟨hi, by rw [Option.some.inj hc]; exact hk⟩ h
        · omega
theorem keysUp_none {cols : List Col} : keysUp cols cols.length = [] ↔ cols.any Col.key = false := by
  constructor
  · intro h
    rw [List.any_eq_false]
    intro c hc
    obtain ⟨i, hi, rfl⟩ := List.getElem_of_mem hc
    intro hk
    have : (⟨(i, cols[i]), hi, List.getElem?_eq_getElem hi, hk⟩ : KX cols) ∈ keysUp cols cols.length := (keysUp_mem _ _).2 hi
    rw [h] at this; cases this
  · intro h
    rw [List.any_eq_false] at h
    rw [List.eq_nil_iff_forall_not_mem]
    rintro ⟨⟨i, c⟩, hi, hc, hk⟩ _
    exact h c (List.mem_of_getElem? hc) hk

/-- What a column of the key is handed out as. -/
def encK {cols : List Col} (x : KX cols) : Array Value := #[.int .i64 (x.1.1 : Int), .agg #[.string x.1.2.nm, .int .u8 x.1.2.ty, .bool x.1.2.key]]

set_option maxRecDepth 100000 in
set_option maxHeartbeats 2000000 in
theorem keys1_in (F : Fence) (n : Nat) (hF : F.fn 105) (hro : F.round = none) (hn : 1 ≤ n) (l Bs : Nat) (w0 : World) (a : Option Addr) (cap : Nat) (cols : List Col) (hlen : cols.length ≤ 1000) (hl : Hid (Sl w0 (.slice a cols.length cap) 3 (cols.map Col.cells)))
    (J Jx : List (KX cols) → World → Prop) (W0 : World) (hJ : Hid (AbidesFrom W0.heap.size J))
    (hY : Hid (∀ pre x W, J pre W → pre.length < cols.length → YieldAt F (n - 1) Try.prog l (encK x) W fun e W' => (e = .returned (.bool true) ∧ J (pre ++ [x]) W' ∧ Below w0.heap.size W W') ∨ (e = .returned (.bool false) ∧ Jx (pre ++ [x]) W')))
    (hE : Hid (Ext w0 W0)) (hBs : W0.cell? ⟨Bs, 4, none⟩ = some (.slice a cols.length cap)) (h0 : Hid (J [] W0)) :
    CallsIn F n Try.prog 105 #[.func (.yield l) #[] #[], .pointer (some ⟨Bs, 0, none⟩)] W0 fun e W' => (∃ v, e = .returned v) ∧
      ((∃ ys, ys = keysUp cols cols.length ∧ J ys W') ∨ (∃ pre, (∃ k, k ≤ cols.length ∧ pre = keysUp cols k) ∧ Jx pre W')) := by
  refine callsIn_of_wp Try.func105 rfl hF ?_ hro
  simp only [Try.ntmps105, List.size_toArray, List.length_cons, List.length_nil, Nat.reduceAdd, Nat.reduceSub, Array.replicate_succ, Array.replicate_zero, List.push_toArray, List.append_toArray, List.nil_append, List.cons_append]
  gi_wp2
  gi_loopw [8] (fun i wr => ∃ k : Nat, k ≤ cols.length ∧ i = .int .i64 k ∧ Hid (J (keysUp cols k) wr) ∧ Hid (Ext w0 wr)) (fun i _ => cols.length - (intOf i).toNat)
  case atStart => exact ⟨0, Nat.zero_le _, rfl, h0, hE⟩
  case round =>
    obtain ⟨k, hk, rfl, hJs, hEw⟩ := hrel
    by_cases hlt : k < cols.length
    · obtain ⟨b, o, rfl, hb, hx⟩ := hl.out.at_ (i := k) (by simpa using hlt)
      obtain ⟨f0, f1, f2⟩ := Col.at_ hlt hx hb hEw.out
      have hJa : Hid (∀ o : Obj, J (keysUp cols k) (wr.alloc o)) := Hid.mk' (fun o => hJ.out _ _ _ none hJs.out (World.grownBy_alloc _ _ none) (by simp))
      clear hx
      cases hq : cols[k].key with
      | true =>
        obtain ⟨x, hu, hx2⟩ : ∃ x : KX cols, keysUp cols (k + 1) = keysUp cols k ++ [x] ∧ x.1 = (k, cols[k]) := ⟨_, keysUp_yes hlt hq, rfl⟩
        have HU := Hid.mk' hu
        obtain ⟨fn, tmps, assign, body, hy, hR⟩ := hY.out (keysUp cols k) x (wr.alloc (.cells #[.string cols[k].nm, .int .u8 cols[k].ty, .bool true] 126)) (hJa.out _) (by have := keysUp_len (cols := cols) k; omega)
        simp only [encK, hx2, hq] at hy
        rw [hq] at f2
        clear hq hu hx2
        gi_wp2
        refine hR.mono ?_
        rintro e W3 (⟨rfl, hJ3, hk3⟩ | ⟨rfl, hJx3⟩)
        · gi_wp2
          go_roundw
          case rel => exact ⟨k + 1, by omega, by go_num, Hid.mk' (by rw [HU.out]; exact hJ3), Hid.mk' (Below.trans (hEw.out.alloc _) hk3)⟩
          case measure => simp [intOf]; omega
        · gi_wp2
          refine bodyPost_ret (results_none rfl _ _ _) rfl ?_
          exact ⟨⟨_, rfl⟩, .inr ⟨_, ⟨k + 1, by omega, HU.out.symm⟩, hJx3⟩⟩
      | false =>
        have HU := Hid.mk' (keysUp_no hlt hq)
        rw [hq] at f2
        clear hq
        gi_wp2
        refine ⟨fun _ h => (by cases h), ?_⟩
        gi_wp2
        go_roundw
        case rel => exact ⟨k + 1, by omega, by go_num, Hid.mk' (by rw [HU.out]; exact hJa.out _), Hid.mk' (hEw.out.alloc _)⟩
        case measure => simp [intOf]; omega
    · obtain rfl : k = cols.length := by omega
      gi_wp2
      go_end0
      exact ⟨⟨_, rfl⟩, .inl ⟨_, rfl, hJs.out⟩⟩

theorem keys_stops (F : Fence) (n : Nat) (hF : F.fn 105) (hro : F.round = none) (hn : 1 ≤ n) (Bs : Nat) (w0 : World) (a : Option Addr) (cap : Nat) (cols : List Col) (hlen : cols.length ≤ 1000) (hl : Sl w0 (.slice a cols.length cap) 3 (cols.map Col.cells))
    (w : World) (hE : Ext w0 w) (hBs : w.cell? ⟨Bs, 4, none⟩ = some (.slice a cols.length cap)) (hB : Bs < w.heap.size) :
    SeqStopsK F n Try.prog 105 #[.pointer (some ⟨Bs, 0, none⟩)] (encK (cols := cols)) (Below w0.heap.size) (fun ys => ys = keysUp cols cols.length) (fun pre => ∃ k, k ≤ cols.length ∧ pre = keysUp cols k) cols.length w := fun l J Jx W hW hJ _ hY h0 =>
  keys1_in F n hF hro hn l Bs w0 a cap cols hlen hl J Jx W hJ hY (Below.trans hE (hW.mono hE.size)) ((hW.cell (p := ⟨Bs, 4, none⟩) hB).trans hBs) h0

set_option maxHeartbeats 1000000 in
theorem keys_in (F : Fence) (n : Nat) (hF : F.fn 67) (hro : F.round = none) (oid ver : Int) (nm : ByteArray) (id : Int) (v : Value) (w : World) :
    CallsIn F n Try.prog 67 #[.agg #[.int .u32 oid, .int .u32 ver, .string nm, .int .u8 id, v]] w fun e w' => e = .returned (.func (.func 105) #[] #[.pointer (some ⟨w.heap.size, 0, none⟩)]) ∧ w' = w.alloc (.cells #[.int .u32 oid, .int .u32 ver, .string nm, .int .u8 id, v] 42) := by
  refine callsIn_of_wp Try.func67 rfl hF ?_ hro
  simp only [Try.ntmps67, List.size_toArray, List.length_cons, List.length_nil, Nat.reduceAdd, Nat.reduceSub, Array.replicate_succ, Array.replicate_zero, List.push_toArray, List.append_toArray, List.nil_append, List.cons_append]
  gi_wp2
  go_ret
  exact ⟨rfl, rfl⟩

end Go.Proofs.Ytdbepkfblfhlhaa
