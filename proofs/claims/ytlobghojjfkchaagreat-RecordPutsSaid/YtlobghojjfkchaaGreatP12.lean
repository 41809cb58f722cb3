/-
Cells, in plain words: what is wrong with one, its bytes, what is taken of any bytes; what is put is taken as it was, and from no other bytes.
-/
import Derived.Maps.AppendAt
import Derived.Test.YtlobghojjfkchaaGreatP11
namespace Go.Proofs.YtlobghojjfkchaaGreat
open Go.RowKit

/-- What is wrong with putting a cell; its bytes. -/
def errC (k ty n x y : Int) (s : ByteArray) (kind ver : Int) : Int :=
  if ver = 1 ∨ ver = 2 then (if rightC k ty n x y s kind ≠ 0 then rightC k ty n x y s kind else if k = 0 then 12 else 0) else 18
def putC (k ty n : Int) (x y : Nat) (s : ByteArray) (kind ver : Int) : List Int :=
  if k = 1 then [0] else if largeB k ty s = true then (3 - ver) :: sevens s.size
  else if ver = 2 then (if kind = 5 ∨ kind = 6 then sevens (s.size + 2) ++ strL s else putL ty n x y s 2) else 1 :: putL ty n x y s 1

theorem errC_zero {k ty n x y : Int} {s : ByteArray} {kind ver : Int} (hk0 : 0 ≤ k) (h : errC k ty n x y s kind ver = 0) :
    (ver = 1 ∨ ver = 2) ∧ rightC k ty n x y s kind = 0 ∧ (k = 1 ∨ k = 2) ∧ (1 ≤ kind ∧ kind ≤ 6) := by
  unfold errC at h
  by_cases hv : ver = 1 ∨ ver = 2
  · rw [if_pos hv] at h
    by_cases hr : rightC k ty n x y s kind = 0
    · rw [if_neg (by simpa using hr)] at h
      refine ⟨hv, hr, ?_⟩
      have hr2 := hr
      unfold rightC at hr2
      (repeat' split at hr2) <;> (repeat' split at h) <;> first | omega | (exfalso; omega)
    · rw [if_pos hr] at h; exact absurd h hr
  · rw [if_neg hv] at h; cases h

def K.err (c : K) (kind ver : Int) : Int := errC c.k c.v.ty c.v.n c.v.x c.v.y c.v.s kind ver
def K.put (c : K) (kind ver : Int) : List Int := putC c.k c.v.ty c.v.n c.v.x c.v.y c.v.s kind ver

end Go.Proofs.YtlobghojjfkchaaGreat

/-
Rows in plain words: bytes, holes and their texts, filled.
-/
namespace Go.Proofs.YtlobghojjfkchaaGreat
open Go.RowKit

/-- Which cells are null. -/
def nullsL (l : List K) : List Bool := l.map fun c => decide (c.k = 0)
theorem nullsL_len (l : List K) : (nullsL l).length = l.length := by simp [nullsL]
/-- The bytes of a row's cells. -/
def cellsPut (ver : Int) : List K → List Col → List Int
  | c :: l, d :: cols => (if c.k = 0 then [] else c.put d.ty ver) ++ cellsPut ver l cols
  | _, _ => []
theorem cellsPut_snoc (ver : Int) : ∀ (l : List K) (cols : List Col) (k : Nat) (h : k < l.length) (h2 : k < cols.length),
    cellsPut ver (l.take (k + 1)) (cols.take (k + 1)) = cellsPut ver (l.take k) (cols.take k) ++ (if l[k].k = 0 then [] else l[k].put cols[k].ty ver)
  | c :: l, d :: cols, 0, _, _ => by simp [cellsPut]
  | c :: l, d :: cols, k + 1, h, h2 => by
    have := cellsPut_snoc ver l cols k (by simpa using h) (by simpa using h2)
    simp only [List.take_succ_cons, cellsPut, this, List.getElem_cons_succ, List.append_assoc]
def rowPut (l : List K) (cols : List Col) (ver : Int) : List Int := mapL (nullsL l) ++ cellsPut ver l cols
/-- What is wrong with encoding. -/
def encE (l : List K) (r : Rl) (ver : Int) : Int := if ver = 1 ∨ ver = 2 then fitsE l r else 18

theorem fitsW_zero {l : List K} {r : Rl} (h : fitsE l r = 0) : r.right = 0 ∧ l.length = r.cols.length ∧ ∀ i (h1 : i < l.length) (h2 : i < r.cols.length), l[i].right r.cols[i].ty = 0 := by
  unfold fitsE at h
  by_cases h0 : r.right = 0
  · rw [if_neg (by simpa using h0)] at h
    by_cases h1 : l.length = r.cols.length
    · rw [if_neg (by simpa using h1)] at h
      refine ⟨h0, h1, fun i hi hj => ?_⟩
      have := firstE_all h i hi
      rwa [fitAt_lt hi hj] at this
    · rw [if_pos h1] at h; cases h
  · rw [if_pos h0] at h; exact absurd h h0
theorem fits_cols {l : List K} {r : Rl} (h : fitsE l r = 0) : r.cols.length ≤ 16 ∧ 1 ≤ r.cols.length := by
  have h0 := (fitsW_zero h).1
  unfold Rl.right at h0
  (repeat' split at h0) <;> first | omega | (exfalso; omega)
theorem err_of_right {c : K} {kind ver : Int} (h : c.right kind = 0) (hv : ver = 1 ∨ ver = 2) (hk : c.k ≠ 0) : c.err kind ver = 0 := by
  unfold K.err errC K.right at *
  rw [if_pos hv, if_neg (by simpa using h), if_neg hk]

/-- The large cells among the first k: places and texts. -/
def larges (l : List K) : Nat → List (Nat × ByteArray)
  | 0 => []
  | k + 1 => if h : k < l.length then (if largeB l[k].k l[k].v.ty l[k].v.s = true then larges l k ++ [(k, l[k].v.s)] else larges l k) else larges l k
theorem larges_yes {l : List K} {k : Nat} (hk : k < l.length) (h : largeB l[k].k l[k].v.ty l[k].v.s = true) : larges l (k + 1) = larges l k ++ [(k, l[k].v.s)] := by
  conv => lhs; unfold larges
  rw [dif_pos hk, if_pos h]
theorem larges_no {l : List K} {k : Nat} (hk : k < l.length) (h : largeB l[k].k l[k].v.ty l[k].v.s = false) : larges l (k + 1) = larges l k := by
  conv => lhs; unfold larges
  rw [dif_pos hk, if_neg (by rw [h]; simp)]
theorem larges_len (l : List K) : ∀ k, (larges l k).length ≤ k
  | 0 => Nat.le_refl _
  | k + 1 => by
    have := larges_len l k
    unfold larges
    split
    · split
      · rw [List.length_append, List.length_singleton]; omega
      · omega
    · omega
def holeC (x : Nat × ByteArray) : List Value := [.int .i64 (x.1 : Int), .int .i64 (x.2.size : Int)]
def textC (x : Nat × ByteArray) : List Value := [.string x.2]

/-- A hole: a column and a size. -/
structure Ho where
  c : Int
  n : Int
def Ho.cells (h : Ho) : List Value := [.int .i64 h.c, .int .i64 h.n]
def strC (s : ByteArray) : List Value := [.string s]
/-- A row with one text set. -/
def setText (l : List K) (i : Nat) (s : ByteArray) : List K := if h : i < l.length then l.set i ⟨l[i].k, { l[i].v with s := s }⟩ else l
/-- The row while it is filled: of the first k holes. -/
def fillUp (l : List K) (hs : List Ho) (ts : List ByteArray) : Nat → List K
  | 0 => l
  | k + 1 => if h : k < hs.length ∧ k < ts.length then setText (fillUp l hs ts k) (hs[k]'h.1).c.toNat (ts[k]'h.2) else fillUp l hs ts k
def holeBad (n : Nat) (hs : List Ho) (i : Nat) : Int := if h : i < hs.length then (if hs[i].c < 0 ∨ (n : Int) ≤ hs[i].c then 4 else 0) else 0
def sizeBad (hs : List Ho) (ts : List ByteArray) (i : Nat) : Int := if h : i < hs.length ∧ i < ts.length then (if ((ts[i]'h.2).size : Int) ≠ (hs[i]'h.1).n then 16 else 0) else 0
/-- What is wrong with filling; the row filled. -/
def fillE (l : List K) (hs : List Ho) (ts : List ByteArray) : Int :=
  if hs.length ≠ ts.length then 17 else if firstE (holeBad l.length hs) hs.length ≠ 0 then 4 else if firstE (sizeBad hs ts) hs.length ≠ 0 then 16 else 0
def fillW (l : List K) (hs : List Ho) (ts : List ByteArray) : List K := if fillE l hs ts = 0 then fillUp l hs ts hs.length else []

end Go.Proofs.YtlobghojjfkchaaGreat

/-
Numbers by sevens, one behind the other: the payload of a begin, of a commit, a ref.
-/
namespace Go.Proofs.YtlobghojjfkchaaGreat
open Go.RowKit

def nums (xs : List Nat) : List Int := (xs.map sevens).flatten
theorem nums_snoc (xs : List Nat) (x : Nat) : nums (xs ++ [x]) = nums xs ++ sevens x := by unfold nums; simp
theorem nums_one (x : Nat) : nums [x] = sevens x := by unfold nums; simp
theorem nums_two (x y : Nat) : nums [x, y] = sevens x ++ sevens y := by unfold nums; simp
theorem nums_len {xs : List Nat} (h : ∀ x ∈ xs, x < 2 ^ 64) : (nums xs).length ≤ xs.length * 10 := by
  induction xs with
  | nil => simp [nums]
  | cons x xs ih =>
    have h1 := ih (fun y hy => h y (List.mem_cons_of_mem _ hy))
    have h2 := sevens_len10 (h x (by simp))
    have e : nums (x :: xs) = sevens x ++ nums xs := by unfold nums; simp
    rw [e, List.length_append, List.length_cons]; omega

set_option maxRecDepth 100000 in set_option maxHeartbeats 2000000 in
theorem numbers_any (v : Value) (l : List Int) (xs : List Nat) (b c : Nat) (w : World) (hl : Sl w v 1 (l.map bcell)) (hlen : l.length ≤ 900000) (hx : ∀ x ∈ xs, x < 2 ^ 64) (hn : xs.length ≤ 100) (h0 : xs ≠ []) (hb : b < w.heap.size) (hc : ∀ i (h : i < xs.length), w.cell? ⟨b, i, none⟩ = some (.int .u64 xs[i])) :
    Calls Tryz.prog 42 #[v, .slice (some ⟨b, 0, none⟩) xs.length c] w fun e w' => ∃ v', e = .returned v' ∧ OB w' w.heap.size v' (l ++ nums xs) ∧ Ext w w' := by
  have HC := Hid.mk' hc
  have HX := Hid.mk' hx
  have HL := Hid.mk' hl
  have H0 := Hid.mk' (List.length_pos_iff.2 h0)
  have HNL : Hid (∀ k, (nums (xs.take k)).length ≤ 1000) := Hid.mk' (fun k => by
    have h := nums_len (xs := xs.take k) (fun x hx' => hx x (List.mem_of_mem_take hx'))
    rw [List.length_take] at h
    omega)
  clear hc hx hl h0
  go_enter Tryz.func42, Tryz.ntmps42
  go_wp2
  go_loopg [0, 9] xs.length (fun z a i wr => ∃ k : Nat, z + k = xs.length ∧ i = .int .i64 k ∧ Hid (Sl wr a 1 ((l ++ nums (xs.take k)).map bcell)) ∧ Hid (0 < k → OB wr w.heap.size a (l ++ nums (xs.take k))) ∧ Hid (Ext w wr))
  case atStart => exact ⟨0, by omega, rfl, Hid.mk' (by simpa [nums] using HL.out), Hid.mk' (fun h => absurd h (Nat.lt_irrefl 0)), Hid.mk' (Ext.refl _)⟩
  case round =>
    obtain ⟨k, hzk, rfl, hsl, hob, hE⟩ := hrel
    by_cases hlt : k < xs.length
    · have f0 := (hE.out.cells.1 b k hb).trans (HC.out k hlt)
      have hbw : b < wr.heap.size := Nat.lt_of_lt_of_le hb hE.out.size
      have HP := Hid.mk' (fun a' (h : Sl wr a' 1 ((l ++ nums (xs.take k)).map bcell)) => putUint_any a' (l ++ nums (xs.take k)) xs[k] wr h (HX.out _ (List.getElem_mem hlt)) (by rw [List.length_append]; have := HNL.out k; omega))
      have HTK : Hid (l ++ nums (xs.take (k + 1)) = l ++ nums (xs.take k) ++ sevens xs[k]) := Hid.mk' (by rw [List.take_succ_eq_append_getElem hlt, nums_snoc, List.append_assoc])
      rw [← HTK.out] at HP
      obtain ⟨x, hxx⟩ : ∃ x, x = xs[k] := ⟨_, rfl⟩
      rw [← hxx] at f0 HP
      have HLT := Hid.mk' hlt
      clear hxx HTK
      go_wp2_with (go_at_call 89; refine (HP.out _ hsl.out).mono ?_; rintro e w1 ⟨v1, rfl, ho1, hb1⟩; have HO1 := Hid.mk' (ho1.base hE.out.size); have HB1 := Hid.mk' (hE.out.trans hb1); clear ho1 hb1)
      go_roundg (xs.length - (k + 1))
      case measure => have := HLT.out; omega
      case rel => exact ⟨k + 1, Nat.sub_add_cancel HLT.out, by go_num, Hid.mk' HO1.out.sl, Hid.mk' (fun _ => HO1.out), HB1⟩
    · obtain rfl : k = xs.length := by omega
      have HO := Hid.mk' (hob.out H0.out)
      rw [List.take_length] at HO
      obtain ⟨a', c', rfl⟩ := HO.out.shape
      clear hsl hob
      go_wp2
      go_ret
      exact ⟨_, rfl, HO.out, hE.out⟩

theorem two_cells (w : World) (x y : Nat) (i : Nat) (h : i < [x, y].length) : (w.alloc (.cells #[.int .u64 x, .int .u64 y] 32)).cell? ⟨w.heap.size, i, none⟩ = some (.int .u64 [x, y][i]) := by
  rw [(Blk.new w _ _).cell]
  match i, h with
  | 0, _ => rfl
  | 1, _ => rfl
theorem numbers2_any (v : Value) (l : List Int) (x y : Nat) (w : World) (hl : Sl w v 1 (l.map bcell)) (hlen : l.length ≤ 900000) (hx : x < 2 ^ 64) (hy : y < 2 ^ 64) :
    Calls Tryz.prog 42 #[v, .slice (some ⟨w.heap.size, 0, none⟩) 2 2] (w.alloc (.cells #[.int .u64 x, .int .u64 y] 32)) fun e w' => ∃ v', e = .returned v' ∧ OB w' w.heap.size v' (l ++ (sevens x ++ sevens y)) ∧ Ext w w' := by
  have hE : Ext w (w.alloc (.cells #[.int .u64 x, .int .u64 y] 32)) := (Ext.refl w).alloc _
  refine (numbers_any v l [x, y] w.heap.size 2 (w.alloc (.cells #[.int .u64 x, .int .u64 y] 32)) (hl.ext hE) hlen (fun z hz => ?_) (by simp) (by simp) (by simp) (two_cells w x y)).mono ?_
  · simp only [List.mem_cons, List.not_mem_nil, or_false] at hz
    rcases hz with rfl | rfl
    · exact hx
    · exact hy
  · rintro e w' ⟨v', he, ho, hb⟩
    rw [nums_two] at ho
    exact ⟨v', he, ho.base (by simp), hE.trans hb⟩

set_option maxRecDepth 100000 in set_option maxHeartbeats 1600000 in
theorem putBegin_any (x y : Nat) (w : World) (hx : x < 2 ^ 64) (hy : y < 2 ^ 64) :
    Calls Tryz.prog 22 #[.int .u32 x, .int .u64 y] w fun e w' => ∃ v', e = .returned v' ∧ OB w' w.heap.size v' (sevens x ++ sevens y) ∧ Ext w w' := by
  have HN := Hid.mk' (numbers2_any (.slice none 0 0) [] x y w ⟨none, 0, rfl, .inl rfl⟩ (by simp) hx hy)
  rw [List.nil_append] at HN
  have hx' : (x : Int) < 18446744073709551616 := by have : (2 : Nat) ^ 64 = 18446744073709551616 := by decide
                                                    omega
  go_enter Tryz.func22, Tryz.ntmps22
  go_wp2_with (go_at_call 42; refine HN.out.mono ?_; rintro e w1 ⟨v1, rfl, ho1, hb1⟩; have HO1 := Hid.mk' ho1; have HB1 := Hid.mk' hb1; clear ho1 hb1)
  obtain ⟨a', c', rfl⟩ := HO1.out.shape
  go_ret
  exact ⟨_, rfl, HO1.out, HB1.out⟩

end Go.Proofs.YtlobghojjfkchaaGreat

/-
The payload of a commit, a ref; the reference's begin and commit.
-/
namespace Go.Proofs.YtlobghojjfkchaaGreat
open Go.RowKit

set_option maxRecDepth 100000 in set_option maxHeartbeats 1600000 in
theorem putRef_any (v : Value) (l : List Int) (x y : Nat) (w : World) (hl : Sl w v 1 (l.map bcell)) (hlen : l.length ≤ 900000) (hx : x < 2 ^ 32) (hy : y < 2 ^ 32) :
    Calls Tryz.prog 43 #[v, .agg #[.int .u32 x, .int .u32 y]] w fun e w' => ∃ v', e = .returned v' ∧ OB w' w.heap.size v' (l ++ (sevens x ++ sevens y)) ∧ Ext w w' := by
  have hx1 : x < 2 ^ 64 := Nat.lt_of_lt_of_le hx (by decide)
  have hy1 : y < 2 ^ 64 := Nat.lt_of_lt_of_le hy (by decide)
  have hx' : (x : Int) < 18446744073709551616 := by have : (2 : Nat) ^ 32 = 4294967296 := by decide
                                                    omega
  have hy' : (y : Int) < 18446744073709551616 := by have : (2 : Nat) ^ 32 = 4294967296 := by decide
                                                    omega
  have hl0 := hl
  obtain ⟨a0, cp0, rfl, -⟩ := hl0
  rw [List.length_map] at hl ⊢
  have HN := Hid.mk' (numbers2_any (.slice a0 l.length cp0) l x y (w.alloc (.cells #[.int .u32 x, .int .u32 y] 45)) (hl.ext ((Ext.refl w).alloc _)) hlen hx1 hy1)
  rw [World.size_alloc] at HN
  go_enter Tryz.func43, Tryz.ntmps43
  go_wp2_with (go_at_call 42; refine HN.out.mono ?_; rintro e w1 ⟨v1, rfl, ho1, hb1⟩; have HO1 := Hid.mk' ho1; have HB1 := Hid.mk' hb1; clear ho1 hb1)
  obtain ⟨a', c', rfl⟩ := HO1.out.shape
  go_ret
  exact ⟨_, rfl, HO1.out.base (by omega), ((Ext.refl w).alloc _).trans HB1.out⟩

end Go.Proofs.YtlobghojjfkchaaGreat

/-
The record of an event that truncates.
-/
namespace Go.Proofs.YtlobghojjfkchaaGreat
open Go.RowKit

def refsBy (l : List Rf) : List Int := (l.map fun r => sevens r.o.toNat ++ sevens r.v.toNat).flatten
theorem refsBy_snoc (l : List Rf) (r : Rf) : refsBy (l ++ [r]) = refsBy l ++ (sevens r.o.toNat ++ sevens r.v.toNat) := by unfold refsBy; simp
structure Rf.u32 (r : Rf) : Prop where
  o : 0 ≤ r.o ∧ r.o < 4294967296
  v : 0 ≤ r.v ∧ r.v < 4294967296
theorem sevens_u32 {x : Int} (h : x < 4294967296) : (sevens x.toNat).length ≤ 10 := sevens_len10 (by
  have : (2 : Nat) ^ 64 = 18446744073709551616 := by decide
  omega)
theorem refsBy_len {l : List Rf} (h : ∀ r ∈ l, r.u32) : (refsBy l).length ≤ l.length * 20 := by
  induction l with
  | nil => exact Nat.le_refl _
  | cons r l ih =>
    have h1 := ih (fun y hy => h y (List.mem_cons_of_mem _ hy))
    have h2 := sevens_u32 (h r (by simp)).o.2
    have h3 := sevens_u32 (h r (by simp)).v.2
    have e : refsBy (r :: l) = (sevens r.o.toNat ++ sevens r.v.toNat) ++ refsBy l := by unfold refsBy; simp
    rw [e, List.length_append, List.length_append, List.length_cons]; omega
theorem refsBy_take {l : List Rf} (h : ∀ r ∈ l, r.u32) (k : Nat) : (refsBy (l.take k)).length ≤ l.length * 20 := by
  have h1 := refsBy_len (l := l.take k) (fun r hr => h r (List.mem_of_mem_take hr))
  have h2 : (l.take k).length ≤ l.length := by rw [List.length_take]; omega
  exact Nat.le_trans h1 (Nat.mul_le_mul_right _ h2)
theorem putRefI_any (v : Value) (l : List Int) (r : Rf) (w : World) (hl : Sl w v 1 (l.map bcell)) (hlen : l.length ≤ 900000) (hr : r.u32) :
    Calls Tryz.prog 43 #[v, .agg #[.int .u32 r.o, .int .u32 r.v]] w fun e w' => ∃ v', e = .returned v' ∧ OB w' w.heap.size v' (l ++ (sevens r.o.toNat ++ sevens r.v.toNat)) ∧ Ext w w' := by
  have h2 : (2 : Nat) ^ 32 = 4294967296 := by decide
  have := hr.o
  have := hr.v
  have h := putRef_any v l r.o.toNat r.v.toNat w hl hlen (by omega) (by omega)
  rw [Int.toNat_of_nonneg hr.o.1, Int.toNat_of_nonneg hr.v.1] at h
  exact h

set_option maxRecDepth 100000 in set_option maxHeartbeats 4000000 in
theorem recput7_any (x : EL) (ver : Int) (N g : Nat) (c : Value) (ps : List RR) (w : World) (hx : x.at 5 K.pc w) (hs : x.e.small) (hwk : x.e.wk) (hc : Ca w N g c ps) (hk : x.e.kind = 7) (hz : evE x.e (ps.map RR.r) = 0) (hn : x.e.rs.length ≤ 8) (hr : ∀ r ∈ x.e.rs, r.u32) (hv : ver = 1 ∨ ver = 2) :
    Calls Tryz.prog 12 #[.pointer (some ⟨g, 0, none⟩), x.agg, .int .u8 ver] w fun e w' => ∃ v', e = .returned (.tuple #[v', .slice none 0 0, .int .i64 0]) ∧ OB w' w.heap.size v' ((x.e.fl :: sevens x.e.rs.length) ++ refsBy x.e.rs) ∧ Ext w w' := by
  have HRG := Hid.mk' (fun W (h : Ext w W) => eright_any x N g c ps W (hx.ext h) hs hwk (hc.ext h))
  rw [hz] at HRG
  have HL := Hid.mk' hx.r
  clear hx hs hwk hc hz
  obtain ⟨⟨k1, ao, av, old, b, a, rs, fl⟩, ba, bc, aa, ac, ra, rc⟩ := x
  unfold EL.agg at HRG ⊢
  simp only at HRG HL hk hn hr ⊢
  subst hk
  have HR := Hid.mk' hr
  have HLN := Hid.mk' (fun k => refsBy_take hr k)
  have h64 : rs.length < 2 ^ 64 := by have : (2 : Nat) ^ 64 = 18446744073709551616 := by decide
                                      omega
  have HS7 := Hid.mk' (sevens_len10 h64)
  have HN := Hid.mk' (fun (w1 : World) => numbers_any (.slice (some ⟨w1.heap.size, 0, none⟩) 1 1) [fl] [rs.length] (w1.heap.size + 1) 1 ((w1.alloc (.cells #[.int .u8 fl] 5)).alloc (.cells #[.int .u64 rs.length] 32)) ((Sl.new w1 #[.int .u8 fl] 5 1 1 1 ([fl].map bcell) rfl (by intro xs hxs; simp at hxs; subst hxs; rfl) rfl).ext ((Ext.refl _).alloc _)) (by simp) (by intro z hz; simp at hz; subst hz; exact h64) (by simp) (by simp) (by simp) (fun i h => by
    obtain rfl : i = 0 := by simp at h; omega
    have hB := (Blk.new' (w := w1.alloc (.cells #[.int .u8 fl] 5)) #[.int .u64 rs.length] 32 (b := w1.heap.size + 1) (by simp)).cell
    rw [hB]; rfl))
  have hrn : (rs.length : Int) < 18446744073709551616 := by omega
  clear hr h64
  rcases hv with rfl | rfl
  all_goals
    go_enter Tryz.func12, Tryz.ntmps12
    go_upto_region 7 with (go_at_call 37; refine (HRG.out _ (by exact eX)).mono ?_; rintro e w1 ⟨rfl, hb1⟩; have HB1 := Hid.mk' hb1; have HE1 := Hid.mk' (((Ext.refl w).alloc _).trans hb1); have HV1 := Hid.mk' ((Blk.new w #[.int .u8 7, .int .u32 ao, .int .u32 av, .int .u8 old, .slice ba b.length bc, .slice aa a.length ac, .slice ra rs.length rc, .int .u8 fl] 50).ext hb1); have gv := HV1.out.cell; have zv := HV1.out.lt; clear hb1)
    go_upto_region 8 with (go_at_call 42; refine (HN.out w1).mono ?_; rintro e w2 ⟨v2, rfl, ho2, hb2⟩; have HO2 := Hid.mk' ho2; have HX2 := Hid.mk' ((((Ext.refl w1).alloc _).alloc _).trans hb2); clear ho2 hb2)
    rw [nums_one] at HO2
    have HO3 : Hid (OB w2 w.heap.size v2 ((fl :: sevens rs.length) ++ refsBy (rs.take 0))) := Hid.mk' (by
      rw [List.take_zero, show refsBy [] = [] from rfl, List.append_nil]
      exact HO2.out.base (by have := HE1.out.size; simp; omega))
    have HE2 := Hid.mk' (HE1.out.trans HX2.out)
    obtain ⟨a2, c2, rfl⟩ := HO3.out.shape
    obtain ⟨n2, hn2⟩ : ∃ n, n = ((fl :: sevens rs.length) ++ refsBy (rs.take 0)).length := ⟨_, rfl⟩
    rw [← hn2] at HO3 ⊢
    clear gv zv hn2
    have gv := (HV1.out.ext HX2.out).cell
    have zv := (HV1.out.ext HX2.out).lt
    clear HO2 HN HRG HX2 HB1 HE1
    go_wp2
    clear gv zv
    go_loopg [10, 44] rs.length (fun z v i wr => ∃ (k : Nat), z + k = rs.length ∧ i = .int .i64 k ∧ Hid (OB wr w.heap.size v ((fl :: sevens rs.length) ++ refsBy (rs.take k))) ∧ Hid (Ext w wr))
    case atStart => exact ⟨0, by omega, rfl, HO3, HE2⟩
    case round =>
      obtain ⟨k, hzk, rfl, hO, hE⟩ := hrel
      by_cases hlt : k < rs.length
      · obtain ⟨b1, o1, rfl, hb1, hx1⟩ := HL.out.at_ (i := k) (by simpa using hlt)
        obtain ⟨f0, f1⟩ := Rf.at_ hlt hx1 hb1 hE.out
        have hbw : b1 < wr.heap.size := Nat.lt_of_lt_of_le hb1 hE.out.size
        have HTK : Hid (refsBy (rs.take (k + 1)) = refsBy (rs.take k) ++ (sevens rs[k].o.toNat ++ sevens rs[k].v.toNat)) := Hid.mk' (by rw [List.take_succ_eq_append_getElem hlt, refsBy_snoc])
        have HRK := Hid.mk' (HR.out _ (List.getElem_mem hlt))
        obtain ⟨r, hre⟩ : ∃ r, r = rs[k] := ⟨_, rfl⟩
        rw [← hre] at f0 f1 HTK HRK
        have HLT := Hid.mk' hlt
        have hd1 : decide (rs.length ≤ k) = false := decide_eq_false (by omega)
        have hd2 : decide ((rs.length : Int) ≤ (k : Int)) = false := decide_eq_false (by omega)
        clear hre hx1 hb1
        have HPR := Hid.mk' (fun v W (h : Ext wr W) (ho : OB wr w.heap.size v ((fl :: sevens rs.length) ++ refsBy (rs.take k))) => putRefI_any v ((fl :: sevens rs.length) ++ refsBy (rs.take k)) r W (ho.ext h).sl (by
          have h1 := HS7.out
          have h2 := HLN.out k
          rw [List.length_append, List.length_cons]; omega) HRK.out)
        go_wp2_with (go_at_call 43; refine (HPR.out _ _ (by exact eX) hO.out).mono ?_; rintro e w3 ⟨v3, rfl, ho3, hb3⟩; have HO4 : Hid (OB w3 w.heap.size v3 ((fl :: sevens rs.length) ++ refsBy (rs.take (k + 1)))) := Hid.mk' (by rw [HTK.out, ← List.append_assoc]; exact ho3.base (by have := hE.out.size; simp; omega)); have HE4 := Hid.mk' (show Ext wr w3 from by exact eX); clear ho3 hb3)
        go_roundg (rs.length - (k + 1))
        case measure => have := HLT.out; omega
        case rel => exact ⟨k + 1, Nat.sub_add_cancel HLT.out, by go_num, HO4, Hid.mk' (hE.out.trans HE4.out)⟩
      · obtain rfl : k = rs.length := by omega
        rw [List.take_length] at hO
        obtain ⟨a4, c4, rfl⟩ := hO.out.shape
        go_wp2
        go_ret3
        exact ⟨_, rfl, hO.out, hE.out⟩

end Go.Proofs.YtlobghojjfkchaaGreat

/-
slices.Clone of a row.
-/
namespace Go.Proofs.YtlobghojjfkchaaGreat
open Go.RowKit

end Go.Proofs.YtlobghojjfkchaaGreat


/-
A new image with what was the same: the program's image.Merge, the reference's.
-/
namespace Go.Proofs.YtlobghojjfkchaaGreat
open Go.RowKit

end Go.Proofs.YtlobghojjfkchaaGreat

/-
A row filled with the texts of its holes: the program's Fill.
-/
namespace Go.Proofs.YtlobghojjfkchaaGreat
open Go.RowKit

theorem Ho.at_ {w wr : World} {b o : Nat} {l : List Ho} {k : Nat} (hk : k < l.length) (hc : ∀ j, j < 2 → w.cell? ⟨b, o + k * 2 + j, none⟩ = ((l.map Ho.cells).getD k [])[j]?) (hb : b < w.heap.size) (hE : Ext w wr) :
    wr.cell? ⟨b, o + k * 2, none⟩ = some (.int .i64 l[k].c) ∧ wr.cell? ⟨b, o + k * 2 + 1, none⟩ = some (.int .i64 l[k].n) := by
  rw [getD_map Ho.cells l hk] at hc
  have c := hE.cells.1 b
  exact ⟨(c _ hb).trans (hc 0 (by omega)), (c _ hb).trans (hc 1 (by omega))⟩
theorem str_at {w wr : World} {b o : Nat} {l : List ByteArray} {k : Nat} (hk : k < l.length) (hc : ∀ j, j < 1 → w.cell? ⟨b, o + k * 1 + j, none⟩ = ((l.map strC).getD k [])[j]?) (hb : b < w.heap.size) (hE : Ext w wr) :
    wr.cell? ⟨b, o + k, none⟩ = some (.string l[k]) := by
  rw [getD_map strC l hk] at hc
  have := hc 0 (by omega)
  rw [Nat.mul_one, Nat.add_zero] at this
  exact (hE.cells.1 b _ hb).trans this
/-- What Fill answers. -/
def FillPost (l : List K) (hs : List Ho) (ts : List ByteArray) (w : World) (e : Ending) (w' : World) : Prop :=
  ∃ a' cap', e = .returned (.tuple #[.slice a' (fillW l hs ts).length cap', .int .i64 (fillE l hs ts)]) ∧ Sl w' (.slice a' (fillW l hs ts).length cap') 5 ((fillW l hs ts).map K.pc) ∧ Ext w w'
theorem FillPost.bad {l : List K} {hs : List Ho} {ts : List ByteArray} {w w' : World} {E : Int} (h : fillE l hs ts = E) (h0 : E ≠ 0) (hE : Ext w w') : FillPost l hs ts w (.returned (.tuple #[.slice none 0 0, .int .i64 E])) w' := by
  have : fillW l hs ts = [] := by unfold fillW; rw [if_neg (by rw [h]; exact h0)]
  unfold FillPost
  rw [this, h]
  exact ⟨none, 0, rfl, ⟨none, 0, rfl, .inl rfl⟩, hE⟩
theorem FillPost.ok {l : List K} {hs : List Ho} {ts : List ByteArray} {w w' : World} {m : List K} {a : Option Addr} {n cap : Nat} (h : fillE l hs ts = 0) (hm : fillUp l hs ts hs.length = m) (hn : n = m.length) (hl : Sl w' (.slice a n cap) 5 (m.map K.pc)) (hE : Ext w w') :
    FillPost l hs ts w (.returned (.tuple #[.slice a n cap, .int .i64 0])) w' := by
  have : fillW l hs ts = m := by unfold fillW; rw [if_pos h, hm]
  unfold FillPost
  subst hn
  rw [this, h]
  exact ⟨a, cap, rfl, hl, hE⟩

end Go.Proofs.YtlobghojjfkchaaGreat

/-
Rows of texts: whether two are the same, the reference's answer.
-/
namespace Go.Proofs.YtlobghojjfkchaaGreat
open Go.RowKit

theorem texts_ext {xs ys : List ByteArray} (h0 : xs.length = ys.length) (h : ∀ i (h1 : i < xs.length) (h2 : i < ys.length), xs[i] = ys[i]) : xs = ys := List.ext_getElem h0 h

set_option maxRecDepth 100000 in set_option maxHeartbeats 4000000 in
theorem rsame11_any (xs ys : List ByteArray) (a b : Option Addr) (ca cb : Nat) (w : World) (hl : Sl w (.slice a xs.length ca) 1 (xs.map strC)) (hm : Sl w (.slice b ys.length cb) 1 (ys.map strC)) (hlen : xs.length ≤ 1000000) :
    Calls Tryz.prog 15 #[.slice a xs.length ca, .slice b ys.length cb] w fun e w' => e = .returned (.bool (decide (xs = ys))) ∧ Ext w w' := by
  have HL := Hid.mk' hl
  have HM := Hid.mk' hm
  clear hl hm
  by_cases hn : xs.length = ys.length
  case neg =>
    have hn' : (((xs.length : Nat) : Int) != ((ys.length : Nat) : Int)) = true := by simp; omega
    have HR := Hid.mk' (show decide (xs = ys) = false from decide_eq_false (fun h => hn (by rw [h])))
    rw [HR.out]
    clear hn HR
    go_enter Tryz.func15, Tryz.ntmps15
    go_wp2
    go_ret
    exact ⟨rfl, by exact eX⟩
  have hn' : (((xs.length : Nat) : Int) != ((ys.length : Nat) : Int)) = false := by simp; omega
  have HN := Hid.mk' hn
  clear hn
  go_enter Tryz.func15, Tryz.ntmps15
  go_wp2
  go_loopg [5] xs.length (fun z i wr => ∃ k : Nat, z + k = xs.length ∧ i = .int .i64 k ∧ Hid (∀ j (h1 : j < xs.length) (h2 : j < ys.length), j < k → xs[j] = ys[j]) ∧ Hid (Ext w wr))
  case atStart => exact ⟨0, by omega, rfl, Hid.mk' (fun j _ _ h => by omega), Hid.mk' (Ext.refl _)⟩
  case round =>
    obtain ⟨k, hzk, rfl, hrel, hE⟩ := hrel
    by_cases hlt : k < xs.length
    · have hlt2 : k < ys.length := by have := HN.out; omega
      obtain ⟨b1, o1, rfl, hb1, hx1⟩ := HL.out.at_ (i := k) (by simpa using hlt)
      have f0 := str_at hlt hx1 hb1 hE.out
      obtain ⟨b2, o2, rfl, hb2, hx2⟩ := HM.out.at_ (i := k) (by simpa using hlt2)
      have p0 := str_at hlt2 hx2 hb2 hE.out
      have hbw : b1 < wr.heap.size := Nat.lt_of_lt_of_le hb1 hE.out.size
      have hbw2 : b2 < wr.heap.size := Nat.lt_of_lt_of_le hb2 hE.out.size
      have HBT : Hid (xs[k] ≠ ys[k] → decide (xs = ys) = false) := Hid.mk' (fun h => decide_eq_false (fun e => h (by subst e; rfl)))
      have HBR : Hid (xs[k] = ys[k] → ∀ j (h1 : j < xs.length) (h2 : j < ys.length), j < k + 1 → xs[j] = ys[j]) := Hid.mk' (fun h j h1 h2 hj => by
        by_cases e : j = k
        · subst e; exact h
        · exact hrel.out j h1 h2 (by omega))
      obtain ⟨x, hxx⟩ : ∃ x, x = xs[k] := ⟨_, rfl⟩
      obtain ⟨y, hyy⟩ : ∃ y, y = ys[k] := ⟨_, rfl⟩
      rw [← hxx] at f0 HBT HBR
      rw [← hyy] at p0 HBT HBR
      have HLT := Hid.mk' hlt
      have hd1 : decide (xs.length ≤ k) = false := decide_eq_false (by omega)
      have hd2 : decide ((xs.length : Int) ≤ (k : Int)) = false := decide_eq_false (by omega)
      have i2 : (k : Int) < (ys.length : Int) := by have := HN.out; omega
      clear hxx hyy hx1 hx2 hrel
      by_cases hxy : x = y
      · subst hxy
        go_wp2
        go_region_held3 (fun w' => Ext (wr) w' ∧ (∀ b o, b < (wr).heap.size → w'.cell? ⟨b, o, none⟩ = (wr).cell? ⟨b, o, none⟩) ∧ (∀ b o, b < (wr).heap.size → w'.frozen? ⟨b, o, none⟩ = (wr).frozen? ⟨b, o, none⟩)) ((exact held_of (by exact eX))) (fail)
        go_wp2
        go_roundg (xs.length - (k + 1))
        case measure => have := HLT.out; omega
        case rel => exact ⟨k + 1, Nat.sub_add_cancel HLT.out, by go_num, Hid.mk' (HBR.out (by first | exact rfl | exact trivial)), Hid.mk' (hE.out.trans (by exact eX))⟩
      · have hne : (x.toList == y.toList) = false := by rw [str_beq]; exact decide_eq_false hxy
        have hne2 : (x.toList != y.toList) = true := by unfold bne; rw [hne]; rfl
        have HF := Hid.mk' (HBT.out hxy)
        clear hxy
        go_wp2
        go_region_held3 (fun w' => Ext (wr) w' ∧ (∀ b o, b < (wr).heap.size → w'.cell? ⟨b, o, none⟩ = (wr).cell? ⟨b, o, none⟩) ∧ (∀ b o, b < (wr).heap.size → w'.frozen? ⟨b, o, none⟩ = (wr).frozen? ⟨b, o, none⟩)) ((exact held_of (by exact eX))) (fail)
        go_wp2
        go_ret
        exact ⟨ret_bool HF.out.symm, hE.out.trans (by exact eX)⟩
    · have hkk : k = xs.length := by omega
      have HR := Hid.mk' (show decide (xs = ys) = true from decide_eq_true (texts_ext HN.out (fun i h1 h2 => hrel.out i h1 h2 (by omega))))
      subst hkk
      go_wp2
      go_ret
      exact ⟨ret_bool HR.out.symm, hE.out⟩

end Go.Proofs.YtlobghojjfkchaaGreat

/-
Append of any row, nil or not, to what a call owns.
-/
namespace Go.Proofs.YtlobghojjfkchaaGreat
open Go.RowKit

theorem run_app_nil {P : Program} {w : World} (base : Nat) (t ty e : TypeId) (i : TypeInfo) (size : Nat) (ht : P.underlying t = some (.slice e)) (hi : P.info? e = some i)
    (v : Value) (n : Nat) (xs : List Value) (hown : w.ownsRow base e size v n xs) (c : Nat) : (Builtin.append_ #[t, t] ty #[v, .slice none 0 c]).run P w = .ok v w := by
  rcases hown.2 with ⟨rfl, rfl⟩ | ⟨g, cap, cur, rfl, _, _, hnc, _⟩
  · simp [Builtin.append_, run_underlying ht, sizeOf, typeInfo, hi, Builtin.lenOf, Builtin.firstCells]
  · simp [Builtin.append_, run_underlying ht, sizeOf, typeInfo, hi, Builtin.lenOf, Builtin.firstCells, hnc, storeCells]
theorem news_sl {w : World} {b o k : Nat} {xss : List (List Value)} (hk0 : 0 < k) (hk : ∀ ys ∈ xss, ys.length = k) (h : ∀ i, i < xss.length → ∀ j, j < k → w.cell? ⟨b, o + i * k + j, none⟩ = (xss.getD i [])[j]?) :
    ∀ j u, xss.flatten[j]? = some u → w.cell? ((⟨b, o, none⟩ : Addr).add j) = some u := by
  intro j u hj
  have hjl : j < xss.length * k := by
    rcases Nat.lt_or_ge j (xss.length * k) with h | h
    · exact h
    · rw [List.getElem?_eq_none (by rw [flat_length k xss hk]; exact h)] at hj; cases hj
  have hplain : (⟨b, o, none⟩ : Addr).add j = ⟨b, o + j, none⟩ := by unfold Addr.add; split <;> simp_all
  have hi : j / k < xss.length := (Nat.div_lt_iff_lt_mul hk0).2 hjl
  have hq := flat_get k xss hk (j / k) hi (j % k) (Nat.mod_lt _ hk0)
  have hm : j / k * k + j % k = j := by rw [Nat.mul_comm]; exact Nat.div_add_mod j k
  rw [hm] at hq
  rw [hplain, ← hj, hq, ← h (j / k) hi (j % k) (Nat.mod_lt _ hk0), Nat.add_assoc, hm]

set_option maxRecDepth 20000 in
theorem wpList_append_sl {P : Program} {w : World} {ops : Array Oper} {rest : List Oper} {o : Oper} {a : Act} {Q : Exit → Act → World → Prop} (hgd : o.guard = none) (s x : Operand) (t : TypeId)
    (ho : o.op = .call { callee := .builtin .append, args := #[s, x], argTypes := #[t, t] })
    (base : Nat) (e : TypeId) (i : TypeInfo) (z : Value) (size bytes : Nat) (ht : P.underlying t = some (.slice e)) (hi : P.info? e = some i) (hz : i.zero = some z)
    (hsize : i.size = size) (hby : i.bytes = bytes) (hzs : z.cells.size = size) (hsz : 0 < size)
    (v : Value) (n : Nat) (xs : List Value) (hs : a.eval s = v) (hown : w.ownsRow base e size v n xs) (u : Value) (xss : List (List Value)) (hx : a.eval x = u) (hu : Sl w u size xss)
    (hk : ∀ ys ∈ xss, ys.length = size) (h1 : ∀ y ∈ xss.flatten, y.oneCell' = true) (h63 : n + xss.length ≤ maxLen) (hbytes : (n + xss.length) * bytes ≤ 140737488355328) (hbase : base ≤ w.heap.size)
    (h : ∀ v' w', w'.ownsRow base e size v' (n + xss.length) (xs ++ xss.flatten) → w.grownBy w' v.ownBlock → (v'.ownBlock = v.ownBlock ∨ v'.ownBlock = some w.heap.size) → wpList P ops Q rest (a.put o.dst v') w') : wpList P ops Q (o :: rest) a w := by
  obtain ⟨A, cap, rfl, hcs⟩ := hu
  have key : ∃ v' w', (Builtin.append_ #[t, t] o.type #[v, .slice A xss.length cap]).run P w = .ok v' w' ∧ w'.ownsRow base e size v' (n + xss.length) (xs ++ xss.flatten) ∧ w.grownBy w' v.ownBlock ∧ (v'.ownBlock = v.ownBlock ∨ v'.ownBlock = some w.heap.size) := by
    rcases A with _ | ad
    · have h0 : xss = [] := by
        rcases hcs with h | ⟨b, o, e, _⟩
        · exact h
        · cases e
      subst h0
      exact ⟨v, w, run_app_nil base t o.type e i size ht hi v n xs hown cap, by simpa using hown, ⟨rfl, rfl, rfl, Nat.le_refl _, fun _ _ _ => rfl⟩, .inl rfl⟩
    · have hn : ∀ j u, xss.flatten[j]? = some u → w.cell? (ad.add j) = some u := by
        rcases hcs with h | ⟨b, o', e', _, hc⟩
        · subst h; intro j u hj; simp at hj
        · cases e'
          exact news_sl hsz hk hc
      obtain ⟨v', w', hr, h2, h3, _, h5⟩ := run_append_own_at (P := P) w base t o.type e i z size bytes ht hi hz hsize hby hzs hsz v n xs hown ad xss.length cap xss.flatten (flat_length size xss hk) hn h1 h63 hbytes hbase
      exact ⟨v', w', hr, h2, h3, h5⟩
  obtain ⟨v', w', hrun, h2, h3, h4⟩ := key
  refine wpList_plain hgd fun K hK => ?_
  unfold Oper.wp execOp
  simp only [ho, resolve, invoke, builtin, Sem.run_bind, Sem.run_pure, Result.andThen_ok, List.map_toArray, List.map_cons, List.map_nil, hs, hx, hrun]
  exact hK _ _ (h v' w' h2 h3 h4)

end Go.Proofs.YtlobghojjfkchaaGreat

/-
Texts cut in pieces of 256 bytes: the reference's answer.
-/
namespace Go.Proofs.YtlobghojjfkchaaGreat
open Go.RowKit

theorem ext_size (s : ByteArray) : (s.extract 256 s.size).size = s.size - 256 := by rw [ByteArray.size_extract]; omega
/-- A text in pieces. -/
def pcs (s : ByteArray) : List ByteArray := if _h : 256 < s.size then s.extract 0 256 :: pcs (s.extract 256 s.size) else if s.size = 0 then [] else [s]
termination_by s.size
decreasing_by rw [ext_size]; omega
theorem pcs_big {s : ByteArray} (h : 256 < s.size) : pcs s = s.extract 0 256 :: pcs (s.extract 256 s.size) := by rw [pcs, dif_pos h]
theorem pcs_one {s : ByteArray} (h : ¬ 256 < s.size) (h0 : s.size ≠ 0) : pcs s = [s] := by rw [pcs, dif_neg h, if_neg h0]
theorem pcs_nil {s : ByteArray} (h0 : s.size = 0) : pcs s = [] := by rw [pcs, dif_neg (by omega), if_pos h0]
def splitL (xs : List ByteArray) : List ByteArray := (xs.map pcs).flatten
theorem splitL_snoc (xs : List ByteArray) (s : ByteArray) : splitL (xs ++ [s]) = splitL xs ++ pcs s := by unfold splitL; simp
theorem splitL_take {xs : List ByteArray} {k : Nat} (hk : k < xs.length) : splitL (xs.take (k + 1)) = splitL (xs.take k) ++ pcs xs[k] := by rw [List.take_succ_eq_append_getElem hk, splitL_snoc]
theorem splitL_le (xs : List ByteArray) (k : Nat) : (splitL (xs.take k)).length ≤ (splitL xs).length := by
  have h : splitL xs = splitL (xs.take k) ++ splitL (xs.drop k) := by
    unfold splitL
    rw [← List.flatten_append, ← List.map_append, List.take_append_drop]
  rw [h, List.length_append]; omega
theorem Tryz.infoStrS : (Tryz.prog.info? 9).map (fun i => (i.zero, i.size, i.bytes)) = some (some (.string ⟨#[]⟩), 1, 16) := by kernel_rfl

set_option maxRecDepth 100000 in set_option maxHeartbeats 4000000 in
theorem rsplit_any (xs : List ByteArray) (a : Option Addr) (ca : Nat) (w : World) (hl : Sl w (.slice a xs.length ca) 1 (xs.map strC)) (hlen : xs.length ≤ 1000000) (hs : ∀ s ∈ xs, s.size ≤ 1000000000) (hn : (splitL xs).length ≤ 1000000) :
    Calls Tryz.prog 55 #[.slice a xs.length ca] w fun e w' => ∃ a' c', e = .returned (.slice a' (splitL xs).length c') ∧ Sl w' (.slice a' (splitL xs).length c') 1 ((splitL xs).map strC) ∧ Ext w w' := by
  obtain ⟨i0, hi, hz0, hz1, hz2⟩ := info_parts Tryz.infoStrS
  have HL := Hid.mk' hl
  have HS := Hid.mk' hs
  have HNN := Hid.mk' hn
  have HLE := Hid.mk' (splitL_le xs)
  clear hl hs hn
  go_enter Tryz.func55, Tryz.ntmps55
  go_wp2
  go_loopg [3, 4] xs.length (fun z v i wr => ∃ k : Nat, z + k = xs.length ∧ i = .int .i64 k ∧ Hid (wr.ownsRow w.heap.size 9 1 v (splitL (xs.take k)).length ((splitL (xs.take k)).map strC).flatten) ∧ Hid (Ext w wr))
  case atStart => exact ⟨0, by omega, rfl, Hid.mk' (World.ownsRow_nil _ _ _ _), Hid.mk' (Ext.refl _)⟩
  case round =>
    obtain ⟨k, hzk, rfl, hown, hE⟩ := hrel
    by_cases hlt : k < xs.length
    · obtain ⟨b1, o1, rfl, hb1, hx1⟩ := HL.out.at_ (i := k) (by simpa using hlt)
      have f0 := str_at hlt hx1 hb1 hE.out
      have hbw : b1 < wr.heap.size := Nat.lt_of_lt_of_le hb1 hE.out.size
      have HTK := Hid.mk' (splitL_take hlt)
      have HSX := Hid.mk' (HS.out _ (List.getElem_mem hlt))
      obtain ⟨s, hss⟩ : ∃ s, s = xs[k] := ⟨_, rfl⟩
      rw [← hss] at f0 HTK HSX
      have HTL : Hid ((splitL (xs.take k)).length + (pcs s).length ≤ 1000000) := Hid.mk' (by
        have h1 := HLE.out (k + 1)
        rw [HTK.out, List.length_append] at h1
        have := HNN.out; omega)
      have HLT := Hid.mk' hlt
      have hd1 : decide (xs.length ≤ k) = false := decide_eq_false (by omega)
      have hd2 : decide ((xs.length : Int) ≤ (k : Int)) = false := decide_eq_false (by omega)
      obtain ⟨TL0, hTL⟩ : ∃ T, T = splitL (xs.take k) := ⟨_, rfl⟩
      rw [← hTL] at hown HTK HTL
      obtain ⟨wo, hwo⟩ : ∃ x, x = wr := ⟨_, rfl⟩
      subst hwo
      clear hss hx1 hTL
      go_wp2
      go_loopg [3, 5] s.size (fun z v t wr => ∃ (x : ByteArray) (d : List ByteArray), z = x.size ∧ t = .string x ∧ Hid (pcs s = d ++ pcs x) ∧ Hid (x.size ≤ 1000000000) ∧ Hid (wr.ownsRow w.heap.size 9 1 v (TL0 ++ d).length ((TL0 ++ d).map strC).flatten) ∧ Hid (Ext w wr))
      case atStart => exact ⟨s, [], rfl, rfl, Hid.mk' rfl, HSX, Hid.mk' (by rw [List.append_nil]; exact hown.out), hE⟩
      case round =>
        obtain ⟨x, d, rfl, rfl, hp, hxs, hown, hE⟩ := hrel
        by_cases h256 : 256 < x.size
        · have HBD : Hid ((TL0 ++ d).length ≤ 1000000) := Hid.mk' (by
            have h1 := HTL.out
            rw [hp.out, List.length_append] at h1
            rw [List.length_append]; omega)
          have HSN := Hid.mk' (Sl.new wr #[.string (x.extract 0 256)] 9 1 1 1 [[.string (x.extract 0 256)]] rfl (by intro xs hxs; simp at hxs; subst hxs; rfl) rfl)
          have HPN : Hid (pcs s = (d ++ [x.extract 0 256]) ++ pcs (x.extract 256 x.size)) := Hid.mk' (by rw [hp.out, pcs_big h256]; simp)
          have HZN : Hid ((x.extract 256 x.size).size < x.size ∧ (x.extract 256 x.size).size ≤ 1000000000) := Hid.mk' (by rw [ext_size]; have := hxs.out; omega)
          have hx63 : (x.size : Int) ≤ 1000000000 := by have := hxs.out; omega
          have h256i : (256 : Int) < (x.size : Int) := by omega
          go_wp2_with (at_builtin; refine wpList_append_sl rfl _ _ 41 rfl w.heap.size 9 i0 _ 1 16 Tryz.underlying41 hi hz0 hz1 hz2 rfl (by decide) _ (TL0 ++ d).length _ rfl (owns_ext hown.out ((Ext.refl wr).alloc (.cells #[.string (x.extract 0 256)] 9))) _ [[.string (x.extract 0 256)]] rfl HSN.out ?c0 ?c1 ?c2 ?c3 ?c4 ?_)
          case c0 => intro ys hys; simp at hys; subst hys; rfl
          case c1 => intro y hy; simp at hy; subst hy; rfl
          case c2 => have := HBD.out; unfold maxLen; simp only [List.length_cons, List.length_nil]; omega
          case c3 => have := HBD.out; simp only [List.length_cons, List.length_nil]; omega
          case c4 => have := hE.out.size; simp; omega
          intro v10 w10 hown10 hg10 _
          have HO10 : Hid (w10.ownsRow w.heap.size 9 1 v10 (TL0 ++ (d ++ [(x.extract 0 256)])).length ((TL0 ++ (d ++ [(x.extract 0 256)])).map strC).flatten) := Hid.mk' (by
            have h := hown10
            simp [strC, Nat.add_assoc] at h ⊢
            exact h)
          have HE10 : Hid (Ext w w10) := Hid.mk' (Ext.grown (hE.out.alloc (.cells #[.string (x.extract 0 256)] 9)) (owns_ext hown.out ((Ext.refl wr).alloc (.cells #[.string (x.extract 0 256)] 9))) hg10)
          clear hown10 hg10
          go_wp2
          go_roundg (x.extract 256 x.size).size
          case measure => exact HZN.out.1
          case rel => exact ⟨x.extract 256 x.size, d ++ [x.extract 0 256], rfl, rfl, HPN, Hid.mk' HZN.out.2, HO10, HE10⟩
        · have hx63 : (x.size : Int) ≤ 1000000000 := by have := hxs.out; omega
          by_cases h0 : x.size = 0
          · have hxe : x = ⟨#[]⟩ := by
              obtain ⟨xd⟩ := x
              have h : xd.size = 0 := h0
              rw [Array.eq_empty_of_size_eq_zero h]
            have HP0 : Hid (pcs s = d) := Hid.mk' (by rw [hp.out, pcs_nil h0, List.append_nil])
            subst hxe
            have hem : (⟨#[]⟩ : ByteArray).toList = [] := by rw [ByteArray.toList_eq]
            go_wp2
            go_roundg (xs.length - (k + 1))
            case measure => have := HLT.out; omega
            case rel => exact ⟨k + 1, Nat.sub_add_cancel HLT.out, by go_num, Hid.mk' (by rw [HTK.out, HP0.out]; exact hown.out), hE⟩
          · have HP0 : Hid (pcs s = d ++ [x]) := Hid.mk' (by rw [hp.out, pcs_one h256 h0])
            have hem : (⟨#[]⟩ : ByteArray).toList = [] := by rw [ByteArray.toList_eq]
            have hne : (x.toList == (⟨#[]⟩ : ByteArray).toList) = false := by rw [str_beq]; exact decide_eq_false (fun e => h0 (by rw [e]; rfl))
            have hne2 : (x.toList == []) = false := by rw [← hem]; exact hne
            have hne3 : x.toList ≠ [] := fun e => by rw [e] at hne2; cases hne2
            have HBD : Hid ((TL0 ++ d).length ≤ 1000000) := Hid.mk' (by
              have h1 := HTL.out
              rw [HP0.out, List.length_append] at h1
              rw [List.length_append]; omega)
            have HSN := Hid.mk' (Sl.new wr #[.string x] 9 1 1 1 [[.string x]] rfl (by intro xs hxs; simp at hxs; subst hxs; rfl) rfl)
            go_wp2_with (at_builtin; refine wpList_append_sl rfl _ _ 41 rfl w.heap.size 9 i0 _ 1 16 Tryz.underlying41 hi hz0 hz1 hz2 rfl (by decide) _ (TL0 ++ d).length _ rfl (owns_ext hown.out ((Ext.refl wr).alloc (.cells #[.string x] 9))) _ [[.string x]] rfl HSN.out ?c0 ?c1 ?c2 ?c3 ?c4 ?_)
            case c0 => intro ys hys; simp at hys; subst hys; rfl
            case c1 => intro y hy; simp at hy; subst hy; rfl
            case c2 => have := HBD.out; unfold maxLen; simp only [List.length_cons, List.length_nil]; omega
            case c3 => have := HBD.out; simp only [List.length_cons, List.length_nil]; omega
            case c4 => have := hE.out.size; simp; omega
            intro v10 w10 hown10 hg10 _
            have HO10 : Hid (w10.ownsRow w.heap.size 9 1 v10 (TL0 ++ (d ++ [x])).length ((TL0 ++ (d ++ [x])).map strC).flatten) := Hid.mk' (by
              have h := hown10
              simp [strC, Nat.add_assoc] at h ⊢
              exact h)
            have HE10 : Hid (Ext w w10) := Hid.mk' (Ext.grown (hE.out.alloc (.cells #[.string x] 9)) (owns_ext hown.out ((Ext.refl wr).alloc (.cells #[.string x] 9))) hg10)
            clear hown10 hg10
            go_wp2
            go_roundg (xs.length - (k + 1))
            case measure => have := HLT.out; omega
            case rel => exact ⟨k + 1, Nat.sub_add_cancel HLT.out, by go_num, Hid.mk' (by rw [HTK.out, HP0.out]; exact HO10.out), HE10⟩
    · obtain rfl : k = xs.length := by omega
      rw [List.take_length] at hown
      obtain ⟨a5, c5, rfl⟩ := owns_shape hown.out
      go_wp2
      go_ret
      exact ⟨a5, c5, rfl, Sl.of_owns (base := w.heap.size) (e := 9) (by rw [List.length_map]; exact hown.out) (by intro xs hxs; simp at hxs; obtain ⟨_, _, rfl⟩ := hxs; rfl), hE.out⟩

end Go.Proofs.YtlobghojjfkchaaGreat
