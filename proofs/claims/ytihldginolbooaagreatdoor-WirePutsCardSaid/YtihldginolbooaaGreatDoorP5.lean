/-
Rows: the laws' Own and Back of a list of cells; whether a law looks at so much.
-/
import Derived.Lib.ItoaNum
import Derived.Deep.RegionHeld
import Derived.Test.YtihldginolbooaaGreatDoorP3
import Derived.Test.YtihldginolbooaaGreatDoorP4
import Derived.Test.YtihldginolbooaaGreatDoorP1
namespace Go.Proofs.YtihldginolbooaaGreatDoor
open Go.RowKit

/-- A cell's cells, the program's and the document's. -/
def K.pc (c : K) : List Value := [.int .u8 c.k, .int .u8 c.v.ty, .int .i64 c.v.n, .complex .f64 c.v.x c.v.y, .string c.v.s]
def K.rc (c : K) : List Value := [.int .u8 c.k, .int .u8 c.v.ty, .int .i64 c.v.n, .int .u64 c.v.x, .int .u64 c.v.y, .string c.v.s]
theorem K.pcAt {w wr : World} {b o : Nat} {l : List K} {k : Nat} (hk : k < l.length) (hc : ∀ j, j < 5 → w.cell? ⟨b, o + k * 5 + j, none⟩ = ((l.map K.pc).getD k [])[j]?) (hb : b < w.heap.size) (hE : Ext w wr) :
    wr.cell? ⟨b, o + k * 5, none⟩ = some (.int .u8 l[k].k) ∧ wr.cell? ⟨b, o + k * 5 + 1, none⟩ = some (.int .u8 l[k].v.ty) ∧ wr.cell? ⟨b, o + k * 5 + 2, none⟩ = some (.int .i64 l[k].v.n) ∧
    wr.cell? ⟨b, o + k * 5 + 3, none⟩ = some (.complex .f64 l[k].v.x l[k].v.y) ∧ wr.cell? ⟨b, o + k * 5 + 4, none⟩ = some (.string l[k].v.s) := by
  rw [getD_map K.pc l hk] at hc
  have c := hE.cells.1 b
  exact ⟨(c _ hb).trans (hc 0 (by omega)), (c _ hb).trans (hc 1 (by omega)), (c _ hb).trans (hc 2 (by omega)), (c _ hb).trans (hc 3 (by omega)), (c _ hb).trans (hc 4 (by omega))⟩
theorem K.rcAt {w wr : World} {b o : Nat} {l : List K} {k : Nat} (hk : k < l.length) (hc : ∀ j, j < 6 → w.cell? ⟨b, o + k * 6 + j, none⟩ = ((l.map K.rc).getD k [])[j]?) (hb : b < w.heap.size) (hE : Ext w wr) :
    wr.cell? ⟨b, o + k * 6, none⟩ = some (.int .u8 l[k].k) ∧ wr.cell? ⟨b, o + k * 6 + 1, none⟩ = some (.int .u8 l[k].v.ty) ∧ wr.cell? ⟨b, o + k * 6 + 2, none⟩ = some (.int .i64 l[k].v.n) ∧
    wr.cell? ⟨b, o + k * 6 + 3, none⟩ = some (.int .u64 l[k].v.x) ∧ wr.cell? ⟨b, o + k * 6 + 4, none⟩ = some (.int .u64 l[k].v.y) ∧ wr.cell? ⟨b, o + k * 6 + 5, none⟩ = some (.string l[k].v.s) := by
  rw [getD_map K.rc l hk] at hc
  have c := hE.cells.1 b
  exact ⟨(c _ hb).trans (hc 0 (by omega)), (c _ hb).trans (hc 1 (by omega)), (c _ hb).trans (hc 2 (by omega)), (c _ hb).trans (hc 3 (by omega)), (c _ hb).trans (hc 4 (by omega)), (c _ hb).trans (hc 5 (by omega))⟩

theorem Tryz.infoCellP : (Tryz.prog.info? 142).map (fun i => (i.zero, i.size, i.bytes)) = some (some (.agg #[.int .u8 0, .int .u8 0, .int .i64 0, .complex .f64 0 0, .string ByteArray.empty]), 5, 56) := by kernel_rfl
theorem Tryz.infoCellR : (Tryz.prog.info? 123).map (fun i => (i.zero, i.size, i.bytes)) = some (some (.agg #[.int .u8 0, .int .u8 0, .int .i64 0, .int .u64 0, .int .u64 0, .string ByteArray.empty]), 6, 56) := by kernel_rfl

end Go.Proofs.YtihldginolbooaaGreatDoor

/-
What messages are made of, as bytes, in plain words.
-/
namespace Go.Proofs.YtihldginolbooaaGreatDoor
open Go.RowKit

/-- The bytes of a number, so many, the highest first. -/
def octs (x : Int) : Nat → List Int
  | 0 => []
  | n + 1 => byteAt x n :: octs x n
theorem octs_succ (x : Int) (n : Nat) : octs x (n + 1) = byteAt x n :: octs x n := rfl
theorem octs_len (x : Int) : ∀ n, (octs x n).length = n
  | 0 => rfl
  | n + 1 => by unfold octs; rw [List.length_cons, octs_len x n]
theorem octs_drop (x : Int) : ∀ (n j : Nat), j ≤ n → (octs x n).drop j = octs x (n - j)
  | n, 0, _ => by rw [List.drop_zero, Nat.sub_zero]
  | 0, j + 1, h => by omega
  | n + 1, j + 1, h => by
    rw [octs_succ, List.drop_succ_cons, octs_drop x n j (by omega), Nat.add_sub_add_right]
theorem octs_take (x : Int) {n j : Nat} (h : j < n) : (octs x n).take (j + 1) = (octs x n).take j ++ [byteAt x (n - 1 - j)] := by
  have h1 : j < (octs x n).length := by rw [octs_len]; exact h
  rw [List.take_succ_eq_append_getElem h1]
  congr 2
  have h2 : (octs x n).drop j = octs x (n - j) := octs_drop x n j (by omega)
  rw [List.drop_eq_getElem_cons h1] at h2
  obtain ⟨m, hm⟩ : ∃ m, n - j = m + 1 := ⟨n - j - 1, by omega⟩
  rw [hm, octs_succ] at h2
  injection h2 with h3 _
  rw [h3, show n - 1 - j = m by omega]
theorem byteAt_bd (x : Int) (k : Nat) : 0 ≤ byteAt x k ∧ byteAt x k < 256 := by unfold byteAt; omega
theorem octs_isB (x : Int) : ∀ n, ∀ b ∈ octs x n, 0 ≤ b ∧ b < 256
  | 0, b, h => by cases h
  | n + 1, b, h => by
    unfold octs at h
    rcases List.mem_cons.1 h with rfl | h
    · exact byteAt_bd x n
    · exact octs_isB x n b h

/-- The bytes of text. -/
def litL (l : List UInt8) : List Int := l.map fun b => (b.toNat : Int)
/-- A value's form, its spelling. -/
def formI (ty : Int) : Int := if ty = 1 ∨ ty = 2 ∨ ty = 5 then 116 else if ty = 3 ∨ ty = 4 ∨ ty = 6 then 98 else 0
def spellT (ty n : Int) (x y : Nat) (s : ByteArray) : List Int := if ty = 1 then [if n = 1 then 116 else 102] else if ty = 2 then litL (Lib.itoa n) else if ty = 3 then octs x 8 else if ty = 4 then octs x 8 ++ octs y 8 else strL s
def spellL (ty n : Int) (x y : Nat) (s : ByteArray) : List Int := if rightV ty n x y s ≠ 0 then [] else spellT ty n x y s
/-- A cell's bytes, an image's behind a letter. -/
def cellW (c : K) : List Int := if c.k = 0 then [110] else if c.k = 1 then [117] else formI c.v.ty :: (octs (spellL c.v.ty c.v.n c.v.x c.v.y c.v.s).length 4 ++ spellL c.v.ty c.v.n c.v.x c.v.y c.v.s)
def cellsW : List K → List Int
  | [] => []
  | c :: l => cellW c ++ cellsW l
theorem cellsW_snoc (l : List K) (c : K) : cellsW (l ++ [c]) = cellsW l ++ cellW c := by
  induction l with
  | nil => simp [cellsW]
  | cons a l ih => simp [cellsW, ih]
def imgW (letter : Int) (l : List K) : List Int := letter :: (octs l.length 1 ++ cellsW l)
def refW (o v : Int) : List Int := octs o 4 ++ octs v 4
def nameW (s : ByteArray) : List Int := octs s.size 1 ++ strL s
def colW (c : Col) : List Int := (if c.key = true then 1 else 0) :: (nameW c.nm ++ octs c.ty 1)
def colsW : List Col → List Int
  | [] => []
  | c :: l => colW c ++ colsW l
theorem colsW_snoc (l : List Col) (c : Col) : colsW (l ++ [c]) = colsW l ++ colW c := by
  induction l with
  | nil => simp [colsW]
  | cons a l ih => simp [colsW, ih]
def relW (r : Rl) : List Int := refW r.oid r.ver ++ (nameW r.nm ++ (octs r.id 1 ++ (octs r.cols.length 1 ++ colsW r.cols)))
def refsW : List Rf → List Int
  | [] => []
  | r :: l => refW r.o r.v ++ refsW l
theorem refsW_snoc (l : List Rf) (r : Rf) : refsW (l ++ [r]) = refsW l ++ refW r.o r.v := by
  induction l with
  | nil => simp [refsW]
  | cons a l ih => simp [refsW, ih]

end Go.Proofs.YtihldginolbooaaGreatDoor

/-
The laws' Own of a relation and of a row, once more: what they give lies in blocks of their own.
-/
namespace Go.Proofs.YtihldginolbooaaGreatDoor
open Go.RowKit

/-- A slice whose block lies from N on, below M. -/
def Fr (W : World) (N M : Nat) (v : Value) (k : Nat) (xss : List (List Value)) : Prop := Sl W v k xss ∧ ∀ b o len cap, v = .slice (some ⟨b, o, none⟩) len cap → N ≤ b ∧ (xss ≠ [] → b < M)
section
variable {W W' : World} {N M k : Nat} {v : Value} {xss : List (List Value)}
theorem Fr.ext (h : Fr W N M v k xss) (he : Ext W W') : Fr W' N M v k xss := ⟨h.1.ext he, h.2⟩
theorem Fr.drew (h : Fr W N M v k xss) : Fr W.drew N M v k xss := h.ext (Ext.refl W).drew
theorem Fr.alloc (h : Fr W N M v k xss) (o : Obj) : Fr (W.alloc o) N M v k xss := h.ext ((Ext.refl W).alloc o)
theorem Fr.set (h : Fr W N M v k xss) {p : Addr} (hp : p.block < N ∨ M ≤ p.block) (u : Value) : Fr (W.setCell p u) N M v k xss := by
  obtain ⟨h1, h2⟩ := h
  refine ⟨?_, h2⟩
  obtain ⟨a, cap, rfl, h⟩ := h1
  refine ⟨a, cap, rfl, ?_⟩
  rcases h with h0 | ⟨b, o, rfl, hb, hx⟩
  · exact .inl h0
  · by_cases h0 : xss = []
    · exact .inl h0
    · have h3 := h2 b o _ _ rfl
      have h4 := h3.2 h0
      have h5 := h3.1
      refine .inr ⟨b, o, rfl, by simpa using hb, fun i hi j hj => ?_⟩
      rw [← hx i hi j hj]
      exact World.cell?_setCell_far _ _ _ _ (by show p.block ≠ b; omega)
theorem Fr.sl (h : Fr W N M v k xss) : Sl W v k xss := h.1
theorem Fr.new {a : Option Addr} {n cap : Nat} (h : Sl W (.slice a n cap) k xss) (h2 : ∀ b o, a = some ⟨b, o, none⟩ → N ≤ b) : Fr W N W.heap.size (.slice a n cap) k xss := by
  refine ⟨h, fun b o len c e => ?_⟩
  simp only [Value.slice.injEq] at e
  obtain ⟨rfl, rfl, rfl⟩ := e
  refine ⟨h2 b o rfl, fun h0 => ?_⟩
  obtain ⟨a, c, hv, h⟩ := h
  simp only [Value.slice.injEq] at hv
  obtain ⟨rfl, -, -⟩ := hv
  rcases h with rfl | ⟨b', o', e, hb, -⟩
  · exact absurd rfl h0
  · simp only [Option.some.injEq, Addr.mk.injEq] at e
    rw [e.1]; exact hb
end

set_option maxRecDepth 100000 in set_option maxHeartbeats 1600000 in
theorem ownK_new (l : List K) (a : Option Addr) (cap : Nat) (w : World) (hl : Sl w (.slice a l.length cap) 6 (l.map K.rc)) (hlen : l.length ≤ 1000) :
    Calls Tryz.prog 45 #[.slice a l.length cap] w fun e w' => ∃ a' cap', e = .returned (.slice a' l.length cap') ∧ l.length ≤ cap' ∧ Sl w' (.slice a' l.length cap') 5 (l.map K.pc) ∧ (∀ b o, a' = some ⟨b, o, none⟩ → w.heap.size ≤ b) ∧ Ext w w' := by
  have HL := Hid.mk' hl
  clear hl
  obtain ⟨i0, hi, hz0, hz1, hz2⟩ := info_parts Tryz.infoCellP
  go_enter Tryz.func45, Tryz.ntmps45
  go_wp2
  go_loopw [3, 4] (fun v i wr => ∃ k : Nat, k ≤ l.length ∧ i = .int .i64 k ∧ Hid (wr.ownsRow w.heap.size 142 5 v k ((l.map K.pc).take k).flatten) ∧ Hid (Ext w wr)) (fun _ i _ => l.length - (intOf i).toNat)
  case atStart => exact ⟨0, Nat.zero_le _, rfl, World.ownsRow_nil _ _ _ _, Ext.refl _⟩
  case round =>
    obtain ⟨k, hk, rfl, hown, hE⟩ := hrel
    by_cases hlt : k < l.length
    · obtain ⟨b, o, rfl, hb, hx⟩ := HL.out.at_ (i := k) (by simpa using hlt)
      obtain ⟨f0, f1, f2, f3, f4, f5⟩ := K.rcAt hlt hx hb hE.out
      have hbw : b < wr.heap.size := Nat.lt_of_lt_of_le hb hE.out.size
      have HT := Hid.mk' (flat_snoc (f := K.pc) hlt)
      have HC := Hid.mk' (fun w => cown_any l[k].k l[k].v.ty l[k].v.n l[k].v.x l[k].v.y l[k].v.s w)
      simp only [Int.toNat_natCast] at HC
      obtain ⟨c, hc⟩ : ∃ c, c = l[k] := ⟨_, rfl⟩
      rw [← hc] at f0 f1 f2 f3 f4 f5 HT HC
      clear hc hx
      go_wp2_with (first
        | (go_at_call 76; refine (HC.out _).mono ?_; rintro e w1 ⟨rfl, hb1⟩; have HB1 := Hid.mk' hb1; have hz1' := hb1.size; clear hb1)
        | (at_builtin; refine wpList_append_own _ rfl _ _ 51 rfl w.heap.size 142 i0 _ 5 56 Tryz.underlying51 hi hz0 hz1 hz2 rfl (by decide) _ _ _ rfl ((owns_ext hown.out HB1.out).alloc _) ⟨_, 0, none⟩ 1 1 c.pc rfl rfl ?c1 ?c2 ?c3 ?c4 ?c5 ?_))
      case c1 => exact cells_new _ #[.int .u8 c.k, .int .u8 c.v.ty, .int .i64 c.v.n, .complex .f64 c.v.x c.v.y, .string c.v.s] _
      case c2 => intro u hu; simp [K.pc] at hu; rcases hu with rfl | rfl | rfl | rfl | rfl <;> rfl
      case c3 => unfold maxLen; omega
      case c4 => omega
      case c5 => have := (hE.out.trans HB1.out).size; simp; omega
      · intro v' w2 hown' hgrow _
        have HE2 := Hid.mk' (((hE.out.trans HB1.out).alloc _).grown ((owns_ext hown.out HB1.out).alloc _) hgrow)
        have HO2 := Hid.mk' hown'
        clear hown' hgrow
        go_wp2
        go_roundw
        case rel => exact ⟨k + 1, by omega, by go_num, Hid.mk' (by rw [HT.out]; exact HO2.out), HE2⟩
        case measure => simp [intOf]; omega
    · have hkk : k = l.length := by omega
      subst hkk
      rw [show l.length = (l.map K.pc).length by simp, List.take_length] at hown
      rw [List.length_map] at hown
      obtain ⟨a', c', rfl⟩ := owns_shape hown.out
      go_wp2
      go_ret
      refine ⟨a', c', rfl, owns_cap hown.out, Sl.of_owns (base := w.heap.size) (e := 142) ?_ ?_, fun b o e => (hown.out.lt b (by rw [e]; rfl)).1, hE.out⟩
      · have e : (l.map K.pc).length = l.length := by simp
        rw [e]; exact hown.out
      · intro xs hxs; simp at hxs; obtain ⟨a, _, rfl⟩ := hxs; rfl


theorem ownK_fr (l : List K) (a : Option Addr) (cap : Nat) (w : World) (hl : Sl w (.slice a l.length cap) 6 (l.map K.rc)) (hlen : l.length ≤ 1000) :
    Calls Tryz.prog 45 #[.slice a l.length cap] w fun e w' => ∃ a' cap', e = .returned (.slice a' l.length cap') ∧ l.length ≤ cap' ∧ Fr w' w.heap.size w'.heap.size (.slice a' l.length cap') 5 (l.map K.pc) ∧ Ext w w' := by
  refine (ownK_new l a cap w hl hlen).mono fun e w' h => ?_
  obtain ⟨a', c', h1, h2, h3, h4, h5⟩ := h
  exact ⟨a', c', h1, h2, Fr.new h3 h4, h5⟩

end Go.Proofs.YtihldginolbooaaGreatDoor
