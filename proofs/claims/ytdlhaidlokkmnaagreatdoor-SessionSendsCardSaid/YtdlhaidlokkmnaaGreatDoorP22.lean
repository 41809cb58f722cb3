/-
Messages in plain words: what is wrong with one, its bytes.
-/
import Derived.Test.YtdlhaidlokkmnaaGreatDoorP6
import Derived.Test.YtdlhaidlokkmnaaGreatDoorP21
import Derived.Test.YtdlhaidlokkmnaaGreatDoorP10
import Derived.Test.YtdlhaidlokkmnaaGreatDoorP5
set_option maxRecDepth 100000
set_option maxHeartbeats 16000000
namespace Go.Proofs.YtdlhaidlokkmnaaGreatDoor
open Go.RowKit
structure Msg where
  k : Int
  x : Int
  st : Int
  n : Int
  r : Rl
  e : Ev
def Rl0 : Rl := ⟨0, 0, ⟨#[]⟩, 0, []⟩
def Ev0 : Ev := ⟨0, 0, 0, 0, [], [], [], 0⟩
def wkind (k : Int) : Int := if k = 73 then 4 else if k = 85 then 5 else if k = 68 then 6 else if k = 84 then 7 else 0
def wlet (k : Int) : Bool := decide (k = 66 ∨ k = 67 ∨ k = 82 ∨ 0 < wkind k)
noncomputable def msgB (a b : Msg) : Bool := decide (a.k = b.k ∧ a.x = b.x ∧ a.st = b.st ∧ a.n = b.n) && rlB a.r b.r && evB a.e b.e
theorem msgB_true {a b : Msg} : msgB a b = true ↔ a = b := by
  unfold msgB
  rw [Bool.and_eq_true, Bool.and_eq_true, rlB_true, evB_true, decide_eq_true_eq]
  obtain ⟨k, x, st, n, r, e⟩ := a
  obtain ⟨k', x', st', n', r', e'⟩ := b
  simp only [Msg.mk.injEq]
  constructor
  · rintro ⟨⟨⟨h1, h2, h3, h4⟩, h5⟩, h6⟩; exact ⟨h1, h2, h3, h4, h5, h6⟩
  · rintro ⟨h1, h2, h3, h4, h5, h6⟩; exact ⟨⟨⟨h1, h2, h3, h4⟩, h5⟩, h6⟩
def Msg.own (m : Msg) : Msg := if m.k = 66 then ⟨66, m.x, m.st, 0, Rl0, Ev0⟩ else if m.k = 67 then ⟨67, m.x, 0, m.n, Rl0, Ev0⟩ else if m.k = 82 then ⟨82, 0, 0, 0, m.r, Ev0⟩ else ⟨m.k, 0, 0, 0, Rl0, m.e⟩
noncomputable def msgE (m : Msg) (rs : List Rl) : Int :=
  if wlet m.k = false then 7 else if msgB m m.own = false then 3 else if m.k = 66 ∨ m.k = 67 then (if m.x = 0 then 4 else 0) else if m.k = 82 then m.r.right else if m.e.kind ≠ wkind m.k then 7 else evE m.e rs
def msgOf (e : Ev) : Msg := if e.kind = 4 then ⟨73, 0, 0, 0, Rl0, e⟩ else if e.kind = 5 then ⟨85, 0, 0, 0, Rl0, e⟩ else if e.kind = 6 then ⟨68, 0, 0, 0, Rl0, e⟩ else if e.kind = 7 then ⟨84, 0, 0, 0, Rl0, e⟩ else ⟨0, 0, 0, 0, Rl0, Ev0⟩
def bodyW (m : Msg) : List Int :=
  if m.k = 66 then octs m.x 4 ++ octs m.st 8 else if m.k = 67 then octs m.x 4 ++ octs m.n 4 else if m.k = 82 then relW m.r else if m.k = 84 then octs m.e.rs.length 1 ++ (octs m.e.fl 1 ++ refsW m.e.rs)
  else refW m.e.ao m.e.av ++ ((if m.e.old = 1 then imgW 75 m.e.b else if m.e.old = 2 then imgW 79 m.e.b else []) ++ (if m.k = 68 then [] else imgW 78 m.e.a))
noncomputable def msgW (m : Msg) (rs : List Rl) : List Int := if msgE m rs ≠ 0 then [] else m.k :: (octs (bodyW m).length 4 ++ bodyW m)
theorem flatK_len (l : List K) : (l.map K.pc).flatten.length = l.length * 5 := by
  have := flat_length 5 (l.map K.pc) (fun xs hxs => by simp at hxs; obtain ⟨c, _, rfl⟩ := hxs; rfl)
  rwa [List.length_map] at this
theorem news_row {w : World} {b o : Nat} {l : List K} (h : ∀ i, i < l.length → ∀ j, j < 5 → w.cell? ⟨b, o + i * 5 + j, none⟩ = ((l.map K.pc).getD i [])[j]?) : ∀ j u, ((l.map K.pc).flatten)[j]? = some u → w.cell? ((⟨b, o, none⟩ : Addr).add j) = some u := by
  intro j u hj
  have hjl : j < l.length * 5 := by
    rcases Nat.lt_or_ge j (l.length * 5) with h | h
    · exact h
    · rw [List.getElem?_eq_none (by rw [flatK_len]; exact h)] at hj; cases hj
  have hplain : (⟨b, o, none⟩ : Addr).add j = ⟨b, o + j, none⟩ := by unfold Addr.add; split <;> simp_all
  have hi : j / 5 < l.length := by omega
  have hq := flat_get 5 (l.map K.pc) (fun xs hxs => by simp at hxs; obtain ⟨c, _, rfl⟩ := hxs; rfl) (j / 5) (by simpa using hi) (j % 5) (Nat.mod_lt _ (by decide))
  have hm : j / 5 * 5 + j % 5 = j := by omega
  rw [hm] at hq
  rw [hplain, ← hj, hq, ← h (j / 5) hi (j % 5) (Nat.mod_lt _ (by decide)), Nat.add_assoc, hm]
theorem clonek_any (l : List K) (a : Option Addr) (cap : Nat) (w : World) (hl : Sl w (.slice a l.length cap) 5 (l.map K.pc)) (hlen : l.length ≤ 1000) :
    Calls Tryz.prog 97 #[.slice a l.length cap] w fun e w' => ∃ a' cap', e = .returned (.slice a' l.length cap') ∧ w'.ownsRow w.heap.size 159 5 (.slice a' l.length cap') l.length ((l.map K.pc).flatten) ∧ Ext w w' := by
  obtain ⟨i0, hi, hz0, hz1, hz2⟩ := info_parts Tryz.infoCellP
  have HL := Hm hl
  clear hl
  cases a with
  | none =>
    have h0 : l = [] := by
      obtain ⟨a, c, hv, h⟩ := HL.out
      simp only [Value.slice.injEq] at hv
      rcases h with h | ⟨b, o, ha, _⟩
      · simpa using h
      · rw [← hv.1] at ha; cases ha
    obtain ⟨a, c, hv, -⟩ := HL.out
    subst h0
    clear HL hv
    go_enter Tryz.func97, Tryz.ntmps97
    go_wp2
    go_ret
    exact ⟨_, _, rfl, World.ownsRow_nil _ _ _ _, by exact eX⟩
  | some ad =>
    have hnews : ∀ j u, ((l.map K.pc).flatten)[j]? = some u → (w.alloc (.cells #[] 159)).cell? (ad.add j) = some u := by
      obtain ⟨a, c, hv, h⟩ := HL.out
      simp only [Value.slice.injEq] at hv
      obtain ⟨rfl, -, -⟩ := hv
      rcases h with h | ⟨b, o, ha, hb, hc⟩
      · have h0 : l = [] := by simpa using h
        subst h0; intro j u hj; simp at hj
      · cases ha
        refine news_row fun i hi j hj => ?_
        have hE : Ext w (w.alloc (.cells #[] 159)) := (Ext.refl w).alloc _
        rw [hE.cells.1 b _ hb]
        exact hc i (by simpa using hi) j hj
    have HN := Hm hnews
    clear HL hnews
    go_enter Tryz.func97, Tryz.ntmps97
    go_wp2_with (at_builtin; refine wpList_append_own _ rfl _ _ 71 rfl w.heap.size 159 i0 _ 5 56 Tryz.underlying71 hi hz0 hz1 hz2 rfl (by decide) (.slice (some ⟨w.heap.size, 0, none⟩) 0 0) 0 [] rfl ?c0 _ l.length _ ((l.map K.pc).flatten) rfl (flatK_len l) HN.out ?c2 ?c3 ?c4 ?c5 ?_)
    case c0 => exact ⟨rfl, .inr ⟨_, 0, #[], rfl, Nat.le_refl _, Blk.new w #[] _, Nat.le_refl _, Nat.zero_le _, rfl, rfl⟩⟩
    case c2 => intro u hu; rw [List.mem_flatten] at hu; obtain ⟨xs, hxs, hu⟩ := hu; rw [List.mem_map] at hxs; obtain ⟨c, _, rfl⟩ := hxs; simp [K.pc] at hu; rcases hu with rfl | rfl | rfl | rfl | rfl <;> rfl
    case c3 => unfold maxLen; omega
    case c4 => omega
    case c5 => simp
    intro v' w2 hown hgrow _
    have hown : w2.ownsRow w.heap.size 159 5 v' l.length ((l.map K.pc).flatten) := by simpa using hown
    have hE2 : Ext w w2 := ((Ext.refl w).alloc (.cells #[] 159)).grown (v := .slice (some ⟨w.heap.size, 0, none⟩) 0 0) (e := 159) (size := 5) (n := 0) (xs := []) ⟨rfl, .inr ⟨_, 0, #[], rfl, Nat.le_refl _, Blk.new w #[] _, Nat.le_refl _, Nat.zero_le _, rfl, rfl⟩⟩ hgrow
    obtain ⟨a', c', rfl⟩ := owns_shape hown
    have HO := Hm hown
    have HE2 := Hm hE2
    clear hown hE2 hgrow
    go_wp2
    go_ret
    exact ⟨a', c', rfl, HO.out, HE2.out⟩
structure EL.owned (N : Nat) (W : World) (y : EL) : Prop where
  b : W.ownsRow N 159 5 (.slice y.ba y.e.b.length y.bc) y.e.b.length ((y.e.b.map K.pc).flatten)
  a : W.ownsRow N 159 5 (.slice y.aa y.e.a.length y.ac) y.e.a.length ((y.e.a.map K.pc).flatten)
  r : W.ownsRow N 66 2 (.slice y.ra y.e.rs.length y.rc) y.e.rs.length ((y.e.rs.map Rf.cells).flatten)
def usesE (e : Ev) : List Rf := if rowedB e.kind = true then [⟨e.ao, e.av⟩] else if e.kind = 7 then e.rs else []
theorem ecopy_any (x : EL) (w : World) (hx : x.at 5 K.pc w) (hs : x.e.small) :
    Calls Tryz.prog 64 #[x.agg] w fun e w' => ∃ y : EL, e = .returned y.agg ∧ y.e = x.e ∧ y.owned w.heap.size w' ∧ Ext w w' := by
  obtain ⟨⟨k1, ao1, av1, old1, b1, a1, r1, fl1⟩, ba1, bc1, aa1, ac1, ra1, rc1⟩ := x
  have HCB := Hm (fun W (h : Ext w W) => clonek_any b1 ba1 bc1 W (hx.b.ext h) hs.b)
  have HCA := Hm (fun W (h : Ext w W) => clonek_any a1 aa1 ac1 W (hx.a.ext h) hs.a)
  have HCR := Hm (fun W (h : Ext w W) => clonef_any r1 ra1 rc1 W (hx.r.ext h) hs.r)
  unfold EL.agg
  simp only
  clear hx hs
  go_enter Tryz.func64, Tryz.ntmps64
  go_upto_region 1 with (fail)
  have hV : Blk ((w.alloc (.cells #[.int .u8 k1, .int .u32 ao1, .int .u32 av1, .int .u8 old1, .slice ba1 b1.length bc1, .slice aa1 a1.length ac1, .slice ra1 r1.length rc1, .int .u8 fl1] 74)).alloc (.cells #[.int .u8 0, .int .u32 0, .int .u32 0, .int .u8 0, .slice none 0 0, .slice none 0 0, .slice none 0 0, .int .u8 0] 74)) w.heap.size #[.int .u8 k1, .int .u32 ao1, .int .u32 av1, .int .u8 old1, .slice ba1 b1.length bc1, .slice aa1 a1.length ac1, .slice ra1 r1.length rc1, .int .u8 fl1] 74 := (Blk.new w #[.int .u8 k1, .int .u32 ao1, .int .u32 av1, .int .u8 old1, .slice ba1 b1.length bc1, .slice aa1 a1.length ac1, .slice ra1 r1.length rc1, .int .u8 fl1] 74).alloc _
  have hZ : Blk ((w.alloc (.cells #[.int .u8 k1, .int .u32 ao1, .int .u32 av1, .int .u8 old1, .slice ba1 b1.length bc1, .slice aa1 a1.length ac1, .slice ra1 r1.length rc1, .int .u8 fl1] 74)).alloc (.cells #[.int .u8 0, .int .u32 0, .int .u32 0, .int .u8 0, .slice none 0 0, .slice none 0 0, .slice none 0 0, .int .u8 0] 74)) (w.heap.size + 1) #[.int .u8 0, .int .u32 0, .int .u32 0, .int .u8 0, .slice none 0 0, .slice none 0 0, .slice none 0 0, .int .u8 0] 74 := Blk.new' (w := w.alloc (.cells #[.int .u8 k1, .int .u32 ao1, .int .u32 av1, .int .u8 old1, .slice ba1 b1.length bc1, .slice aa1 a1.length ac1, .slice ra1 r1.length rc1, .int .u8 fl1] 74)) _ _ (by simp)
  have hE : Ext w ((w.alloc (.cells #[.int .u8 k1, .int .u32 ao1, .int .u32 av1, .int .u8 old1, .slice ba1 b1.length bc1, .slice aa1 a1.length ac1, .slice ra1 r1.length rc1, .int .u8 fl1] 74)).alloc (.cells #[.int .u8 0, .int .u32 0, .int .u32 0, .int .u8 0, .slice none 0 0, .slice none 0 0, .slice none 0 0, .int .u8 0] 74)) := by exact eX
  obtain ⟨w0, hw0⟩ : ∃ w0, w0 = (w.alloc (.cells #[.int .u8 k1, .int .u32 ao1, .int .u32 av1, .int .u8 old1, .slice ba1 b1.length bc1, .slice aa1 a1.length ac1, .slice ra1 r1.length rc1, .int .u8 fl1] 74)).alloc (.cells #[.int .u8 0, .int .u32 0, .int .u32 0, .int .u8 0, .slice none 0 0, .slice none 0 0, .slice none 0 0, .int .u8 0] 74) := ⟨_, rfl⟩
  have hz0 : w0.heap.size = w.heap.size + 1 + 1 := by rw [hw0]; simp
  rw [← hw0] at hV hZ hE ⊢
  have HV := Hm hV
  have HZ := Hm hZ
  have HE := Hm hE
  have HZ0 := Hm hz0
  clear hw0 hV hZ hE hz0
  have gv := HV.out.cell
  have gvf := HV.out.frozen
  have zv := HV.out.lt
  have hA0 : Hid ((fun w' => Ext (w0) w' ∧ (∀ b o, b < (w0).heap.size → w'.cell? ⟨b, o, none⟩ = (w0).cell? ⟨b, o, none⟩) ∧ (∀ b o, b < (w0).heap.size → w'.frozen? ⟨b, o, none⟩ = (w0).frozen? ⟨b, o, none⟩)) w0.drew) := held_of (by exact eX)
  refine wp_region_head 10 (fun w' => Ext (w0) w' ∧ (∀ b o, b < (w0).heap.size → w'.cell? ⟨b, o, none⟩ = (w0).cell? ⟨b, o, none⟩) ∧ (∀ b o, b < (w0).heap.size → w'.frozen? ⟨b, o, none⟩ = (w0).frozen? ⟨b, o, none⟩)) (by kernel_rfl) (by decide) ?_
  (refine wpHd_take (i := 0) (v := ?_) rfl (by kernel_rfl) (by kernel_rfl) (by kernel_rfl) (fun _ _ _ h => h) (Or.inl ⟨by rfl, ?_⟩) hA0.out ?_; rotate_left 1; · (intro w' hS'; (obtain ⟨hEs', hcs', hfs'⟩ := hS'); go_simp; try with_reducible rfl))
  (refine wpHd_take (i := 1) (v := ?_) rfl (by kernel_rfl) (by kernel_rfl) (by kernel_rfl) (fun _ _ _ h => h) (Or.inl ⟨by rfl, ?_⟩) hA0.out ?_; rotate_left 1; · (intro w' hS'; (obtain ⟨hEs', hcs', hfs'⟩ := hS'); go_simp; try with_reducible rfl))
  (refine wpHd_take (i := 3) (v := ?_) rfl (by kernel_rfl) (by kernel_rfl) (by kernel_rfl) (fun _ _ _ h => h) (Or.inl ⟨by rfl, ?_⟩) hA0.out ?_; rotate_left 1; · (intro w' hS'; (obtain ⟨hEs', hcs', hfs'⟩ := hS'); go_simp; try with_reducible rfl))
  (refine wpHd_take (i := 4) (v := ?_) rfl (by kernel_rfl) (by kernel_rfl) (by kernel_rfl) (fun _ _ _ h => h) (Or.inl ⟨by rfl, ?_⟩) hA0.out ?_; rotate_left 1; · (intro w' hS'; (obtain ⟨hEs', hcs', hfs'⟩ := hS'); go_simp; try with_reducible rfl))
  (refine wpHd_take (i := 6) (v := ?_) rfl (by kernel_rfl) (by kernel_rfl) (by kernel_rfl) (fun _ _ _ h => h) (Or.inl ⟨by rfl, ?_⟩) hA0.out ?_; rotate_left 1; · (intro w' hS'; (obtain ⟨hEs', hcs', hfs'⟩ := hS'); go_simp; try with_reducible rfl))
  (refine wpHd_take (i := 7) (v := ?_) rfl (by kernel_rfl) (by kernel_rfl) (by kernel_rfl) (fun _ _ _ h => h) (Or.inl ⟨by rfl, ?_⟩) hA0.out ?_; rotate_left 1; · (intro w' hS'; (obtain ⟨hEs', hcs', hfs'⟩ := hS'); go_simp; try with_reducible rfl))
  refine wpHd_one (i := 2) rfl rfl (by kernel_rfl) (fun K hK => ?_)
  go_simp
  refine (HCB.out _ (by have := HE.out; exact eX)).mono ?_
  rintro e w2 ⟨b', bc', rfl, ho2, hb2⟩
  have HB2 := Hm (show Ext w0 w2 by exact eX)
  have HO2 := Hm ho2
  refine hK.out _ _ (held_of HB2.out) (fun hA => ?_)
  clear hK K hA ho2 hb2 hA0
  have hA0 : Hid ((fun w' => Ext (w0) w' ∧ (∀ b o, b < (w0).heap.size → w'.cell? ⟨b, o, none⟩ = (w0).cell? ⟨b, o, none⟩) ∧ (∀ b o, b < (w0).heap.size → w'.frozen? ⟨b, o, none⟩ = (w0).frozen? ⟨b, o, none⟩)) w2) := held_of HB2.out
  (refine wpHd_take (i := 9) (v := ?_) rfl (by kernel_rfl) (by kernel_rfl) (by kernel_rfl) (fun _ _ _ h => h) (Or.inl ⟨by rfl, ?_⟩) hA0.out ?_; rotate_left 1; · (intro w' hS'; (obtain ⟨hEs', hcs', hfs'⟩ := hS'); go_simp; try with_reducible rfl))
  refine wpHd_one (i := 5) rfl rfl (by kernel_rfl) (fun K hK => ?_)
  go_simp
  refine (HCA.out _ (HE.out.trans HB2.out)).mono ?_
  rintro e w5 ⟨a', ac', rfl, ho5, hb5⟩
  have HB5 := Hm hb5
  have HO5 := Hm ho5
  refine hK.out _ _ (held_of (HB2.out.trans HB5.out)) (fun hA => ?_)
  clear hK K hA ho5 hb5 hA0
  refine wpHd_one (i := 8) rfl rfl (by kernel_rfl) (fun K hK => ?_)
  go_simp
  refine (HCR.out _ (HE.out.trans (HB2.out.trans HB5.out))).mono ?_
  rintro e w8 ⟨r', rc', rfl, ho8, hb8⟩
  have HB8 := Hm hb8
  have HO8 := Hm ho8
  refine hK.out _ _ (held_of (HB2.out.trans (HB5.out.trans HB8.out))) (fun hA => ?_)
  clear hK K hA ho8 hb8
  refine wpHd_tail (by kernel_rfl) ?_
  simp only [List.drop_succ_cons, List.drop_zero]
  have HV8 := Hm (HV.out.ext (HB2.out.trans (HB5.out.trans HB8.out)))
  have HZ8 := Hm (HZ.out.ext (HB2.out.trans (HB5.out.trans HB8.out)))
  have HE8 := Hm (HE.out.trans (HB2.out.trans (HB5.out.trans HB8.out)))
  clear gv gvf zv
  have gv := HV8.out.cell
  have gvf := HV8.out.frozen
  have zv := HV8.out.lt
  have gz := HZ8.out.cell
  have gzf := HZ8.out.frozen
  have zz := HZ8.out.lt
  go_wp2
  simp [bodyPost, results, Tryz.results64, go_sem, *]
  have h0 := HZ0.out
  have h2 := HB2.out.size
  have h5 := HB5.out.size
  have hE8 := HE8.out
  refine ⟨⟨⟨k1, ao1, av1, old1, b1, a1, r1, fl1⟩, b', bc', a', ac', r', rc'⟩, ⟨rfl, rfl, rfl, rfl, ⟨rfl, rfl, rfl⟩, ⟨rfl, rfl, rfl⟩, ⟨rfl, rfl, rfl⟩, rfl⟩, rfl, ⟨?_, ?_, ?_⟩, by exact eX⟩
  · refine owns_base (base := w0.heap.size) ?_ (by omega)
    repeat (with_reducible refine owns_set ?_ (by dsimp only; omega) _)
    exact owns_ext HO2.out (HB5.out.trans HB8.out)
  · refine owns_base (base := w2.heap.size) ?_ (by omega)
    repeat (with_reducible refine owns_set ?_ (by dsimp only; omega) _)
    exact owns_ext HO5.out HB8.out
  · refine owns_base (base := w5.heap.size) ?_ (by omega)
    repeat (with_reducible refine owns_set ?_ (by dsimp only; omega) _)
    exact HO8.out
theorem one_owns {W : World} {N : Nat} (o v : Int) (hN : N ≤ W.heap.size) : (W.alloc (.cells #[.int .u32 o, .int .u32 v] 66)).ownsRow N 66 2 (.slice (some ⟨W.heap.size, 0, none⟩) 1 1) 1 ((([⟨o, v⟩] : List Rf).map Rf.cells).flatten) :=
  ⟨rfl, .inr ⟨W.heap.size, 1, #[.int .u32 o, .int .u32 v], rfl, hN, Blk.new W _ _, Nat.le_refl _, by unfold maxLen; omega, rfl, rfl⟩⟩
theorem euses_any (x : EL) (w : World) (hx : x.at 5 K.pc w) (hs : x.e.small) :
    Calls Tryz.prog 33 #[x.agg] w fun e w' => ∃ (a' : Option Addr) (n c' : Nat), e = .returned (.slice a' n c') ∧ n = (usesE x.e).length ∧ w'.ownsRow w.heap.size 66 2 (.slice a' n c') n ((usesE x.e).map Rf.cells).flatten ∧ Ext w w' := by
  have HRW := Hm (fun W => rowed_any x W)
  obtain ⟨⟨k1, ao1, av1, old1, b1, a1, r1, fl1⟩, ba1, bc1, aa1, ac1, ra1, rc1⟩ := x
  have HCR := Hm (fun W (h : Ext w W) => clonef_any r1 ra1 rc1 W (hx.r.ext h) hs.r)
  unfold EL.agg at HRW ⊢
  simp only at HRW ⊢
  clear hx hs
  cases hr : rowedB k1 with
  | true =>
    have HU := Hm (show usesE ⟨k1, ao1, av1, old1, b1, a1, r1, fl1⟩ = [⟨ao1, av1⟩] from if_pos hr)
    rw [hr] at HRW
    clear hr
    go_enter Tryz.func33, Tryz.ntmps33
    go_wp2_with (go_at_call 62; refine (HRW.out _).mono ?_; rintro e w1 ⟨rfl, hb1⟩; (have hE_w1 : Ext (w.alloc (.cells #[.int .u8 k1, .int .u32 ao1, .int .u32 av1, .int .u8 old1, .slice ba1 b1.length bc1, .slice aa1 a1.length ac1, .slice ra1 r1.length rc1, .int .u8 fl1] 74)) w1 := (by exact eX); obtain ⟨hc_w1, hf_w1⟩ := hE_w1.cells; have hz_w1 := hE_w1.size); have HB1 := Hm hb1)
    go_ret
    refine ⟨_, _, _, rfl, by rw [HU.out]; rfl, ?_, by exact eX⟩
    rw [HU.out]
    exact one_owns ao1 av1 (by have := HB1.out.size; simp at this; omega)
  | false =>
    rw [hr] at HRW
    by_cases h7 : k1 = 7
    · have HU := Hm (show usesE ⟨k1, ao1, av1, old1, b1, a1, r1, fl1⟩ = r1 from (if_neg (by rw [hr]; simp)).trans (if_pos h7))
      have h7' : (k1 == 7) = true := by simpa using h7
      clear hr h7
      go_enter Tryz.func33, Tryz.ntmps33
      go_wp2_with (first
        | (go_at_call 62; refine (HRW.out _).mono ?_; rintro e w1 ⟨rfl, hb1⟩; (have hE_w1 : Ext (w.alloc (.cells #[.int .u8 k1, .int .u32 ao1, .int .u32 av1, .int .u8 old1, .slice ba1 b1.length bc1, .slice aa1 a1.length ac1, .slice ra1 r1.length rc1, .int .u8 fl1] 74)) w1 := (by exact eX); obtain ⟨hc_w1, hf_w1⟩ := hE_w1.cells; have hz_w1 := hE_w1.size); have HB1 := Hm hb1)
        | (go_at_call 63; refine (HCR.out _ (by exact eX)).mono ?_; rintro e w2 ⟨a', c', rfl, ho2, hb2⟩; have HO2 := Hm ho2; clear ho2))
      go_ret
      refine ⟨_, _, _, rfl, by rw [HU.out], ?_, by exact eX⟩
      rw [HU.out]
      exact owns_base HO2.out (by have := HB1.out.size; simp at this; omega)
    · have HU := Hm (show usesE ⟨k1, ao1, av1, old1, b1, a1, r1, fl1⟩ = [] from (if_neg (by rw [hr]; simp)).trans (if_neg h7))
      have h7' : (k1 == 7) = false := by simpa using h7
      clear hr h7
      go_enter Tryz.func33, Tryz.ntmps33
      go_wp2_with (go_at_call 62; refine (HRW.out _).mono ?_; rintro e w1 ⟨rfl, hb1⟩; (have hE_w1 : Ext (w.alloc (.cells #[.int .u8 k1, .int .u32 ao1, .int .u32 av1, .int .u8 old1, .slice ba1 b1.length bc1, .slice aa1 a1.length ac1, .slice ra1 r1.length rc1, .int .u8 fl1] 74)) w1 := (by exact eX); obtain ⟨hc_w1, hf_w1⟩ := hE_w1.cells; have hz_w1 := hE_w1.size))
      go_ret
      refine ⟨_, _, _, rfl, by rw [HU.out]; rfl, ?_, by exact eX⟩
      rw [HU.out]
      exact World.ownsRow_nil _ _ _ _
theorem one_owns2 {W : World} {N : Nat} {T : TypeId} (o v : Int) (hN : N ≤ W.heap.size) : (W.alloc (.cells #[.int .u32 o, .int .u32 v] T)).ownsRow N T 2 (.slice (some ⟨W.heap.size, 0, none⟩) 1 1) 1 ((([⟨o, v⟩] : List Rf).map Rf.cells).flatten) :=
  ⟨rfl, .inr ⟨W.heap.size, 1, #[.int .u32 o, .int .u32 v], rfl, hN, Blk.new W _ _, Nat.le_refl _, by unfold maxLen; omega, rfl, rfl⟩⟩
def GreatK (l : List K) (cols : List Col) (nm : ByteArray) (w : World) (e : Ending) (w' : World) : Prop :=
  ∃ g : Bool, e = .returned (.bool g) ∧ (g = false → (∀ c ∈ l, c.v.s.size ≤ 3000) ∧ (∀ c ∈ cols, c.nm.size ≤ 60) ∧ l.length ≤ 20 ∧ cols.length ≤ 20 ∧ nm.size ≤ 60) ∧ Ext w w'
theorem greatK_any (l : List K) (a : Option Addr) (cap : Nat) (oid ver : Int) (nm : ByteArray) (id : Int) (cols : List Col) (a2 : Option Addr) (cap2 : Nat) (w : World) (hl : Sl w (.slice a l.length cap) 6 (l.map K.rc)) (hl2 : Sl w (.slice a2 cols.length cap2) 3 (cols.map Col.cells))
    (hlen : l.length ≤ 9223372036854775807) (hlen2 : cols.length ≤ 9223372036854775807) (hs : ∀ c ∈ l, c.v.s.size ≤ 9223372036854775807) (hs2 : ∀ c ∈ cols, c.nm.size ≤ 9223372036854775807) (hnm : nm.size ≤ 9223372036854775807) :
    Calls Tryz.prog 12 #[.slice a l.length cap, .agg #[.int .u32 oid, .int .u32 ver, .string nm, .int .u8 id, .slice a2 cols.length cap2]] w (GreatK l cols nm w) := by
  have HL := Hm hl
  have HL2 := Hm hl2
  have HS := Hm hs
  have HS2 := Hm hs2
  clear hl hl2 hs hs2
  go_enter Tryz.func12, Tryz.ntmps12
  go_wp2
  go_loopw [5] (fun i wr => ∃ k : Nat, k ≤ l.length ∧ i = .int .i64 k ∧ Hid (∀ j (hj : j < l.length), j < k → l[j].v.s.size ≤ 3000) ∧ Hid (Ext (w.alloc (.cells #[.int .u32 oid, .int .u32 ver, .string nm, .int .u8 id, .slice a2 cols.length cap2] 55)) wr)) (fun i _ => l.length - (intOf i).toNat)
  case atStart => exact ⟨0, Nat.zero_le _, rfl, fun j _ h => by omega, Ext.refl _⟩
  case round =>
    obtain ⟨k, hk, rfl, hrel, hE⟩ := hrel
    have hEw : Hid (Ext w wr) := Hm (((Ext.refl w).alloc _).trans hE.out)
    by_cases hlt : k < l.length
    · obtain ⟨b, o, rfl, hb, hx⟩ := HL.out.at_ (i := k) (by simpa using hlt)
      obtain ⟨f0, f1, f2, f3, f4, f5⟩ := K.rcAt hlt hx hb hEw.out
      have hbw : b < wr.heap.size := Nat.lt_of_lt_of_le hb hEw.out.size
      have hsz := HS.out _ (List.getElem_mem hlt)
      clear hx
      by_cases h3 : 3000 < l[k].v.s.size
      · go_wp2
        go_ret
        exact ⟨true, rfl, (fun h => by cases h), hEw.out⟩
      · have h4 : l[k].v.s.size ≤ 3000 := by omega
        go_wp2
        go_roundw
        case rel => exact ⟨k + 1, by omega, by go_num, fun j hj hjk => by
          by_cases e : j = k
          · subst e; exact h4
          · exact hrel.out j hj (by omega), hE⟩
        case measure => simp [intOf]; omega
    · have hkk : k = l.length := by omega
      have H3 : Hid (∀ c ∈ l, c.v.s.size ≤ 3000) := Hm (fun c hc => by
        obtain ⟨i, hi, rfl⟩ := List.getElem_of_mem hc
        exact hrel.out i hi (by omega))
      subst hkk
      clear hrel
      have hBx := (Blk.new w #[.int .u32 oid, .int .u32 ver, .string nm, .int .u8 id, .slice a2 cols.length cap2] 55).ext hE.out
      have g0 := hBx.cell
      have z0 := hBx.lt
      clear hBx
      go_wp2
      obtain ⟨wo, rfl⟩ : ∃ wo : World, wo = wr := ⟨_, rfl⟩
      go_loopw [6] (fun i wr => ∃ k : Nat, k ≤ cols.length ∧ i = .int .i64 k ∧ Hid (∀ j (hj : j < cols.length), j < k → cols[j].nm.size ≤ 60) ∧ wr = wo) (fun i _ => cols.length - (intOf i).toNat)
      case atStart => exact ⟨0, Nat.zero_le _, rfl, fun j _ h => by omega, rfl⟩
      case round =>
        obtain ⟨k, hk, rfl, hrel, rfl⟩ := hrel
        by_cases hlt : k < cols.length
        · obtain ⟨b, o, rfl, hb, hx⟩ := HL2.out.at_ (i := k) (by simpa using hlt)
          obtain ⟨f0, f1, f2⟩ := Col.at_ hlt hx hb hEw.out
          have hbw : b < wr.heap.size := Nat.lt_of_lt_of_le hb hEw.out.size
          have hsz := HS2.out _ (List.getElem_mem hlt)
          clear hx
          by_cases h3 : 60 < cols[k].nm.size
          · go_wp2
            go_ret
            exact ⟨true, rfl, (fun h => by cases h), hEw.out⟩
          · have h4 : cols[k].nm.size ≤ 60 := by omega
            go_wp2
            go_roundw
            case rel => exact ⟨k + 1, by omega, by go_num, fun j hj hjk => by
              by_cases e : j = k
              · subst e; exact h4
              · exact hrel.out j hj (by omega), (by first | trivial | rfl)⟩
            case measure => simp [intOf]; omega
        · have hkk : k = cols.length := by omega
          have H4 : Hid (∀ c ∈ cols, c.nm.size ≤ 60) := Hm (fun c hc => by
            obtain ⟨i, hi, rfl⟩ := List.getElem_of_mem hc
            exact hrel.out i hi (by omega))
          subst hkk
          clear hrel
          by_cases c1 : 20 < l.length
          · go_wp2
            go_ret
            exact ⟨_, rfl, fun h => by simp at h; try omega, hEw.out⟩
          · have c1' : l.length ≤ 20 := by omega
            by_cases c2 : 20 < cols.length
            · go_wp2
              go_ret
              exact ⟨_, rfl, fun h => by simp at h; try omega, hEw.out⟩
            · have c2' : cols.length ≤ 20 := by omega
              go_wp2
              go_ret
              exact ⟨_, rfl, fun h => ⟨H3.out, H4.out, c1', c2', by simp at h; omega⟩, hEw.out⟩
end Go.Proofs.YtdlhaidlokkmnaaGreatDoor
