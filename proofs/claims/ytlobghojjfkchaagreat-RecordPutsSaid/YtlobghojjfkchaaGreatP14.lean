/-
Cells, in plain words: from no other bytes; how long they are in both versions.
-/
import Derived.Test.YtlobghojjfkchaaGreatP13
namespace Go.Proofs.YtlobghojjfkchaaGreat
open Go.RowKit

theorem err_mk {k ty n x y : Int} {s : ByteArray} {kind ver : Int} (hv : ver = 1 ∨ ver = 2) (hr : rightC k ty n x y s kind = 0) (hk : k ≠ 0) : errC k ty n x y s kind ver = 0 := by
  unfold errC; rw [if_pos hv, if_neg (by simpa using hr), if_neg hk]
theorem putC_large {ty n : Int} {x y : Nat} {s : ByteArray} {kind ver : Int} (h : largeB 2 ty s = true) : putC 2 ty n x y s kind ver = (3 - ver) :: sevens s.size := by
  unfold putC; rw [if_neg (by decide), if_pos h]
theorem putC_small {ty n : Int} {x y : Nat} {s : ByteArray} {kind ver : Int} (h : largeB 2 ty s = false) : putC 2 ty n x y s kind ver = if ver = 2 then (if kind = 5 ∨ kind = 6 then sevens (s.size + 2) ++ strL s else putL ty n x y s 2) else 1 :: putL ty n x y s 1 := by
  unfold putC; rw [if_neg (by decide), if_neg (by simp [h])]
theorem ne_two : (2 : Int) ≠ 0 := by decide
theorem ne_one : (1 : Int) ≠ 0 := by decide

end Go.Proofs.YtlobghojjfkchaaGreat

/-
A reader that gave up stays as it is, in plain words.
-/
namespace Go.Proofs.YtlobghojjfkchaaGreat
open Go.RowKit

end Go.Proofs.YtlobghojjfkchaaGreat

/-
The program's cell: Of, Large.
-/
namespace Go.Proofs.YtlobghojjfkchaaGreat
open Go.RowKit

set_option maxRecDepth 100000 in set_option maxHeartbeats 1600000 in
theorem clarge_any (k ty n : Int) (x y : Nat) (s : ByteArray) (w : World) :
    Calls Tryz.prog 136 #[.agg #[.int .u8 k, .int .u8 ty, .int .i64 n, .complex .f64 x y, .string s]] w fun e w' => e = .returned (.bool (largeB k ty s)) ∧ Ext w w' := by
  by_cases hk : k = 2
  · subst hk
    by_cases ht : ty = 5 ∨ ty = 6
    · have hL : Hid (largeB 2 ty s = decide (64 < s.size)) := Hid.mk' (by unfold largeB; exact decide_eq_decide.2 ⟨fun h => h.2.2, fun h => ⟨rfl, ht, h⟩⟩)
      have HT := Hid.mk' (fun w => texty_yes ty w ht)
      clear ht
      go_enter Tryz.func136, Tryz.ntmps136
      go_wp2_with (go_at_call 170; refine (HT.out _).mono ?_; rintro e w1 ⟨rfl, rfl⟩)
      go_ret
      exact ⟨ret_bool (by rw [hL.out]; first | rfl | (apply decide_eq_decide.2; omega)), by exact eX⟩
    · have hL : Hid (largeB 2 ty s = false) := Hid.mk' (by unfold largeB; rw [decide_eq_false_iff_not]; exact fun h => ht h.2.1)
      have HT := Hid.mk' (fun w => texty_no ty w (by omega))
      clear ht
      go_enter Tryz.func136, Tryz.ntmps136
      go_wp2_with (go_at_call 170; refine (HT.out _).mono ?_; rintro e w1 ⟨rfl, rfl⟩)
      go_ret
      exact ⟨ret_bool hL.out.symm, by exact eX⟩
  · have hL : Hid (largeB k ty s = false) := Hid.mk' (by unfold largeB; rw [decide_eq_false_iff_not]; exact fun h => hk h.1)
    have hk2 : (k == 2) = false := by simpa using hk
    clear hk
    go_enter Tryz.func136, Tryz.ntmps136
    go_wp2
    go_ret
    exact ⟨ret_bool hL.out.symm, by exact eX⟩

end Go.Proofs.YtlobghojjfkchaaGreat

/-
Appending a text, and appending bytes, at a step of a region that draws its order.
-/
namespace Go.Proofs.YtlobghojjfkchaaGreat
open Go.RowKit

set_option maxRecDepth 20000 in
/-- Appending a text to what a call owns, at a step of a region that draws its order. -/
theorem step_app_str {w : World} {ops : Array Oper} {o : Oper} {a : Act} {K : Act → World → Prop} {Q : Exit → Act → World → Prop} {E : Prop} (hgd : o.guard = none) (s x : Operand)
    (ho : o.op = .call { callee := .builtin .append, args := #[s, x], argTypes := #[40, 9] })
    (base : Nat) (v : Value) (l : List Int) (hs : a.eval s = v) (hown : OB w base v l) (u : ByteArray) (hx : a.eval x = .string u)
    (h63 : l.length + u.size ≤ 1000000000) (hbase : base ≤ w.heap.size)
    (h : ∀ v' w', OB w' base v' (l ++ strL u) → w.grownBy w' v.ownBlock → K (a.put o.dst v') w') :
    if Region.wanted o (yielded ops a.tmps) = true then Oper.wp Tryz.prog o a w K Q else E := by
  have hw : Region.wanted o (yielded ops a.tmps) = true := by simp [Region.wanted, hgd]
  rw [if_pos hw]
  obtain ⟨i0, hi, hz0, hz1, hz2⟩ := info_parts Tryz.infoU8
  obtain ⟨v', w', hr, h2, h3, h4⟩ := Go.Lib.run_append_own_string (P := Tryz.prog) w base 40 9 o.type 5 i0 Tryz.underlying40 Tryz.underlying9 hi hz0 hz1 hz2 v _ _ hown u (by unfold maxLen; omega) (by omega) hbase
  unfold Oper.wp execOp
  simp only [ho, resolve, invoke, builtin, Sem.run_bind, Sem.run_pure, Result.andThen_ok, List.map_toArray, List.map_cons, List.map_nil, hs, hx, hr]
  refine h v' w' ?_ h3
  rw [bs_str] at h2
  exact OB.push h2 (by rw [strL_len])

set_option maxRecDepth 20000 in
/-- Appending bytes to what a call owns, at a step of a region that draws its order. -/
theorem step_app_nb {w : World} {ops : Array Oper} {o : Oper} {a : Act} {K : Act → World → Prop} {Q : Exit → Act → World → Prop} {E : Prop} (hgd : o.guard = none) (s x : Operand)
    (ho : o.op = .call { callee := .builtin .append, args := #[s, x], argTypes := #[40, 40] })
    (base : Nat) (v : Value) (l : List Int) (hs : a.eval s = v) (hown : OB w base v l) (u : Value) (m : List Int) (hx : a.eval x = u) (hu : NB w u m)
    (h63 : l.length + m.length ≤ 1000000000) (hbase : base ≤ w.heap.size)
    (h : ∀ v' w', OB w' base v' (l ++ m) → w.grownBy w' v.ownBlock → K (a.put o.dst v') w') :
    if Region.wanted o (yielded ops a.tmps) = true then Oper.wp Tryz.prog o a w K Q else E := by
  have hw : Region.wanted o (yielded ops a.tmps) = true := by simp [Region.wanted, hgd]
  rw [if_pos hw]
  obtain ⟨i0, hi, hz0, hz1, hz2⟩ := info_parts Tryz.infoU8
  have key : ∃ v' w', (Builtin.append_ #[40, 40] o.type #[v, u]).run Tryz.prog w = .ok v' w' ∧ OB w' base v' (l ++ m) ∧ w.grownBy w' v.ownBlock := by
    rcases hu with ⟨rfl, rfl⟩ | ⟨ad, cap, rfl, hn⟩
    · exact ⟨v, w, run_append_owned_none (P := Tryz.prog) (w := w) base 40 o.type 5 i0 1 Tryz.underlying40 hi v _ _ hown, by rw [List.append_nil]; exact hown, ⟨rfl, rfl, rfl, Nat.le_refl _, fun _ _ _ => rfl⟩⟩
    · obtain ⟨v', w', hr, h2, h3, _⟩ := run_append_own (P := Tryz.prog) w base 40 o.type 5 i0 _ 1 1 Tryz.underlying40 hi hz0 hz1 hz2 rfl (by decide) v _ _ hown ad m.length cap (bs m) (by rw [bs_len, Nat.mul_one]) hn (bs_one m) (by unfold maxLen; omega) (by omega) hbase
      exact ⟨v', w', hr, OB.push h2 rfl, h3⟩
  obtain ⟨v', w', hr, h2, h3⟩ := key
  unfold Oper.wp execOp
  simp only [ho, resolve, invoke, builtin, Sem.run_bind, Sem.run_pure, Result.andThen_ok, List.map_toArray, List.map_cons, List.map_nil, hs, hx, hr]
  exact h v' w' h2 h3

theorem nb_conv {w w2 : World} {u : ByteArray} (h : Ext (Go.Lib.bytesWorld w 5 u) w2) : NB w2 (.slice (some ⟨w.heap.size, 0, none⟩) u.size (grownCap w u.size 0 5)) (strL u) := by
  have h0 : NB (Go.Lib.bytesWorld w 5 u) (.slice (some ⟨w.heap.size, 0, none⟩) u.size (grownCap w u.size 0 5)) (strL u) := .inr ⟨_, _, by rw [strL_len], news_bytesWorld w 5 u⟩
  refine h0.ext ?_ h
  intro ad len cap e hl
  simp only [Value.slice.injEq, Option.some.injEq] at e
  obtain ⟨rfl, rfl, rfl⟩ := e
  rw [Go.Lib.bytesWorld_size]; exact Nat.lt_succ_self _
theorem Ext.conv {w w1 : World} (h : Ext w w1) (e : TypeId) (u : ByteArray) : Ext w (Go.Lib.bytesWorld w1 e u) := h.trans (ext_bytesWorld _ _ _)

end Go.Proofs.YtlobghojjfkchaaGreat

/-
The program's cell: long and Put.
-/
namespace Go.Proofs.YtlobghojjfkchaaGreat
open Go.RowKit

set_option maxRecDepth 100000 in set_option maxHeartbeats 1600000 in
theorem clong_any (v : Value) (l : List Int) (tag : Nat) (k ty n : Int) (x y : Nat) (s : ByteArray) (w : World) (hl : Sl w v 1 (l.map bcell)) (hlen : l.length ≤ 800000) (ht : tag < 128) (hs : s.size ≤ 9223372036854775807) :
    Calls Tryz.prog 174 #[v, .int .u64 tag, .agg #[.int .u8 k, .int .u8 ty, .int .i64 n, .complex .f64 x y, .string s]] w fun e w' => ∃ v', e = .returned v' ∧ OB w' w.heap.size v' (l ++ (tag : Int) :: sevens s.size) ∧ Ext w w' := by
  have HL := Hid.mk' hl
  have HT := Hid.mk' (sevens_lt ht)
  have hw : IntKind.u64.wrap (s.size : Int) = (s.size : Int) := by rw [u64_wrap]; omega
  clear hl
  go_enter Tryz.func174, Tryz.ntmps174
  go_upto_region 1 with (fail)
  go_region_held3 (fun w' => Ext (w.alloc (.cells #[.int .u8 k, .int .u8 ty, .int .i64 n, .complex .f64 x y, .string s] 195)) w' ∧ (∀ b o, b < (w.alloc (.cells #[.int .u8 k, .int .u8 ty, .int .i64 n, .complex .f64 x y, .string s] 195)).heap.size → w'.cell? ⟨b, o, none⟩ = (w.alloc (.cells #[.int .u8 k, .int .u8 ty, .int .i64 n, .complex .f64 x y, .string s] 195)).cell? ⟨b, o, none⟩) ∧ (∀ b o, b < (w.alloc (.cells #[.int .u8 k, .int .u8 ty, .int .i64 n, .complex .f64 x y, .string s] 195)).heap.size → w'.frozen? ⟨b, o, none⟩ = (w.alloc (.cells #[.int .u8 k, .int .u8 ty, .int .i64 n, .complex .f64 x y, .string s] 195)).frozen? ⟨b, o, none⟩)) ((exact held_of (by exact eX)))
    (first
      | (go_at_call_of 89 (Value.int IntKind.u64 (tag : Int)); refine (putUint_any v l tag _ (HL.out.ext (by exact eX)) (by omega) (by omega)).mono ?_; rintro e w1 ⟨v1, rfl, ho1, hb1⟩; have hE1 : Ext w w1 := (by exact eX); have HE1 := Hid.mk' hE1; have HO1 := Hid.mk' (by rw [HT.out] at ho1; exact ho1); clear ho1 hE1)
      | (go_at_call 89; refine (putUint_any v1 (l ++ [(tag : Int)]) s.size _ (HO1.out.sl.ext (by exact eX)) (by omega) (by simp; omega)).mono ?_; rintro e w2 ⟨v2, rfl, ho2, hb2⟩; have hE2 : Ext w1 w2 := (by exact eX); have HE2 := Hid.mk' hE2; have HO2 := Hid.mk' (ho2.base (Ext.size (by exact eX : Ext w _))); clear ho2 hE2))
  go_wp2
  go_ret
  refine ⟨_, rfl, ?_, HE1.out.trans HE2.out⟩
  have h := HO2.out
  rw [List.append_assoc] at h
  exact h

def CPutPost (l : List Int) (k ty n : Int) (x y : Nat) (s : ByteArray) (kind ver : Int) (w : World) (e : Ending) (w' : World) : Prop :=
  ∃ v', e = .returned (.tuple #[v', .int .i64 (errC k ty n x y s kind ver)]) ∧ (errC k ty n x y s kind ver = 0 → OB w' w.heap.size v' (l ++ putC k ty n x y s kind ver)) ∧ (errC k ty n x y s kind ver ≠ 0 → v' = .slice none 0 0) ∧ Ext w w'

theorem CPutPost.ok {l m : List Int} {k ty n : Int} {x y : Nat} {s : ByteArray} {kind ver : Int} {w w' : World} {v' : Value} (he : errC k ty n x y s kind ver = 0) (hm : putC k ty n x y s kind ver = m) (ho : OB w' w.heap.size v' (l ++ m)) (hE : Ext w w') :
    CPutPost l k ty n x y s kind ver w (.returned (.tuple #[v', .int .i64 0])) w' := by
  subst hm
  exact ⟨v', by rw [he], fun _ => ho, fun h => absurd he h, hE⟩
theorem CPutPost.bad {l : List Int} {k ty n : Int} {x y : Nat} {s : ByteArray} {kind ver : Int} {w w' : World} {E : Int} (he : errC k ty n x y s kind ver = E) (h0 : E ≠ 0) (hE : Ext w w') :
    CPutPost l k ty n x y s kind ver w (.returned (.tuple #[.slice none 0 0, .int .i64 E])) w' := by
  subst he
  exact ⟨_, rfl, fun h => absurd h h0, fun _ => rfl, hE⟩

set_option maxRecDepth 100000 in set_option maxHeartbeats 1600000 in
theorem cput_same (v : Value) (l : List Int) (ty n : Int) (x y : Nat) (s : ByteArray) (kind ver : Int) (w : World) (hl : Sl w v 1 (l.map bcell)) (hlen : l.length ≤ 700000) (hs : s.size ≤ 9223372036854775807)
    (hv : ver = 1 ∨ ver = 2) (hr : rightC 1 ty n x y s kind = 0) :
    Calls Tryz.prog 140 #[v, .agg #[.int .u8 1, .int .u8 ty, .int .i64 n, .complex .f64 x y, .string s], .int .u8 kind, .int .u8 ver] w (CPutPost l 1 ty n x y s kind ver w) := by
  obtain ⟨i0, hi, hz0, hz1, hz2⟩ := info_parts Tryz.infoU8
  have HL := Hid.mk' hl
  have HR := Hid.mk' (fun w => cright_any 1 ty n x y s kind w (by decide) hs)
  rw [hr] at HR
  have HE := Hid.mk' (err_mk hv hr ne_one)
  have HP : Hid (putC 1 ty n x y s kind ver = [0]) := Hid.mk' (by unfold putC; rw [if_pos rfl])
  clear hl hr
  have hv1 : 1 ≤ ver := by omega
  have hv2 : ver ≤ 2 := by omega
  clear hv
  go_enter Tryz.func140, Tryz.ntmps140
  go_wp2_with (first
    | (go_at_call 171; refine (HR.out _).mono ?_; rintro e w1 ⟨rfl, hb1⟩; have hE1 : Ext w w1 := (by exact eX); have hE_w1 := hb1; obtain ⟨hc_w1, hf_w1⟩ := hE_w1.cells; have hz_w1 := hE_w1.size)
    | (go_at_call 102; refine (clone_any v l _ (HL.out.ext (by exact eX)) (by omega)).mono ?_; rintro e w2 ⟨v2, rfl, ho2, hb2⟩; have hE2 : Ext w w2 := (by exact eX); have hE_w2 := hE_w1.trans hb2; obtain ⟨hc_w2, hf_w2⟩ := hE_w2.cells; have hz_w2 := hE_w2.size; have HO2 := Hid.mk' (ho2.base (hE1.size)); have HB2 := Hid.mk' (ho2.base hz_w1); clear ho2 hc_w1 hf_w1)
    | (at_builtin; refine wpList_append_own _ rfl _ _ 40 rfl w.heap.size 5 i0 _ 1 1 Tryz.underlying40 hi hz0 hz1 hz2 rfl (by decide) _ _ _ rfl (HO2.out.alloc _) ⟨_, 0, none⟩ 1 1 (bs [0]) rfl rfl ?c1 ?c2 ?c3 ?c4 ?c5 ?_))
  case c1 => exact cells_one _ _
  case c2 => exact bs_one _
  case c3 => unfold maxLen; omega
  case c4 => omega
  case c5 => have := hE2.size; simp; omega
  intro v3 w3 hown hgrow _
  have hE3 := OB.grown (hE2.alloc _) (HO2.out.alloc _) hgrow
  have HO3 := Hid.mk' (OB.push hown (by simp))
  have HE3 := Hid.mk' hE3
  clear hown hgrow hE3
  go_wp2
  go_ret2
  exact CPutPost.ok HE.out HP.out HO3.out HE3.out

set_option maxRecDepth 100000 in set_option maxHeartbeats 1600000 in
theorem cput_large (v : Value) (l : List Int) (ty n : Int) (x y : Nat) (s : ByteArray) (kind ver : Int) (w : World) (hl : Sl w v 1 (l.map bcell)) (hlen : l.length ≤ 700000) (hs : s.size ≤ 9223372036854775807)
    (hv : ver = 1 ∨ ver = 2) (hr : rightC 2 ty n x y s kind = 0) (hL : largeB 2 ty s = true) :
    Calls Tryz.prog 140 #[v, .agg #[.int .u8 2, .int .u8 ty, .int .i64 n, .complex .f64 x y, .string s], .int .u8 kind, .int .u8 ver] w (CPutPost l 2 ty n x y s kind ver w) := by
  have HL := Hid.mk' hl
  have HR := Hid.mk' (fun w => cright_any 2 ty n x y s kind w (by decide) hs)
  rw [hr] at HR
  have HE := Hid.mk' (err_mk hv hr ne_two)
  have HP := Hid.mk' (putC_large (n := n) (x := x) (y := y) (kind := kind) (ver := ver) hL)
  have HLA := Hid.mk' (fun w => clarge_any 2 ty n x y s w)
  rw [hL] at HLA
  clear hl hr hL
  rcases hv with rfl | rfl
  · go_enter Tryz.func140, Tryz.ntmps140
    go_wp2_with (first
      | (go_at_call 171; refine (HR.out _).mono ?_; rintro e w1 ⟨rfl, hb1⟩; have hE1 : Ext w w1 := (by exact eX); have hE_w1 := hb1; obtain ⟨hc_w1, hf_w1⟩ := hE_w1.cells; have hz_w1 := hE_w1.size)
      | (go_at_call 102; refine (clone_any v l _ (HL.out.ext (by exact eX)) (by omega)).mono ?_; rintro e w2 ⟨v2, rfl, ho2, hb2⟩; have hE2 : Ext w w2 := (by exact eX); have hE_w2 := hE_w1.trans hb2; obtain ⟨hc_w2, hf_w2⟩ := hE_w2.cells; have hz_w2 := hE_w2.size; have HO2 := Hid.mk' (ho2.base (hE1.size)); have HB2 := Hid.mk' (ho2.base hz_w1); clear ho2 hc_w1 hf_w1)
      | (go_at_call 136; refine (HLA.out _).mono ?_; rintro e w3 ⟨rfl, hb3⟩; have hE_w3 := hE_w2.trans hb3; have hE3 : Ext w2 w3 := hb3; obtain ⟨hc_w3, hf_w3⟩ := hE_w3.cells; have hz_w3 := hE_w3.size; clear hc_w2 hf_w2)
      | (go_at_call 136; refine (HLA.out _).mono ?_; rintro e w4 ⟨rfl, hb4⟩; have hE_w4 := hE_w3.trans hb4; have hE4 : Ext w2 w4 := hE3.trans hb4; obtain ⟨hc_w4, hf_w4⟩ := hE_w4.cells; have hz_w4 := hE_w4.size; clear hc_w3 hf_w3)
      | (go_at_call 174; refine (clong_any v2 l 2 2 ty n x y s _ (HO2.out.sl.ext (by exact eX)) (by omega) (by decide) hs).mono ?_; rintro e w5 ⟨v4, rfl, ho4, hb5⟩; have HO4 := Hid.mk' (ho4.base (Ext.size (by exact eX : Ext w _))); have HE4 : Hid (Ext w w5) := Hid.mk' (by exact eX); clear ho4 hb5))
    go_ret2
    exact CPutPost.ok HE.out HP.out HO4.out HE4.out
  · go_enter Tryz.func140, Tryz.ntmps140
    go_wp2_with (first
      | (go_at_call 171; refine (HR.out _).mono ?_; rintro e w1 ⟨rfl, hb1⟩; have hE1 : Ext w w1 := (by exact eX); have hE_w1 := hb1; obtain ⟨hc_w1, hf_w1⟩ := hE_w1.cells; have hz_w1 := hE_w1.size)
      | (go_at_call 102; refine (clone_any v l _ (HL.out.ext (by exact eX)) (by omega)).mono ?_; rintro e w2 ⟨v2, rfl, ho2, hb2⟩; have hE2 : Ext w w2 := (by exact eX); have hE_w2 := hE_w1.trans hb2; obtain ⟨hc_w2, hf_w2⟩ := hE_w2.cells; have hz_w2 := hE_w2.size; have HO2 := Hid.mk' (ho2.base (hE1.size)); have HB2 := Hid.mk' (ho2.base hz_w1); clear ho2 hc_w1 hf_w1)
      | (go_at_call 136; refine (HLA.out _).mono ?_; rintro e w3 ⟨rfl, hb3⟩; have hE_w3 := hE_w2.trans hb3; have hE3 : Ext w2 w3 := hb3; obtain ⟨hc_w3, hf_w3⟩ := hE_w3.cells; have hz_w3 := hE_w3.size; clear hc_w2 hf_w2)
      | (go_at_call 174; refine (clong_any v2 l 1 2 ty n x y s _ (HO2.out.sl.ext (by exact eX)) (by omega) (by decide) hs).mono ?_; rintro e w5 ⟨v4, rfl, ho4, hb5⟩; have HO4 := Hid.mk' (ho4.base (Ext.size (by exact eX : Ext w _))); have HE4 : Hid (Ext w w5) := Hid.mk' (by exact eX); clear ho4 hb5))
    go_ret2
    exact CPutPost.ok HE.out HP.out HO4.out HE4.out

set_option maxRecDepth 100000 in set_option maxHeartbeats 1600000 in
theorem cput_text (v : Value) (l : List Int) (ty n : Int) (x y : Nat) (s : ByteArray) (kind : Int) (w : World) (hl : Sl w v 1 (l.map bcell)) (hlen : l.length ≤ 700000) (hs : s.size ≤ 9223372036854775807)
    (hr : rightC 2 ty n x y s kind = 0) (hL : largeB 2 ty s = false) (hk : kind = 5 ∨ kind = 6) :
    Calls Tryz.prog 140 #[v, .agg #[.int .u8 2, .int .u8 ty, .int .i64 n, .complex .f64 x y, .string s], .int .u8 kind, .int .u8 2] w (CPutPost l 2 ty n x y s kind 2 w) := by
  have HL := Hid.mk' hl
  have HR := Hid.mk' (fun w => cright_any 2 ty n x y s kind w (by decide) hs)
  rw [hr] at HR
  have HE := Hid.mk' (err_mk (.inr rfl) hr ne_two)
  have HP : Hid (putC 2 ty n x y s kind 2 = sevens (s.size + 2) ++ strL s) := Hid.mk' (by rw [putC_small hL, if_pos rfl, if_pos hk])
  have HLA := Hid.mk' (fun w => clarge_any 2 ty n x y s w)
  rw [hL] at HLA
  have HX := Hid.mk' (fun w => texty_yes kind w hk)
  have hs2 : s.size ≤ 2048 := (right_zero (right_full hr).1).2.2.1
  have hw : IntKind.u64.wrap ((s.size : Int) + 2) = ((s.size + 2 : Nat) : Int) := by rw [u64_wrap]; omega
  have hw2 : IntKind.i64.wrap ((s.size : Int) + 2) = (s.size : Int) + 2 := by rw [i64_wrap]; omega
  have HS10 := Hid.mk' (sevens_len10 (x := s.size + 2) (by omega))
  clear hl hr hL hk
  go_enter Tryz.func140, Tryz.ntmps140
  go_upto_region 17 with (first
    | (go_at_call 171; refine (HR.out _).mono ?_; rintro e w1 ⟨rfl, hb1⟩; have hE1 : Ext w w1 := (by exact eX); have hE_w1 := hb1; obtain ⟨hc_w1, hf_w1⟩ := hE_w1.cells; have hz_w1 := hE_w1.size)
    | (go_at_call 102; refine (clone_any v l _ (HL.out.ext (by exact eX)) (by omega)).mono ?_; rintro e w2 ⟨v2, rfl, ho2, hb2⟩; have hE2 : Ext w w2 := (by exact eX); have hE_w2 := hE_w1.trans hb2; obtain ⟨hc_w2, hf_w2⟩ := hE_w2.cells; have hz_w2 := hE_w2.size; have HO2 := Hid.mk' (ho2.base (hE1.size)); have HB2 := Hid.mk' (ho2.base hz_w1); clear ho2 hc_w1 hf_w1)
    | (go_at_call 136; refine (HLA.out _).mono ?_; rintro e w3 ⟨rfl, hb3⟩; have hE_w3 := hE_w2.trans hb3; have hE3 : Ext w2 w3 := hb3; obtain ⟨hc_w3, hf_w3⟩ := hE_w3.cells; have hz_w3 := hE_w3.size; clear hc_w2 hf_w2)
    | (go_at_call 136; refine (HLA.out _).mono ?_; rintro e w4 ⟨rfl, hb4⟩; have hE_w4 := hE_w3.trans hb4; have hE4 : Ext w2 w4 := hE3.trans hb4; obtain ⟨hc_w4, hf_w4⟩ := hE_w4.cells; have hz_w4 := hE_w4.size; clear hc_w3 hf_w3)
    | (go_at_call 170; refine (HX.out _).mono ?_; rintro e w9 ⟨rfl, rfl⟩))
  have hEw4 : Ext w w4 := hE2.trans hE4
  have HS : Hid (∀ w', Ext w4 w' → Ext w4 w' ∧ w'.cell? ⟨w.heap.size, 4, none⟩ = some (.string s)) := Hid.mk' (fun w' h => ⟨h, by rw [(hE_w4.trans h).cells.1 _ _ (by simp), (Blk.new w #[.int .u8 2, .int .u8 ty, .int .i64 n, .complex .f64 x y, .string s] 195).cell 4]; rfl⟩)
  have HEw4 := Hid.mk' hEw4
  have HE24 := Hid.mk' hE4
  clear hEw4 hE1 hE2 hE3 hE4 hE_w1 hE_w2 hE_w3 hE_w4 hc_w4 hf_w4 hb1 hb2 hb3 hb4
  go_region_held3 (fun w' => Ext w4 w' ∧ w'.cell? ⟨w.heap.size, 4, none⟩ = some (.string s)) (exact HS.out _ (by exact eX))
    (first
      | (refine step_app_str (by rfl) _ _ (by rfl) w.heap.size _ _ (by rfl) HO4.out s (by rfl) (by have := HS10.out; simp; omega) HE4.out.size ?_; intro v5 w6 ho5 hgrow; have hE5 : Ext w w6 := OB.grown HE4.out HO4.out hgrow; have hb6' : Ext w4 w6 := OB.grown hb4' HOB4.out hgrow; have HO5 := Hid.mk' ho5; have HE5 := Hid.mk' hE5; clear ho5 hgrow hE5)
      | (go_at_call 89; refine (putUint_any v2 l (s.size + 2) _ (HO2.out.sl.ext (HE24.out.trans (by exact eX))) (by omega) (by omega)).mono ?_; rintro e w5 ⟨v4, rfl, ho4, hb5⟩; have hb4' : Ext w4 w5 := (by exact eX); have HE4 := Hid.mk' (HEw4.out.trans hb4'); have HO4 := Hid.mk' (ho4.base (Ext.size (HEw4.out.trans (by exact eX : Ext w4 _)))); have HOB4 := Hid.mk' (ho4.base (Ext.size (by exact eX : Ext w4 _))); clear ho4))
  go_wp2
  go_ret2
  exact CPutPost.ok HE.out HP.out (by have := HO5.out; rw [List.append_assoc] at this; exact this) HE5.out

set_option maxRecDepth 100000 in set_option maxHeartbeats 1600000 in
theorem cput_two (v : Value) (l : List Int) (ty n : Int) (x y : Nat) (s : ByteArray) (kind : Int) (w : World) (hl : Sl w v 1 (l.map bcell)) (hlen : l.length ≤ 700000) (hs : s.size ≤ 9223372036854775807)
    (hn : -9223372036854775808 ≤ n ∧ n < 9223372036854775808) (hx : x < 2 ^ 64) (hy : y < 2 ^ 64)
    (hr : rightC 2 ty n x y s kind = 0) (hL : largeB 2 ty s = false) (hk : kind ≠ 5 ∧ kind ≠ 6) :
    Calls Tryz.prog 140 #[v, .agg #[.int .u8 2, .int .u8 ty, .int .i64 n, .complex .f64 x y, .string s], .int .u8 kind, .int .u8 2] w (CPutPost l 2 ty n x y s kind 2 w) := by
  have HL := Hid.mk' hl
  have HR := Hid.mk' (fun w => cright_any 2 ty n x y s kind w (by decide) hs)
  rw [hr] at HR
  have HE := Hid.mk' (err_mk (.inr rfl) hr ne_two)
  have HP : Hid (putC 2 ty n x y s kind 2 = putL ty n x y s 2) := Hid.mk' (by rw [putC_small hL, if_pos rfl, if_neg (by omega)])
  have HLA := Hid.mk' (fun w => clarge_any 2 ty n x y s w)
  rw [hL] at HLA
  have HX := Hid.mk' (fun w => texty_no kind w hk)
  have eV : errV ty n x y s 2 = 0 := by unfold errV; rw [if_pos (.inr rfl)]; exact (right_full hr).1
  have HVP := Hid.mk' (fun (v : Value) (l : List Int) (w : World) (hl : Sl w v 1 (l.map bcell)) (hlen : l.length ≤ 800000) => vput_ok v l ty n x y s 2 w eV hl hlen hn hx hy hs)
  clear hl hr hL hk hn hx hy eV
  go_enter Tryz.func140, Tryz.ntmps140
  go_wp2_with (first
    | (go_at_call 171; refine (HR.out _).mono ?_; rintro e w1 ⟨rfl, hb1⟩; have hE1 : Ext w w1 := (by exact eX); have hE_w1 := hb1; obtain ⟨hc_w1, hf_w1⟩ := hE_w1.cells; have hz_w1 := hE_w1.size)
    | (go_at_call 102; refine (clone_any v l _ (HL.out.ext (by exact eX)) (by omega)).mono ?_; rintro e w2 ⟨v2, rfl, ho2, hb2⟩; have hE2 : Ext w w2 := (by exact eX); have hE_w2 := hE_w1.trans hb2; obtain ⟨hc_w2, hf_w2⟩ := hE_w2.cells; have hz_w2 := hE_w2.size; have HO2 := Hid.mk' (ho2.base (hE1.size)); have HB2 := Hid.mk' (ho2.base hz_w1); clear ho2 hc_w1 hf_w1)
    | (go_at_call 136; refine (HLA.out _).mono ?_; rintro e w3 ⟨rfl, hb3⟩; have hE_w3 := hE_w2.trans hb3; have hE3 : Ext w2 w3 := hb3; obtain ⟨hc_w3, hf_w3⟩ := hE_w3.cells; have hz_w3 := hE_w3.size; clear hc_w2 hf_w2)
    | (go_at_call 136; refine (HLA.out _).mono ?_; rintro e w4 ⟨rfl, hb4⟩; have hE_w4 := hE_w3.trans hb4; have hE4 : Ext w2 w4 := hE3.trans hb4; obtain ⟨hc_w4, hf_w4⟩ := hE_w4.cells; have hz_w4 := hE_w4.size; clear hc_w3 hf_w3)
    | (go_at_call 170; refine (HX.out _).mono ?_; rintro e w9 ⟨rfl, rfl⟩)
    | (go_at_call 175; refine (HVP.out v2 l _ (HO2.out.sl.ext (by exact eX)) (by omega)).mono ?_; rintro e w5 ⟨v4, rfl, ho4, hb5⟩; have HO4 := Hid.mk' (ho4.base (Ext.size (by exact eX : Ext w _))); have HE4 : Hid (Ext w w5) := Hid.mk' (by exact eX); clear ho4 hb5))
  go_ret2
  exact CPutPost.ok HE.out HP.out HO4.out HE4.out

set_option maxRecDepth 100000 in set_option maxHeartbeats 1600000 in
theorem cput_one (v : Value) (l : List Int) (ty n : Int) (x y : Nat) (s : ByteArray) (kind : Int) (w : World) (hl : Sl w v 1 (l.map bcell)) (hlen : l.length ≤ 700000) (hs : s.size ≤ 9223372036854775807)
    (hn : -9223372036854775808 ≤ n ∧ n < 9223372036854775808) (hx : x < 2 ^ 64) (hy : y < 2 ^ 64)
    (hr : rightC 2 ty n x y s kind = 0) (hL : largeB 2 ty s = false) :
    Calls Tryz.prog 140 #[v, .agg #[.int .u8 2, .int .u8 ty, .int .i64 n, .complex .f64 x y, .string s], .int .u8 kind, .int .u8 1] w (CPutPost l 2 ty n x y s kind 1 w) := by
  obtain ⟨i0, hi, hz0, hz1, hz2⟩ := info_parts Tryz.infoU8
  have HL := Hid.mk' hl
  have HR := Hid.mk' (fun w => cright_any 2 ty n x y s kind w (by decide) hs)
  rw [hr] at HR
  have HE := Hid.mk' (err_mk (.inl rfl) hr ne_two)
  have HP : Hid (putC 2 ty n x y s kind 1 = 1 :: putL ty n x y s 1) := Hid.mk' (by rw [putC_small hL, if_neg (by decide)])
  have HLA := Hid.mk' (fun w => clarge_any 2 ty n x y s w)
  rw [hL] at HLA
  have eV : errV ty n x y s 1 = 0 := by unfold errV; rw [if_pos (.inl rfl)]; exact (right_full hr).1
  have HVP := Hid.mk' (fun (v : Value) (l : List Int) (w : World) (hl : Sl w v 1 (l.map bcell)) (hlen : l.length ≤ 800000) => vput_ok v l ty n x y s 1 w eV hl hlen hn hx hy hs)
  clear hl hr hL hn hx hy eV
  go_enter Tryz.func140, Tryz.ntmps140
  go_wp2_with (first
    | (go_at_call 171; refine (HR.out _).mono ?_; rintro e w1 ⟨rfl, hb1⟩; have hE1 : Ext w w1 := (by exact eX); have hE_w1 := hb1; obtain ⟨hc_w1, hf_w1⟩ := hE_w1.cells; have hz_w1 := hE_w1.size)
    | (go_at_call 102; refine (clone_any v l _ (HL.out.ext (by exact eX)) (by omega)).mono ?_; rintro e w2 ⟨v2, rfl, ho2, hb2⟩; have hE2 : Ext w w2 := (by exact eX); have hE_w2 := hE_w1.trans hb2; obtain ⟨hc_w2, hf_w2⟩ := hE_w2.cells; have hz_w2 := hE_w2.size; have HO2 := Hid.mk' (ho2.base (hE1.size)); have HB2 := Hid.mk' (ho2.base hz_w1); clear ho2 hc_w1 hf_w1)
    | (go_at_call 136; refine (HLA.out _).mono ?_; rintro e w3 ⟨rfl, hb3⟩; have hE_w3 := hE_w2.trans hb3; have hE3 : Ext w2 w3 := hb3; obtain ⟨hc_w3, hf_w3⟩ := hE_w3.cells; have hz_w3 := hE_w3.size; clear hc_w2 hf_w2)
    | (go_at_call 136; refine (HLA.out _).mono ?_; rintro e w4 ⟨rfl, hb4⟩; have hE_w4 := hE_w3.trans hb4; have hE4 : Ext w2 w4 := hE3.trans hb4; obtain ⟨hc_w4, hf_w4⟩ := hE_w4.cells; have hz_w4 := hE_w4.size; clear hc_w3 hf_w3)
    | (at_builtin; refine wpList_append_own _ rfl _ _ 40 rfl _ 5 i0 _ 1 1 Tryz.underlying40 hi hz0 hz1 hz2 rfl (by decide) _ _ _ rfl ((HB2.out.ext hE4).alloc _) ⟨_, 0, none⟩ 1 1 (bs [1]) rfl rfl ?c1 ?c2 ?c3 ?c4 ?c5 ?_))
  case c1 => exact cells_one _ _
  case c2 => exact bs_one _
  case c3 => unfold maxLen; omega
  case c4 => omega
  case c5 => have := hz_w4; simp at this ⊢; omega
  intro v5 w5 hown hgrow _
  have hE_w5 := OB.grown (hE_w4.alloc _) ((HB2.out.ext hE4).alloc _) hgrow
  obtain ⟨hc_w5, hf_w5⟩ := hE_w5.cells
  have hz_w5 := hE_w5.size
  have hE5 : Ext w w5 := by exact eX
  have HO5 := Hid.mk' ((OB.push (l := l) (m := [1]) hown (by simp)).base (show w.heap.size ≤ _ by simp))
  clear hown hgrow hc_w4 hf_w4
  go_wp2_with (go_at_call 175; refine (HVP.out v5 (l ++ [1]) _ (HO5.out.sl.ext (by exact eX)) (by simp; omega)).mono ?_; rintro e w6 ⟨v4, rfl, ho4, hb6⟩; have HO4 := Hid.mk' (ho4.base (Ext.size (by exact eX : Ext w _))); have HE4 : Hid (Ext w w6) := Hid.mk' (by exact eX); clear ho4 hb6)
  go_ret2
  exact CPutPost.ok HE.out HP.out (by have := HO4.out; rw [List.append_assoc] at this; exact this) HE4.out

theorem rightC_k {k ty n x y : Int} {s : ByteArray} {kind : Int} (h : rightC k ty n x y s kind = 0) : k ≤ 2 := by
  unfold rightC at h
  (repeat' split at h) <;> first | omega | (exfalso; omega)

set_option maxRecDepth 100000 in set_option maxHeartbeats 1600000 in
theorem cput_null (v : Value) (l : List Int) (ty n : Int) (x y : Nat) (s : ByteArray) (kind ver : Int) (w : World) (hl : Sl w v 1 (l.map bcell)) (hlen : l.length ≤ 700000) (hs : s.size ≤ 9223372036854775807)
    (hv : ver = 1 ∨ ver = 2) (hr : rightC 0 ty n x y s kind = 0) :
    Calls Tryz.prog 140 #[v, .agg #[.int .u8 0, .int .u8 ty, .int .i64 n, .complex .f64 x y, .string s], .int .u8 kind, .int .u8 ver] w (CPutPost l 0 ty n x y s kind ver w) := by
  have HL := Hid.mk' hl
  have HR := Hid.mk' (fun w => cright_any 0 ty n x y s kind w (by decide) hs)
  rw [hr] at HR
  have HE : Hid (errC 0 ty n x y s kind ver = 12) := Hid.mk' (by unfold errC; rw [if_pos hv, if_neg (by simpa using hr), if_pos rfl])
  clear hl hr
  have hv1 : 1 ≤ ver := by omega
  have hv2 : ver ≤ 2 := by omega
  clear hv
  go_enter Tryz.func140, Tryz.ntmps140
  go_wp2_with (first
    | (go_at_call 171; refine (HR.out _).mono ?_; rintro e w1 ⟨rfl, hb1⟩; have hE1 : Ext w w1 := (by exact eX); have hE_w1 := hb1; obtain ⟨hc_w1, hf_w1⟩ := hE_w1.cells; have hz_w1 := hE_w1.size)
    | (go_at_call 102; refine (clone_any v l _ (HL.out.ext (by exact eX)) (by omega)).mono ?_; rintro e w2 ⟨v2, rfl, ho2, hb2⟩; have hE2 : Ext w w2 := (by exact eX); have hE_w2 := hE_w1.trans hb2; obtain ⟨hc_w2, hf_w2⟩ := hE_w2.cells; have hz_w2 := hE_w2.size; have HO2 := Hid.mk' (ho2.base (hE1.size)); have HB2 := Hid.mk' (ho2.base hz_w1); clear ho2 hc_w1 hf_w1))
  go_ret2
  exact CPutPost.bad HE.out (by decide) hE2

set_option maxRecDepth 100000 in set_option maxHeartbeats 1600000 in
theorem cput_wrong (v : Value) (l : List Int) (k ty n : Int) (x y : Nat) (s : ByteArray) (kind ver : Int) (w : World) (hs : s.size ≤ 9223372036854775807) (hk0 : 0 ≤ k)
    (hr : rightC k ty n x y s kind ≠ 0 ∨ ¬ (ver = 1 ∨ ver = 2)) :
    Calls Tryz.prog 140 #[v, .agg #[.int .u8 k, .int .u8 ty, .int .i64 n, .complex .f64 x y, .string s], .int .u8 kind, .int .u8 ver] w (CPutPost l k ty n x y s kind ver w) := by
  by_cases hv : ver = 1 ∨ ver = 2
  · have hr0 : rightC k ty n x y s kind ≠ 0 := hr.resolve_right (fun h => h hv)
    have HR := Hid.mk' (fun w => cright_any k ty n x y s kind w hk0 hs)
    have HE : Hid (errC k ty n x y s kind ver = rightC k ty n x y s kind) := Hid.mk' (by unfold errC; rw [if_pos hv, if_pos hr0])
    generalize rightC k ty n x y s kind = R at *
    have hR2 : (R != 0) = true := by simpa using hr0
    have HR0 := Hid.mk' hr0
    clear hr0 hr
    have hv1 : 1 ≤ ver := by omega
    have hv2 : ver ≤ 2 := by omega
    clear hv
    go_enter Tryz.func140, Tryz.ntmps140
    go_wp2_with (go_at_call 171; refine (HR.out _).mono ?_; rintro e w1 ⟨rfl, hb1⟩; have hE1 : Ext w w1 := (by exact eX); have hE_w1 := hb1; obtain ⟨hc_w1, hf_w1⟩ := hE_w1.cells; have hz_w1 := hE_w1.size)
    go_ret2
    exact CPutPost.bad HE.out HR0.out hE1
  · have HE : Hid (errC k ty n x y s kind ver = 18) := Hid.mk' (by unfold errC; rw [if_neg hv])
    clear hr
    by_cases h1 : ver < 1
    · clear hv
      go_enter Tryz.func140, Tryz.ntmps140
      go_wp2
      go_ret2
      exact CPutPost.bad HE.out (by decide) (by exact eX)
    · have h2 : 2 < ver := by omega
      clear hv
      go_enter Tryz.func140, Tryz.ntmps140
      go_wp2
      go_ret2
      exact CPutPost.bad HE.out (by decide) (by exact eX)

/-- The program's Put of a cell. -/
theorem cput_any (v : Value) (l : List Int) (k ty n : Int) (x y : Nat) (s : ByteArray) (kind ver : Int) (w : World) (hl : Sl w v 1 (l.map bcell)) (hlen : l.length ≤ 700000) (hk0 : 0 ≤ k)
    (hn : -9223372036854775808 ≤ n ∧ n < 9223372036854775808) (hx : x < 2 ^ 64) (hy : y < 2 ^ 64) (hs : s.size ≤ 9223372036854775807) :
    Calls Tryz.prog 140 #[v, .agg #[.int .u8 k, .int .u8 ty, .int .i64 n, .complex .f64 x y, .string s], .int .u8 kind, .int .u8 ver] w (CPutPost l k ty n x y s kind ver w) := by
  by_cases hr : rightC k ty n x y s kind = 0
  · by_cases hv : ver = 1 ∨ ver = 2
    · have hk2 := rightC_k hr
      have hk : k = 0 ∨ k = 1 ∨ k = 2 := by omega
      rcases hk with rfl | rfl | rfl
      · exact cput_null v l ty n x y s kind ver w hl hlen hs hv hr
      · exact cput_same v l ty n x y s kind ver w hl hlen hs hv hr
      · cases hL : largeB 2 ty s with
        | true => exact cput_large v l ty n x y s kind ver w hl hlen hs hv hr hL
        | false =>
          rcases hv with rfl | rfl
          · exact cput_one v l ty n x y s kind w hl hlen hs hn hx hy hr hL
          · by_cases hk : kind = 5 ∨ kind = 6
            · exact cput_text v l ty n x y s kind w hl hlen hs hr hL hk
            · exact cput_two v l ty n x y s kind w hl hlen hs hn hx hy hr hL (by omega)
    · exact cput_wrong v l k ty n x y s kind ver w hs hk0 (.inr hv)
  · exact cput_wrong v l k ty n x y s kind ver w hs hk0 (.inl hr)

theorem cput_ok (v : Value) (l : List Int) (k ty n : Int) (x y : Nat) (s : ByteArray) (kind ver : Int) (w : World) (h : errC k ty n x y s kind ver = 0) (hl : Sl w v 1 (l.map bcell)) (hlen : l.length ≤ 700000) (hk0 : 0 ≤ k)
    (hn : -9223372036854775808 ≤ n ∧ n < 9223372036854775808) (hx : x < 2 ^ 64) (hy : y < 2 ^ 64) (hs : s.size ≤ 9223372036854775807) :
    Calls Tryz.prog 140 #[v, .agg #[.int .u8 k, .int .u8 ty, .int .i64 n, .complex .f64 x y, .string s], .int .u8 kind, .int .u8 ver] w fun e w' => ∃ v', e = .returned (.tuple #[v', .int .i64 0]) ∧ OB w' w.heap.size v' (l ++ putC k ty n x y s kind ver) ∧ Ext w w' := by
  refine (cput_any v l k ty n x y s kind ver w hl hlen hk0 hn hx hy hs).mono ?_
  rintro e w' ⟨v', rfl, h1, h2, h3⟩
  exact ⟨v', by rw [h], h1 h, h3⟩
end Go.Proofs.YtlobghojjfkchaaGreat

/-
How long a cell's bytes are.
-/
namespace Go.Proofs.YtlobghojjfkchaaGreat
open Go.RowKit

theorem putC_len2 {k ty n : Int} {x y : Nat} {s : ByteArray} {kind ver : Int} (hk0 : 0 ≤ k) (h : errC k ty n x y s kind ver = 0) (hn : -9223372036854775808 ≤ n ∧ n < 9223372036854775808) : (putC k ty n x y s kind ver).length ≤ 4000 := by
  obtain ⟨hv, hr, hk, hkd⟩ := errC_zero hk0 h
  rcases hk with rfl | rfl
  · unfold putC; rw [if_pos rfl]; simp
  · have h3 := (right_full hr).1
    have hs := (right_zero h3).2.2.1
    have e1 : errV ty n x y s 1 = 0 := by unfold errV; rw [if_pos (.inl rfl)]; exact h3
    have e2 : errV ty n x y s 2 = 0 := by unfold errV; rw [if_pos (.inr rfl)]; exact h3
    have l1 := putL_len e1 hn
    have l2 := putL_len e2 hn
    have l3 := sevens_len10 (x := s.size) (by omega)
    have l4 := sevens_len10 (x := s.size + 2) (by omega)
    have l5 := strL_len s
    unfold putC
    (repeat' split) <;> (try simp only [List.length_append, List.length_cons, List.length_nil]) <;> omega

end Go.Proofs.YtlobghojjfkchaaGreat

/-
Rows in plain words: what bytes begin with, by a relation and a version; what is put is taken.
-/
namespace Go.Proofs.YtlobghojjfkchaaGreat
open Go.RowKit

end Go.Proofs.YtlobghojjfkchaaGreat

/-
The program's takeFloat and takeComplex.
-/
namespace Go.Proofs.YtlobghojjfkchaaGreat
open Go.RowKit

theorem Tch.trans' {g : Nat} {a b c : World} (h : Tch g a b) (k : Below a.heap.size b c) : Tch g a c :=
  ⟨k.os.trans h.os, k.tape.trans h.tape, k.output.trans h.output, Nat.le_trans h.size k.size, fun i hi hg => (k.block i hi).trans (h.block i hi hg)⟩
theorem Tch.setNew {g h : Nat} {w w' : World} (ht : Tch g w w') (hh : w.heap.size ≤ h) (i : Nat) (v : Value) : Tch g w (w'.setCell ⟨h, i, none⟩ v) :=
  ht.trans' ⟨rfl, rfl, rfl, by simp [World.setCell], fun k hk => Below.heap_setCell _ _ _ _ (by simp; omega)⟩
end Go.Proofs.YtlobghojjfkchaaGreat

/-
The reference's reader: what it tells; giving up; bytes.
-/
namespace Go.Proofs.YtlobghojjfkchaaGreat
open Go.RowKit

/-- The reference's reader in block g, its bytes in a block from d on, below g. -/
def RF (w : World) (g d : Nat) (st : RS) : Prop := ∃ v L at', Blk w g #[v, .int .i64 (at' : Nat), .int .i64 st.e] 139 ∧ SB w g d v L ∧ at' ≤ L.length ∧ st.l = (if st.e = 0 then L.drop at' else []) ∧ isB L ∧ L.length ≤ 1000000
theorem RF.ext {w w1 : World} {g d : Nat} {st : RS} (hr : RF w g d st) (he : Ext w w1) : RF w1 g d st := by
  obtain ⟨v, L, a, h1, h2, h3⟩ := hr
  exact ⟨v, L, a, h1.ext he, h2.ext he, h3⟩
theorem RF.drewN {w : World} {g d : Nat} {st : RS} (hr : RF w g d st) (n : Nat) : RF (w.drewN n) g d st := hr.ext ((Ext.refl w).drewN n)
theorem RF.tch {w w1 : World} {g d h : Nat} {st : RS} (hr : RF w g d st) (he : Tch h w w1) (hg : h ≠ g) (hd : h < d ∨ g ≤ h) : RF w1 g d st := by
  obtain ⟨v, L, a, h1, h2, h3⟩ := hr
  exact ⟨v, L, a, h1.tch he hg.symm, h2.tch he hd, h3⟩
theorem RF.lt {w : World} {g d : Nat} {st : RS} (hr : RF w g d st) : g < w.heap.size := by obtain ⟨v, L, a, h1, _⟩ := hr; exact h1.lt
theorem RF.ok {w : World} {g d : Nat} {st : RS} (hr : RF w g d st) : st.ok := by
  obtain ⟨v, L, a, _, _, _, hl, hb, _⟩ := hr
  refine ⟨fun h => by rw [hl, if_neg h], ?_⟩
  rw [hl]; split; exact hb.drop _; exact isB.nil
end Go.Proofs.YtlobghojjfkchaaGreat
