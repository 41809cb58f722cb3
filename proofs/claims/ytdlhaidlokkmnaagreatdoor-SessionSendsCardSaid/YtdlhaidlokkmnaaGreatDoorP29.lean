/-
What takes a message's body: a relation.
-/
import Derived.Deep.CutBlock
import Derived.Test.YtdlhaidlokkmnaaGreatDoorP26
import Derived.Test.YtdlhaidlokkmnaaGreatDoorP28
import Derived.Test.YtdlhaidlokkmnaaGreatDoorP25
import Derived.Test.YtdlhaidlokkmnaaGreatDoorP23
set_option maxRecDepth 100000
set_option maxHeartbeats 16000000
namespace Go.Proofs.YtdlhaidlokkmnaaGreatDoor
open Go.RowKit
def Bx (W : World) (g : Nat) (q : Option Nat) (b : Nat) (cs : Array Value) (t : TypeId) : Prop := Blk W b cs t ∧ ¬ (b = g ∨ q = some b)
section
variable {W W' : World} {g b : Nat} {q q' : Option Nat} {cs : Array Value} {t : TypeId} {l : List Int}
theorem Bx.wr (h : Bx W g q b cs t) (k : Wr W W' g q q') : Bx W' g q' b cs t := by
  refine ⟨h.1.wr k h.2, fun e => ?_⟩
  rcases e with e | e
  · exact h.2 (.inl e)
  · rcases k.2 with e2 | ⟨b', e2, hb⟩
    · exact h.2 (.inr (e2 ▸ e))
    · rw [e2] at e
      injection e with e
      have := h.1.lt
      omega
theorem Bx.ext (h : Bx W g q b cs t) (he : Ext W W') : Bx W' g q b cs t := ⟨h.1.ext he, h.2⟩
theorem Bx.new (h : WB W g q l) (cs : Array Value) (t : TypeId) : Bx (W.alloc (.cells cs t)) g q W.heap.size cs t := ⟨Blk.new W cs t, h.new (Nat.le_refl _)⟩
end
def Col.wr (c : Col) : Prop := c.nm.size ≤ 1000 ∧ 0 ≤ c.ty ∧ c.ty < 256
theorem colW_len (c : Col) (h : c.wr) : (colW c).length ≤ 1010 := by
  unfold colW nameW
  simp only [List.length_cons, List.length_append, octs_len, strL_len]
  have := h.1
  omega
theorem colsW_len : ∀ (l : List Col), (∀ c ∈ l, c.wr) → (colsW l).length ≤ 1010 * l.length
  | [], _ => by simp [colsW]
  | c :: l, h => by
    have h1 := colW_len c (h c (List.mem_cons_self ..))
    have h2 := colsW_len l (fun d hd => h d (List.mem_cons_of_mem _ hd))
    unfold colsW
    rw [List.length_append, List.length_cons]
    omega
theorem colsW_take {l : List Col} {k : Nat} (h : k < l.length) : colsW (l.take (k + 1)) = colsW (l.take k) ++ colW l[k] := by
  rw [List.take_succ_eq_append_getElem h, colsW_snoc]
theorem wrel_any (g : Nat) (q : Option Nat) (l : List Int) (oid ver : Int) (nm : ByteArray) (id : Int) (cols : List Col) (a : Option Addr) (c : Nat) (W0 w : World) (h : WB w g q l) (he : Ext W0 w) (hg : W0.heap.size ≤ g) (hlen : l.length ≤ 600000000) (hl : Sl W0 (.slice a cols.length c) 3 (cols.map Col.cells)) (hn : cols.length ≤ 1000)
    (ho : B32 oid) (hv : B32 ver) (hnm : nm.size ≤ 1000) (hid : 0 ≤ id ∧ id < 256) (hc : ∀ c ∈ cols, c.wr) :
    Calls Tryz.prog 38 #[.pointer (some ⟨g, 0, none⟩), .agg #[.int .u32 oid, .int .u32 ver, .string nm, .int .u8 id, .slice a cols.length c]] w (WQ g q (l ++ relW ⟨oid, ver, nm, id, cols⟩) w) := by
  have HL := Hm hl
  have HCC := Hm hc
  have HO := Hm ho
  have HV := Hm hv
  have HEE := Hm (fun q' W (k : Wr w W g q q') => Wr.ext he h hg k)
  have HR0 := Hm (Wr.of_ext (g := g) (q := q) ((Ext.refl w).alloc (.cells #[.int .u32 oid, .int .u32 ver, .string nm, .int .u8 id, .slice a cols.length c] 69)))
  have HW1 := Hm (h.ext ((Ext.refl w).alloc (.cells #[.int .u32 oid, .int .u32 ver, .string nm, .int .u8 id, .slice a cols.length c] 69)))
  have HX1 := Hm (Bx.new h #[.int .u32 oid, .int .u32 ver, .string nm, .int .u8 id, .slice a cols.length c] 69)
  clear h hl hc he ho hv
  have w1 := u64_small (n := id) hid.1 (by omega)
  have w2 := u64_small (n := (cols.length : Int)) (by omega) (by omega)
  go_enter Tryz.func38, Tryz.ntmps38
  have gX := HX1.out.1.cell
  have zX := HX1.out.1.lt
  go_upto_region 2 with (go_at_call 39; refine (wref_any g q l oid ver _ HW1.out (by omega) HO.out HV.out).mono ?_; rintro e w3 ⟨rfl, q3, hw3, hr3⟩; have HW3 := Hm hw3; have HR3 := Hm (HR0.out.trans hr3); have HX3 := Hm (HX1.out.wr hr3); clear hw3 hr3 gX zX)
  have gX := HX3.out.1.cell
  have zX := HX3.out.1.lt
  go_upto_region 3 with (go_at_call 68; refine (wname_any g q3 (l ++ refW oid ver) nm _ HW3.out (by unfold refW; simp only [List.length_append, octs_len]; omega) (by omega)).mono ?_; rintro e w4 ⟨rfl, q4, hw4, hr4⟩; have HW4 := Hm hw4; have HR4 := Hm (HR3.out.trans hr4); have HX4 := Hm (HX3.out.wr hr4); clear hw4 hr4 gX zX)
  have gX := HX4.out.1.cell
  have zX := HX4.out.1.lt
  go_upto_region 4 with (go_at_call 37; refine (number_any g q4 (l ++ refW oid ver ++ nameW nm) id 1 _ HW4.out (by unfold refW nameW; simp only [List.length_append, octs_len, strL_len]; omega) (by omega) hid.1).mono ?_; rintro e w5 ⟨rfl, q5, hw5, hr5⟩; have HW5 := Hm hw5; have HR5 := Hm (HR4.out.trans hr5); have HX5 := Hm (HX4.out.wr hr5); clear hw5 hr5 gX zX)
  have gX := HX5.out.1.cell
  have zX := HX5.out.1.lt
  go_upto_region 5 with (go_at_call 37; refine (number_any g q5 (l ++ refW oid ver ++ nameW nm ++ octs id 1) cols.length 1 _ HW5.out (by unfold refW nameW; simp only [List.length_append, octs_len, strL_len]; omega) (by omega) (by omega)).mono ?_; rintro e w6 ⟨rfl, q6, hw6, hr6⟩; have HW6 := Hm hw6; have HR6 := Hm (HR5.out.trans hr6); have HX6 := Hm (HX5.out.wr hr6); clear hw6 hr6 gX zX)
  have gX := HX6.out.1.cell
  have zX := HX6.out.1.lt
  clear HW1 HW3 HW4 HW5 HX1 HX3 HX4 HX5 HR0 HR3 HR4 HR5
  obtain ⟨hd, hhd⟩ : ∃ x, x = l ++ refW oid ver ++ nameW nm ++ octs id 1 ++ octs cols.length 1 := ⟨_, rfl⟩
  rw [← hhd] at HW6
  have HHL := Hm (show hd.length ≤ 600010000 from by rw [hhd]; unfold refW nameW; simp only [List.length_append, octs_len, strL_len]; omega)
  have HHD := Hm hhd
  clear hhd
  go_wp2
  go_loopg [29] cols.length (fun y i wr => ∃ (k : Nat) (q' : Option Nat), y + k = cols.length ∧ i = .int .i64 k ∧ Hid (WB wr g q' (hd ++ colsW (cols.take k))) ∧ Hid (Wr w wr g q q'))
  case atStart => exact ⟨0, q6, rfl, rfl, Hm (by rw [List.take_zero]; exact (List.append_nil _).symm ▸ HW6.out), HR6⟩
  case round =>
    obtain ⟨k, q', hk, rfl, hW, hR⟩ := hrel
    clear gX zX
    by_cases hlt : k < cols.length
    · obtain ⟨b, o, rfl, hb2, hx2⟩ := HL.out.at_ (i := k) (by simpa using hlt)
      have HE := Hm (HEE.out _ _ hR.out)
      obtain ⟨f0, f1, f2⟩ := Col.at_ hlt hx2 hb2 HE.out
      have hbw : b < wr.heap.size := Nat.lt_of_lt_of_le hb2 HE.out.size
      have HCT := Hm (colsW_take hlt)
      have HCL := Hm (colsW_len (cols.take k) (fun c hc => HCC.out c (List.mem_of_mem_take hc)))
      have HXC := Hm (HCC.out _ (List.getElem_mem hlt))
      obtain ⟨x, hx⟩ : ∃ x, x = cols[k]'hlt := ⟨_, rfl⟩
      rw [← hx] at f0 f1 f2 HCT HXC
      clear hx hx2 hb2
      have HLT := Hm hlt
      have i1 : (k : Int) < (cols.length : Int) := by omega
      obtain ⟨xn, xt, xk⟩ := x
      unfold Col.wr at HXC
      simp only at f0 f1 f2 HXC
      have x1 := HXC.out.1
      have x2 := HXC.out.2.1
      have w3 := u64_small (n := xt) x2 (by have := HXC.out.2.2; omega)
      obtain ⟨hw, hhw⟩ : ∃ z, z = hd ++ colsW (cols.take k) := ⟨_, rfl⟩
      rw [← hhw] at hW
      have hwl : hw.length ≤ 610000000 := by
        rw [hhw, List.length_append]
        have h1 := HCL.out
        rw [List.length_take] at h1
        have h2 : 1010 * min k cols.length ≤ 1010 * 1000 := Nat.mul_le_mul_left _ (by omega)
        have h3 := HHL.out
        omega
      have HWL := Hm hwl
      have HHW := Hm hhw
      clear hwl hhw
      have HW7 := Hm (hW.out.ext ((Ext.refl wr).alloc (.cells #[.string xn, .int .u8 xt, .bool xk] 146)))
      have HX7 := Hm (Bx.new hW.out #[.string xn, .int .u8 xt, .bool xk] 146)
      have HR7 := Hm (hR.out.post ((Ext.refl wr).alloc (.cells #[.string xn, .int .u8 xt, .bool xk] 146)))
      cases xk
      · go_upto_region 9 with (fail)
        clear f0 f1 f2 hbw
        have gC := HX7.out.1.cell
        have zC := HX7.out.1.lt
        go_upto_region 12 with (go_at_call 37; refine (number_any g q' hw 0 1 _ HW7.out (by have := HWL.out; omega) (by omega) (by omega)).mono ?_; rintro e w8 ⟨rfl, q8, hw8, hr8⟩; have HW8 := Hm (show WB w8 g q8 (hw ++ [0]) from hw8); have HR8 := Hm (HR7.out.trans hr8); have HX8 := Hm (HX7.out.wr hr8); clear hw8 hr8 gC zC)
        have gC := HX8.out.1.cell
        have zC := HX8.out.1.lt
        go_upto_region 13 with (go_at_call 68; refine (wname_any g q8 _ xn _ HW8.out (by have := HWL.out; rw [List.length_append, List.length_singleton]; omega) (by omega)).mono ?_; rintro e w9 ⟨rfl, q9, hw9, hr9⟩; have HW9 := Hm hw9; have HR9 := Hm (HR8.out.trans hr9); have HX9 := Hm (HX8.out.wr hr9); clear hw9 hr9 gC zC)
        have gC := HX9.out.1.cell
        have zC := HX9.out.1.lt
        go_wp2_with (go_at_call 37; refine (number_any g q9 _ xt 1 _ HW9.out (by have := HWL.out; unfold nameW; simp only [List.length_append, List.length_singleton, octs_len, strL_len]; omega) (by omega) x2).mono ?_; rintro e w10 ⟨rfl, q10, hw10, hr10⟩; have HW10 := Hm hw10; have HR10 := Hm (HR9.out.trans hr10); clear hw10 hr10 gC zC)
        go_roundg (cols.length - (k + 1))
        case measure => have := HLT.out; omega
        case rel =>
          refine ⟨k + 1, q10, Nat.sub_add_cancel HLT.out, by go_num, Hm ?_, HR10⟩
          have h9 := HW10.out
          rw [HCT.out, ← List.append_assoc, ← HHW.out]
          unfold colW
          simpa using h9
      · go_upto_region 9 with (fail)
        clear f0 f1 f2 hbw
        have gC := HX7.out.1.cell
        have zC := HX7.out.1.lt
        go_upto_region 12 with (go_at_call 37; refine (number_any g q' hw 1 1 _ HW7.out (by have := HWL.out; omega) (by omega) (by omega)).mono ?_; rintro e w8 ⟨rfl, q8, hw8, hr8⟩; have HW8 := Hm (show WB w8 g q8 (hw ++ [1]) from hw8); have HR8 := Hm (HR7.out.trans hr8); have HX8 := Hm (HX7.out.wr hr8); clear hw8 hr8 gC zC)
        have gC := HX8.out.1.cell
        have zC := HX8.out.1.lt
        go_upto_region 13 with (go_at_call 68; refine (wname_any g q8 _ xn _ HW8.out (by have := HWL.out; rw [List.length_append, List.length_singleton]; omega) (by omega)).mono ?_; rintro e w9 ⟨rfl, q9, hw9, hr9⟩; have HW9 := Hm hw9; have HR9 := Hm (HR8.out.trans hr9); have HX9 := Hm (HX8.out.wr hr9); clear hw9 hr9 gC zC)
        have gC := HX9.out.1.cell
        have zC := HX9.out.1.lt
        go_wp2_with (go_at_call 37; refine (number_any g q9 _ xt 1 _ HW9.out (by have := HWL.out; unfold nameW; simp only [List.length_append, List.length_singleton, octs_len, strL_len]; omega) (by omega) x2).mono ?_; rintro e w10 ⟨rfl, q10, hw10, hr10⟩; have HW10 := Hm hw10; have HR10 := Hm (HR9.out.trans hr10); clear hw10 hr10 gC zC)
        go_roundg (cols.length - (k + 1))
        case measure => have := HLT.out; omega
        case rel =>
          refine ⟨k + 1, q10, Nat.sub_add_cancel HLT.out, by go_num, Hm ?_, HR10⟩
          have h9 := HW10.out
          rw [HCT.out, ← List.append_assoc, ← HHW.out]
          unfold colW
          simpa using h9
    · obtain rfl : k = cols.length := by omega
      rw [List.take_length, HHD.out] at hW
      go_wp2
      go_end0
      refine ⟨rfl, q', ?_, hR.out⟩
      have h9 := hW.out
      unfold relW
      simpa using h9
def K.wr (c : K) : Prop := (-9223372036854775808 ≤ c.v.n ∧ c.v.n ≤ 9223372036854775807) ∧ c.v.s.size ≤ 9223372036854775807
theorem imgW_len (letter : Int) (l : List K) (h : ∀ c ∈ l, c.wr) : (imgW letter l).length ≤ 3010 * l.length + 2 := by
  have := cellsW_len l (fun c hc => (h c hc).1)
  unfold imgW
  simp only [List.length_cons, List.length_append, octs_len]
  omega
def rowsW (k ao av old : Int) (lb la : List K) : List Int := refW ao av ++ ((if old = 1 then imgW 75 lb else if old = 2 then imgW 79 lb else []) ++ (if k = 68 then [] else imgW 78 la))
theorem wrows_any (g : Nat) (q : Option Nat) (l : List Int) (k xd st n oid ver : Int) (nm : ByteArray) (id : Int) (cols : List Col) (ca : Option Addr) (cc : Nat) (kd ao av old : Int) (lb la : List K) (rs : List Rf) (ba aa ra : Option Addr) (bc ac rc : Nat) (fl : Int) (W0 w : World) (h : WB w g q l) (he : Ext W0 w) (hg : W0.heap.size ≤ g) (hlen : l.length ≤ 500000000)
    (hb : Sl W0 (.slice ba lb.length bc) 5 (lb.map K.pc)) (ha : Sl W0 (.slice aa la.length ac) 5 (la.map K.pc)) (hnb : lb.length ≤ 1000) (hna : la.length ≤ 1000) (hcb : ∀ c ∈ lb, c.wr) (hca : ∀ c ∈ la, c.wr) (ho : B32 ao) (hv : B32 av) (ht : Tab W0) :
    Calls Tryz.prog 40 #[.pointer (some ⟨g, 0, none⟩), .agg #[.int .u8 k, .int .u32 xd, .int .u64 st, .int .u32 n, .int .u32 oid, .int .u32 ver, .string nm, .int .u8 id, .slice ca cols.length cc, .int .u8 kd, .int .u32 ao, .int .u32 av, .int .u8 old, .slice ba lb.length bc, .slice aa la.length ac, .slice ra rs.length rc, .int .u8 fl]] w (WQ g q (l ++ rowsW k ao av old lb la) w) := by
  have HB := Hm hb
  have HA := Hm ha
  have HCB := Hm hcb
  have HCA := Hm hca
  have HT := Hm ht
  have HO := Hm ho
  have HV := Hm hv
  have HEE := Hm (fun q' W (k : Wr w W g q q') => Wr.ext he h hg k)
  have HR0 := Hm (Wr.of_ext (g := g) (q := q) ((Ext.refl w).alloc (.cells #[.int .u8 k, .int .u32 xd, .int .u64 st, .int .u32 n, .int .u32 oid, .int .u32 ver, .string nm, .int .u8 id, .slice ca cols.length cc, .int .u8 kd, .int .u32 ao, .int .u32 av, .int .u8 old, .slice ba lb.length bc, .slice aa la.length ac, .slice ra rs.length rc, .int .u8 fl] 76)))
  have HW1 := Hm (h.ext ((Ext.refl w).alloc (.cells #[.int .u8 k, .int .u32 xd, .int .u64 st, .int .u32 n, .int .u32 oid, .int .u32 ver, .string nm, .int .u8 id, .slice ca cols.length cc, .int .u8 kd, .int .u32 ao, .int .u32 av, .int .u8 old, .slice ba lb.length bc, .slice aa la.length ac, .slice ra rs.length rc, .int .u8 fl] 76)))
  have HX1 := Hm (Bx.new h #[.int .u8 k, .int .u32 xd, .int .u64 st, .int .u32 n, .int .u32 oid, .int .u32 ver, .string nm, .int .u8 id, .slice ca cols.length cc, .int .u8 kd, .int .u32 ao, .int .u32 av, .int .u8 old, .slice ba lb.length bc, .slice aa la.length ac, .slice ra rs.length rc, .int .u8 fl] 76)
  have HLB := Hm (imgW_len 75 lb hcb)
  have HLC := Hm (imgW_len 79 lb hcb)
  have HRW := Hm (show rowsW k ao av old lb la = refW ao av ++ ((if old = 1 then imgW 75 lb else if old = 2 then imgW 79 lb else []) ++ (if k = 68 then [] else imgW 78 la)) from rfl)
  generalize rowsW k ao av old lb la = RW at HRW
  clear h hb ha hcb hca he ho hv ht
  by_cases h1 : old = 1
  · subst h1
    rw [if_pos rfl] at HRW
    by_cases hk : k = 68
    · subst hk
      rw [if_pos rfl] at HRW
      go_enter Tryz.func40, Tryz.ntmps40
      have gX := HX1.out.1.cell
      have zX := HX1.out.1.lt
      go_upto_region 4 with (go_at_call 39; refine (wref_any g q l ao av _ HW1.out (by omega) HO.out HV.out).mono ?_; rintro e w3 ⟨rfl, q3, hw3, hr3⟩; have HW3 := Hm hw3; have HR3 := Hm (HR0.out.trans hr3); have HX3 := Hm (HX1.out.wr hr3); clear hw3 hr3 gX zX; have gX := HX3.out.1.cell; have zX := HX3.out.1.lt)
      go_wp2_with (go_at_call 69; refine (wimage_any g q3 (l ++ refW ao av) 75 lb ba bc W0 _ HW3.out (HEE.out _ _ HR3.out) hg (by unfold refW; simp only [List.length_append, octs_len]; omega) HB.out hnb (fun c hc => (HCB.out c hc).1) (fun c hc => (HCB.out c hc).2) HT.out).mono ?_; rintro e w4 ⟨rfl, q4, hw4, hr4⟩; have HW4 := Hm hw4; have HR4 := Hm (HR3.out.trans hr4); have HX4 := Hm (HX3.out.wr hr4); clear hw4 hr4 gX zX; have gX := HX4.out.1.cell; have zX := HX4.out.1.lt)
      go_end0
      exact ⟨rfl, q4, by rw [HRW.out]; simpa using HW4.out, HR4.out⟩
    have hk1 : (k != 68) = true := by simpa using hk
    rw [if_neg hk] at HRW
    clear hk
    go_enter Tryz.func40, Tryz.ntmps40
    have gX := HX1.out.1.cell
    have zX := HX1.out.1.lt
    go_upto_region 4 with (go_at_call 39; refine (wref_any g q l ao av _ HW1.out (by omega) HO.out HV.out).mono ?_; rintro e w3 ⟨rfl, q3, hw3, hr3⟩; have HW3 := Hm hw3; have HR3 := Hm (HR0.out.trans hr3); have HX3 := Hm (HX1.out.wr hr3); clear hw3 hr3 gX zX; have gX := HX3.out.1.cell; have zX := HX3.out.1.lt)
    go_upto_region 8 with (go_at_call 69; refine (wimage_any g q3 (l ++ refW ao av) 75 lb ba bc W0 _ HW3.out (HEE.out _ _ HR3.out) hg (by unfold refW; simp only [List.length_append, octs_len]; omega) HB.out hnb (fun c hc => (HCB.out c hc).1) (fun c hc => (HCB.out c hc).2) HT.out).mono ?_; rintro e w4 ⟨rfl, q4, hw4, hr4⟩; have HW4 := Hm hw4; have HR4 := Hm (HR3.out.trans hr4); have HX4 := Hm (HX3.out.wr hr4); clear hw4 hr4 gX zX; have gX := HX4.out.1.cell; have zX := HX4.out.1.lt)
    go_wp2_with (go_at_call 69; refine (wimage_any g q4 (l ++ refW ao av ++ imgW 75 lb) 78 la aa ac W0 _ HW4.out (HEE.out _ _ HR4.out) hg (by have := HLB.out; unfold refW; simp only [List.length_append, octs_len]; omega) HA.out hna (fun c hc => (HCA.out c hc).1) (fun c hc => (HCA.out c hc).2) HT.out).mono ?_; rintro e w5 ⟨rfl, q5, hw5, hr5⟩; have HW5 := Hm hw5; have HR5 := Hm (HR4.out.trans hr5); clear hw5 hr5 gX zX)
    go_end0
    exact ⟨rfl, q5, by rw [HRW.out]; simpa using HW5.out, HR5.out⟩
  rw [if_neg h1] at HRW
  have k1 : (old == 1) = false := by simpa using h1
  clear h1
  by_cases h2 : old = 2
  · subst h2
    rw [if_pos rfl] at HRW
    by_cases hk : k = 68
    · subst hk
      rw [if_pos rfl] at HRW
      go_enter Tryz.func40, Tryz.ntmps40
      have gX := HX1.out.1.cell
      have zX := HX1.out.1.lt
      go_upto_region 6 with (go_at_call 39; refine (wref_any g q l ao av _ HW1.out (by omega) HO.out HV.out).mono ?_; rintro e w3 ⟨rfl, q3, hw3, hr3⟩; have HW3 := Hm hw3; have HR3 := Hm (HR0.out.trans hr3); have HX3 := Hm (HX1.out.wr hr3); clear hw3 hr3 gX zX; have gX := HX3.out.1.cell; have zX := HX3.out.1.lt)
      go_wp2_with (go_at_call 69; refine (wimage_any g q3 (l ++ refW ao av) 79 lb ba bc W0 _ HW3.out (HEE.out _ _ HR3.out) hg (by unfold refW; simp only [List.length_append, octs_len]; omega) HB.out hnb (fun c hc => (HCB.out c hc).1) (fun c hc => (HCB.out c hc).2) HT.out).mono ?_; rintro e w4 ⟨rfl, q4, hw4, hr4⟩; have HW4 := Hm hw4; have HR4 := Hm (HR3.out.trans hr4); have HX4 := Hm (HX3.out.wr hr4); clear hw4 hr4 gX zX; have gX := HX4.out.1.cell; have zX := HX4.out.1.lt)
      go_end0
      exact ⟨rfl, q4, by rw [HRW.out]; simpa using HW4.out, HR4.out⟩
    have hk1 : (k != 68) = true := by simpa using hk
    rw [if_neg hk] at HRW
    clear hk
    go_enter Tryz.func40, Tryz.ntmps40
    have gX := HX1.out.1.cell
    have zX := HX1.out.1.lt
    go_upto_region 6 with (go_at_call 39; refine (wref_any g q l ao av _ HW1.out (by omega) HO.out HV.out).mono ?_; rintro e w3 ⟨rfl, q3, hw3, hr3⟩; have HW3 := Hm hw3; have HR3 := Hm (HR0.out.trans hr3); have HX3 := Hm (HX1.out.wr hr3); clear hw3 hr3 gX zX; have gX := HX3.out.1.cell; have zX := HX3.out.1.lt)
    go_upto_region 8 with (go_at_call 69; refine (wimage_any g q3 (l ++ refW ao av) 79 lb ba bc W0 _ HW3.out (HEE.out _ _ HR3.out) hg (by unfold refW; simp only [List.length_append, octs_len]; omega) HB.out hnb (fun c hc => (HCB.out c hc).1) (fun c hc => (HCB.out c hc).2) HT.out).mono ?_; rintro e w4 ⟨rfl, q4, hw4, hr4⟩; have HW4 := Hm hw4; have HR4 := Hm (HR3.out.trans hr4); have HX4 := Hm (HX3.out.wr hr4); clear hw4 hr4 gX zX; have gX := HX4.out.1.cell; have zX := HX4.out.1.lt)
    go_wp2_with (go_at_call 69; refine (wimage_any g q4 (l ++ refW ao av ++ imgW 79 lb) 78 la aa ac W0 _ HW4.out (HEE.out _ _ HR4.out) hg (by have := HLC.out; unfold refW; simp only [List.length_append, octs_len]; omega) HA.out hna (fun c hc => (HCA.out c hc).1) (fun c hc => (HCA.out c hc).2) HT.out).mono ?_; rintro e w5 ⟨rfl, q5, hw5, hr5⟩; have HW5 := Hm hw5; have HR5 := Hm (HR4.out.trans hr5); clear hw5 hr5 gX zX)
    go_end0
    exact ⟨rfl, q5, by rw [HRW.out]; simpa using HW5.out, HR5.out⟩
  rw [if_neg h2] at HRW
  have k2 : (old == 2) = false := by simpa using h2
  clear h2
  by_cases hk : k = 68
  · subst hk
    rw [if_pos rfl] at HRW
    go_enter Tryz.func40, Tryz.ntmps40
    have gX := HX1.out.1.cell
    have zX := HX1.out.1.lt
    go_wp2_with (go_at_call 39; refine (wref_any g q l ao av _ HW1.out (by omega) HO.out HV.out).mono ?_; rintro e w3 ⟨rfl, q3, hw3, hr3⟩; have HW3 := Hm hw3; have HR3 := Hm (HR0.out.trans hr3); have HX3 := Hm (HX1.out.wr hr3); clear hw3 hr3 gX zX; have gX := HX3.out.1.cell; have zX := HX3.out.1.lt)
    go_end0
    exact ⟨rfl, q3, by rw [HRW.out]; simpa using HW3.out, HR3.out⟩
  have hk1 : (k != 68) = true := by simpa using hk
  rw [if_neg hk] at HRW
  clear hk
  go_enter Tryz.func40, Tryz.ntmps40
  have gX := HX1.out.1.cell
  have zX := HX1.out.1.lt
  go_upto_region 8 with (go_at_call 39; refine (wref_any g q l ao av _ HW1.out (by omega) HO.out HV.out).mono ?_; rintro e w3 ⟨rfl, q3, hw3, hr3⟩; have HW3 := Hm hw3; have HR3 := Hm (HR0.out.trans hr3); have HX3 := Hm (HX1.out.wr hr3); clear hw3 hr3 gX zX; have gX := HX3.out.1.cell; have zX := HX3.out.1.lt)
  go_wp2_with (go_at_call 69; refine (wimage_any g q3 (l ++ refW ao av) 78 la aa ac W0 _ HW3.out (HEE.out _ _ HR3.out) hg (by unfold refW; simp only [List.length_append, octs_len]; omega) HA.out hna (fun c hc => (HCA.out c hc).1) (fun c hc => (HCA.out c hc).2) HT.out).mono ?_; rintro e w5 ⟨rfl, q5, hw5, hr5⟩; have HW5 := Hm hw5; have HR5 := Hm (HR3.out.trans hr5); clear hw5 hr5 gX zX)
  go_end0
  exact ⟨rfl, q5, by rw [HRW.out]; simpa using HW5.out, HR5.out⟩
theorem named_le {s : ByteArray} (h : namedB s = true) : s.size ≤ 31 := by
  unfold namedB at h
  rw [Bool.and_eq_true, decide_eq_true_eq] at h
  exact h.1.2
theorem Rl.right_nm {r : Rl} (h : r.right = 0) : r.nm.size ≤ 31 := by
  unfold Rl.right at h
  by_cases h1 : r.oid = 0 ∨ r.ver = 0
  · rw [if_pos h1] at h; cases h
  rw [if_neg h1] at h
  by_cases h2 : namedB r.nm = false
  · rw [if_pos h2] at h; cases h
  exact named_le (by simpa using h2)
theorem Rl.right_wr {r : Rl} (h : r.right = 0) : ∀ c ∈ r.cols, c.wr := by
  have h3 : firstE (colAt r.cols) r.cols.length = 0 := by
    apply Classical.byContradiction
    intro hne
    unfold Rl.right at h
    rw [if_pos hne] at h
    repeat' split at h
    all_goals first | omega | cases h | exact hne h
  intro c hc
  obtain ⟨i, hi, rfl⟩ := List.getElem_of_mem hc
  have h4 := firstE_all h3 i hi
  rw [colAt_lt hi] at h4
  unfold colE at h4
  by_cases h1 : namedB r.cols[i].nm = false
  · rw [if_pos h1] at h4; cases h4
  rw [if_neg h1] at h4
  by_cases h5 : (r.cols.take i).any (fun o => decide (o.nm = r.cols[i].nm)) = true
  · rw [if_pos h5] at h4; cases h4
  rw [if_neg h5] at h4
  by_cases h6 : r.cols[i].ty < 1 ∨ 6 < r.cols[i].ty
  · rw [if_pos h6] at h4; cases h4
  have := named_le (s := r.cols[i].nm) (by simpa using h1)
  exact ⟨by omega, by omega, by omega⟩
structure ML.okr (p : ML) : Prop where
  len : p.r.r.cols.length ≤ 1000
  nm : p.r.r.nm.size ≤ 9223372036854775807
  cs : ∀ c ∈ p.r.r.cols, c.nm.size ≤ 9223372036854775807
  sm : p.e.e.small
  wk : p.e.e.wk
  k0 : 0 ≤ p.k
  k1 : p.k < 256
  x : B32 p.x
  st : 0 ≤ p.st
  st1 : p.st < 18446744073709551616
  n : B32 p.n
  o : B32 p.r.r.oid
  v : B32 p.r.r.ver
  id : 0 ≤ p.r.r.id ∧ p.r.r.id < 256
  wb : ∀ c ∈ p.e.e.b, c.wr
  wa : ∀ c ∈ p.e.e.a, c.wr
  ao : B32 p.e.e.ao
  av : B32 p.e.e.av
  rs : ∀ r ∈ p.e.e.rs, B32 r.o ∧ B32 r.v
  fl : 0 ≤ p.e.e.fl ∧ p.e.e.fl < 256
structure ML.ok (p : ML) : Prop extends p.okr where
  cap : p.r.r.cols.length ≤ p.r.c
theorem msg_rel {m : Msg} {rs : List Rl} (h : msgE m rs = 0) (hk : m.k = 82) : m.r.right = 0 := by
  unfold msgE at h
  (repeat' split at h) <;> first | exact h | (exfalso; omega) | cases h
theorem msg_ev {m : Msg} {rs : List Rl} (h : msgE m rs = 0) (h1 : m.k ≠ 66) (h2 : m.k ≠ 67) (h3 : m.k ≠ 82) : m.e.kind = wkind m.k ∧ evE m.e rs = 0 := by
  unfold msgE at h
  (repeat' split at h) <;> first | (exact ⟨Classical.not_not.1 (by assumption), h⟩) | (exfalso; omega) | cases h
theorem ev_old {e : Ev} {rs : List Rl} (h : evE e rs = 0) (hk : e.kind ≠ 7) : e.old ≤ 2 := by
  unfold evE at h
  by_cases c1 : e.kind < 4 ∨ 7 < e.kind
  · rw [if_pos c1] at h; cases h
  rw [if_neg c1] at h
  by_cases c2 : ownB e = false
  · rw [if_pos c2] at h; cases h
  rw [if_neg c2, if_neg hk] at h
  split at h
  · cases h
  · rename_i r hr
    unfold imgE at h
    by_cases c3 : e.kind < 4 ∨ 6 < e.kind
    · rw [if_pos c3] at h; cases h
    rw [if_neg c3] at h
    by_cases c4 : 2 < e.old
    · rw [if_pos c4] at h; cases h
    · omega
theorem refsW_len : ∀ l : List Rf, (refsW l).length = 8 * l.length
  | [] => rfl
  | r :: l => by
    unfold refsW refW
    simp only [List.length_append, octs_len, List.length_cons, refsW_len l]
    omega
theorem refsW_take {l : List Rf} {k : Nat} (h : k < l.length) : refsW (l.take (k + 1)) = refsW (l.take k) ++ refW l[k].o l[k].v := by
  rw [List.take_succ_eq_append_getElem h, refsW_snoc]
theorem rowsW_len {k ao av old : Int} {lb la : List K} (hb : ∀ c ∈ lb, c.wr) (ha : ∀ c ∈ la, c.wr) (hnb : lb.length ≤ 1000) (hna : la.length ≤ 1000) : (rowsW k ao av old lb la).length ≤ 10000000 := by
  have h1 := imgW_len 75 lb hb
  have h2 := imgW_len 79 lb hb
  have h3 := imgW_len 78 la ha
  have h5 : 3010 * lb.length ≤ 3010 * 1000 := Nat.mul_le_mul_left _ hnb
  have h6 : 3010 * la.length ≤ 3010 * 1000 := Nat.mul_le_mul_left _ hna
  have h7 : (if old = 1 then imgW 75 lb else if old = 2 then imgW 79 lb else []).length ≤ 3010 * 1000 + 2 := by
    split
    · omega
    · split
      · omega
      · simp
  have h8 : (if k = 68 then [] else imgW 78 la).length ≤ 3010 * 1000 + 2 := by
    split
    · simp
    · omega
  unfold rowsW refW
  simp only [List.length_append, octs_len]
  omega
theorem body_len {m : Msg} {rs : List Rl} (h : msgE m rs = 0) (hs : m.e.small) (hb : ∀ c ∈ m.e.b, c.wr) (ha : ∀ c ∈ m.e.a, c.wr) : (bodyW m).length ≤ 10000000 := by
  unfold bodyW
  by_cases h1 : m.k = 66
  · rw [if_pos h1]; simp only [List.length_append, octs_len]; omega
  rw [if_neg h1]
  by_cases h2 : m.k = 67
  · rw [if_pos h2]; simp only [List.length_append, octs_len]; omega
  rw [if_neg h2]
  by_cases h3 : m.k = 82
  · rw [if_pos h3]
    have hr := msg_rel h h3
    have h4 := Rl.right_nm hr
    have h5 := Rl.cols_le hr
    have h6 := colsW_len m.r.cols (Rl.right_wr hr)
    unfold relW refW nameW
    simp only [List.length_append, octs_len, strL_len]
    omega
  rw [if_neg h3]
  by_cases h4 : m.k = 84
  · rw [if_pos h4]
    have := hs.r
    simp only [List.length_append, octs_len, refsW_len]
    omega
  rw [if_neg h4]
  exact rowsW_len (k := m.k) (ao := m.e.ao) (av := m.e.av) (old := m.e.old) hb ha hs.b hs.a
theorem usesE_le {e : Ev} (h : e.rs.length ≤ 30) : (usesE e).length ≤ 30 := by
  unfold usesE
  split
  · simp
  · split
    · exact h
    · simp
theorem stU_n (c : List Rl) (s : Said) (r : Rf) : s.1.length ≤ (stU c s r).1.length ∧ (stU c s r).1.length ≤ s.1.length + 1 ∧ ((stU c s r).2.length + s.1.length = (stU c s r).1.length + s.2.length) := by
  unfold stU
  split
  · omega
  · simp only [List.length_append, List.length_cons, List.length_nil]; omega
theorem usU_n (c : List Rl) : ∀ (l : List Rf) (s : Said), s.1.length ≤ (usU c s l).1.length ∧ (usU c s l).1.length ≤ s.1.length + l.length ∧ ((usU c s l).2.length + s.1.length = (usU c s l).1.length + s.2.length)
  | [], s => by unfold usU; simp only [List.foldl_nil, List.length_nil]; omega
  | r :: l, s => by
    have h1 := stU_n c s r
    have h2 := usU_n c l (stU c s r)
    have h3 : usU c s (r :: l) = usU c (stU c s r) l := rfl
    rw [h3, List.length_cons]
    omega
theorem stV_n (c : List Rl) (s : Said) {v : Ev} (h : v.rs.length ≤ 30) : s.1.length < (stV c s v).1.length ∧ (stV c s v).1.length ≤ s.1.length + 31 ∧ (stV c s v).2.length + s.1.length ≤ (stV c s v).1.length + s.2.length := by
  have h1 := usU_n c (usesE v) s
  have h2 := usesE_le h
  unfold stV
  simp only [List.length_append, List.length_cons, List.length_nil]
  omega
theorem evV_n (c : List Rl) : ∀ (l : List Ev) (s : Said) (_ : ∀ v ∈ l, v.rs.length ≤ 30), s.1.length ≤ (evV c s l).1.length ∧ (evV c s l).1.length ≤ s.1.length + 31 * l.length ∧ (evV c s l).2.length + s.1.length ≤ (evV c s l).1.length + s.2.length
  | [], s, _ => by unfold evV; simp only [List.foldl_nil, List.length_nil]; omega
  | v :: l, s, h => by
    have h1 := stV_n c s (h v (List.mem_cons_self ..))
    have h2 := evV_n c l (stV c s v) (fun x hx => h x (List.mem_cons_of_mem _ hx))
    have h3 : evV c s (v :: l) = evV c (stV c s v) l := rfl
    rw [h3, List.length_cons]
    omega
def Tx.lit (t : Tx) : Prop := t.es.length ≤ 600 ∧ ∀ v ∈ t.es, v.rs.length ≤ 30
theorem stT_n (c : List Rl) (s : Said) {t : Tx} (h : t.lit) : s.1.length ≤ (stT c s t).1.length ∧ (stT c s t).1.length ≤ s.1.length + 18602 ∧ (stT c s t).2.length + s.1.length ≤ (stT c s t).1.length + s.2.length := by
  have h1 := evV_n c t.es (s.1 ++ [txMB t], s.2) h.2
  have h2 := h.1
  unfold stT
  simp only [List.length_append, List.length_cons, List.length_nil] at h1 ⊢
  omega
theorem txT_n (c : List Rl) : ∀ (l : List Tx) (s : Said) (_ : ∀ t ∈ l, t.lit), s.1.length ≤ (txT c s l).1.length ∧ (txT c s l).1.length ≤ s.1.length + 18602 * l.length ∧ (txT c s l).2.length + s.1.length ≤ (txT c s l).1.length + s.2.length
  | [], s, _ => by unfold txT; simp only [List.foldl_nil, List.length_nil]; omega
  | t :: l, s, h => by
    have h1 := stT_n c s (h t (List.mem_cons_self ..))
    have h2 := txT_n c l (stT c s t) (fun x hx => h x (List.mem_cons_of_mem _ hx))
    have h3 : txT c s (t :: l) = txT c (stT c s t) l := rfl
    rw [h3, List.length_cons]
    omega
noncomputable def sAt (c : List Rl) (l : List Tx) (i : Nat) : Said := txT c ([], []) (l.take i)
noncomputable def sEv (c : List Rl) (l : List Tx) (i : Nat) (t : Tx) (k : Nat) : Said := evV c ((sAt c l i).1 ++ [txMB t], (sAt c l i).2) (t.es.take k)
noncomputable def sUs (c : List Rl) (l : List Tx) (i : Nat) (t : Tx) (k : Nat) (v : Ev) (j : Nat) : Said := usU c (sEv c l i t k) ((usesE v).take j)
section
variable {c : List Rl} {l : List Tx} (h : ∀ t ∈ l, t.lit) (hn : l.length ≤ 60)
include h hn
omit hn in
theorem sAt_n (i : Nat) : (sAt c l i).1.length ≤ 18602 * i ∧ (sAt c l i).2.length ≤ (sAt c l i).1.length := by
  have h1 := txT_n c (l.take i) ([], []) (fun t ht => h t (List.mem_of_mem_take ht))
  have h2 : (l.take i).length ≤ i := by rw [List.length_take]; omega
  unfold sAt
  simp only [List.length_nil] at h1
  omega
omit hn in
theorem sEv_n {i k : Nat} {t : Tx} (ht : t ∈ l) : (sEv c l i t k).1.length ≤ 18602 * i + 1 + 31 * k ∧ (sEv c l i t k).2.length ≤ (sEv c l i t k).1.length := by
  have h0 := sAt_n (c := c) h i
  have h1 := evV_n c (t.es.take k) ((sAt c l i).1 ++ [txMB t], (sAt c l i).2) (fun v hv => (h t ht).2 v (List.mem_of_mem_take hv))
  have h2 : (t.es.take k).length ≤ k := by rw [List.length_take]; omega
  unfold sEv
  simp only [List.length_append, List.length_cons, List.length_nil] at h1
  omega
theorem sUs_n {i k j : Nat} {t : Tx} {v : Ev} (ht : t ∈ l) (hi : i < l.length) (hv : v ∈ t.es) (hk : k < t.es.length) : (sUs c l i t k v j).1.length ≤ 1200000 ∧ (sUs c l i t k v j).2.length ≤ 1200000 := by
  have h0 := sEv_n (c := c) (i := i) (k := k) h ht
  have h1 := usU_n c ((usesE v).take j) (sEv c l i t k)
  have h2 := usesE_le ((h t ht).2 v hv)
  have h3 : ((usesE v).take j).length ≤ 30 := by rw [List.length_take]; omega
  have h4 := (h t ht).1
  unfold sUs
  omega
theorem sAt_b {i : Nat} (hi : i ≤ l.length) : (sAt c l i).1.length ≤ 1200000 ∧ (sAt c l i).2.length ≤ 1200000 := by
  have h0 := sAt_n (c := c) h i
  omega
theorem sEv_b {i k : Nat} {t : Tx} (ht : t ∈ l) (hi : i < l.length) (hk : k ≤ t.es.length) : (sEv c l i t k).1.length ≤ 1200000 ∧ (sEv c l i t k).2.length ≤ 1200000 := by
  have h0 := sEv_n (c := c) (i := i) (k := k) h ht
  have h4 := (h t ht).1
  omega
end
theorem sAt_end (c : List Rl) (l : List Tx) : (sAt c l l.length).1 = storyM c l := by unfold sAt storyM; rw [List.take_length]
theorem sAt_succ (c : List Rl) {l : List Tx} {i : Nat} (h : i < l.length) : sAt c l (i + 1) = ((sEv c l i l[i] l[i].es.length).1 ++ [txMC l[i]], (sEv c l i l[i] l[i].es.length).2) := by
  unfold sAt sEv
  rw [txT_take _ _ _ h, List.take_length]
  rfl
theorem sEv_zero (c : List Rl) (l : List Tx) (i : Nat) (t : Tx) : sEv c l i t 0 = ((sAt c l i).1 ++ [txMB t], (sAt c l i).2) := rfl
theorem sEv_succ (c : List Rl) (l : List Tx) (i : Nat) {t : Tx} {k : Nat} (h : k < t.es.length) : sEv c l i t (k + 1) = ((sUs c l i t k t.es[k] (usesE t.es[k]).length).1 ++ [msgOf t.es[k]], (sUs c l i t k t.es[k] (usesE t.es[k]).length).2) := by
  unfold sEv sUs
  rw [evV_take _ _ _ h, List.take_length]
  rfl
theorem sUs_succ (c : List Rl) (l : List Tx) (i : Nat) (t : Tx) (k : Nat) (v : Ev) {j : Nat} (h : j < (usesE v).length) : sUs c l i t k v (j + 1) = stU c (sUs c l i t k v j) (usesE v)[j] := by
  unfold sUs
  exact usU_take _ _ _ h
theorem msgW_le {m : Msg} {rs : List Rl} (hs : m.e.small) (hb : ∀ c ∈ m.e.b, c.wr) (ha : ∀ c ∈ m.e.a, c.wr) : (msgW m rs).length ≤ 10000005 := by
  unfold msgW
  by_cases h0 : msgE m rs ≠ 0
  · rw [if_pos h0]; simp
  · rw [if_neg h0]
    have := body_len (m := m) (rs := rs) (Classical.not_not.1 h0) hs hb ha
    simp only [List.length_cons, List.length_append, octs_len]
    omega
theorem saidW_le (rs : List Rl) : ∀ (l : List ML) (_ : ∀ p ∈ l, p.okr), (saidW rs (l.map ML.m)).length ≤ 10000005 * l.length
  | [], _ => by unfold saidW; simp
  | p :: l, h => by
    have h1 := saidW_le rs l (fun q hq => h q (List.mem_cons_of_mem _ hq))
    have hp := h p (List.mem_cons_self ..)
    have h2 := msgW_le (m := p.m) (rs := rs) hp.sm hp.wb hp.wa
    unfold saidW at h1 ⊢
    simp only [List.map_cons, List.flatten_cons, List.length_append, List.length_cons]
    omega
end Go.Proofs.YtdlhaidlokkmnaaGreatDoor
