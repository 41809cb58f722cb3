/-
Relations, columns and rows of the arguments, opened.
-/
import Derived.RangeFuncNested
import Derived.RangeFuncBound
import Derived.RangeFuncCalls
import Derived.RangeFuncLeaves
import Derived.RangeFuncBox
import Derived.Shelf.Abstract
import Derived.Shelf.RegionOpen
import Derived.OwnWalkIn
import Derived.TacticsInMore
import Derived.LoopNIn
import Derived.LoopIn
import Derived.RangeFuncRecord
import Derived.Sort.LoopGhostIn
import Derived.Maps.AppendAt
import Derived.Test.YtjnafppkbhldlaaGreatP16
set_option maxRecDepth 100000
set_option maxHeartbeats 16000000
namespace Go.Proofs.YtjnafppkbhldlaaGreat
open Go.RowKit Go.ChangeShapes Go.WideShapes Go.ChangeAt
theorem Tryz.cellsCellG : Tryz.prog.cellsOf 221 = 6 := by kernel_rfl
structure K.tw (c : K) : Prop extends K.wk c where
  n : -9223372036854775808 ≤ c.v.n ∧ c.v.n < 9223372036854775808
  x : c.v.x < 2 ^ 64
  y : c.v.y < 2 ^ 64
section
variable {H : Type} {enc : TypeId × Value → H} {w : World} {base : Nat} {spare : Nat → Bool} {held : Bool} {r : Reach} {base2 : Nat} {v : Value} {d : DataW H} {ps : List MemPlace}
end
end Go.Proofs.YtjnafppkbhldlaaGreat
namespace Go.Proofs.YtjnafppkbhldlaaGreat
open Go.RowKit
def EncPost (l : List K) (r : Rl) (ver : Int) (w : World) (e : Ending) (w' : World) : Prop :=
  ∃ v, e = .returned (.tuple #[v, .int .i64 (encE l r ver)]) ∧ (encE l r ver = 0 → OB w' w.heap.size v (rowPut l r.cols ver)) ∧ (encE l r ver ≠ 0 → v = .slice none 0 0) ∧ Ext w w'
theorem EncPost.bad {l : List K} {r : Rl} {ver : Int} {w w' : World} {E : Int} (h : encE l r ver = E) (h0 : E ≠ 0) (hE : Ext w w') : EncPost l r ver w (.returned (.tuple #[.slice none 0 0, .int .i64 E])) w' :=
  ⟨_, by rw [h], fun h2 => absurd (h ▸ h2) h0, fun _ => rfl, hE⟩
theorem EncPost.ok {l : List K} {r : Rl} {ver : Int} {w w' : World} {v : Value} {m : List Int} (h : encE l r ver = 0) (hm : rowPut l r.cols ver = m) (ho : OB w' w.heap.size v m) (hE : Ext w w') : EncPost l r ver w (.returned (.tuple #[v, .int .i64 0])) w' :=
  ⟨_, by rw [h], fun _ => by rw [hm]; exact ho, fun h2 => absurd h h2, hE⟩
theorem cellsPut_len {ver : Int} {l : List K} {cols : List Col} (H : ∀ i (h1 : i < l.length) (h2 : i < cols.length), l[i].k ≠ 0 → (l[i].put cols[i].ty ver).length ≤ 4000) : ∀ k, k ≤ l.length → k ≤ cols.length → (cellsPut ver (l.take k) (cols.take k)).length ≤ 4000 * k
  | 0, _, _ => by simp [cellsPut]
  | k + 1, h1, h2 => by
    have ih := cellsPut_len H k (by omega) (by omega)
    rw [cellsPut_snoc ver l cols k (by omega) (by omega), List.length_append]
    by_cases h0 : (l[k]'(by omega)).k = 0
    · rw [if_pos h0]; simp; omega
    · rw [if_neg h0]; have := H k (by omega) (by omega) h0; omega
theorem cellsPut_all {ver : Int} {l : List K} {cols : List Col} (h : l.length = cols.length) : cellsPut ver (l.take l.length) (cols.take l.length) = cellsPut ver l cols := by
  rw [List.take_length, h, List.take_length]
structure RowOk (l : List K) (cols : List Col) (ver : Int) : Prop where
  n16 : l.length ≤ 16
  len : l.length = cols.length
  err : ∀ i (h1 : i < l.length) (h2 : i < cols.length), l[i].k ≠ 0 → l[i].err cols[i].ty ver = 0
  put : ∀ i (h1 : i < l.length) (h2 : i < cols.length), l[i].k ≠ 0 → (l[i].put cols[i].ty ver).length ≤ 4000
theorem RowOk.of {l : List K} {r : Rl} {ver : Int} (hf : fitsE l r = 0) (hv : ver = 1 ∨ ver = 2) (hs : ∀ c ∈ l, c.tw) : RowOk l r.cols ver := by
  obtain ⟨h0, h1, h2⟩ := fitsW_zero hf
  refine ⟨by have := (fits_cols hf).1; omega, h1, fun i hi hj hk => err_of_right (h2 i hi hj) hv hk, fun i hi hj hk => ?_⟩
  have ht := hs _ (List.getElem_mem hi)
  exact putC_len2 ht.k (err_of_right (h2 i hi hj) hv hk) ht.n
theorem encode_any (l : List K) (a : Option Addr) (cap : Nat) (oid ver : Int) (nm : ByteArray) (id : Int) (cols : List Col) (a2 : Option Addr) (cap2 : Nat) (version : Int) (w : World) (hl : Sl w (.slice a l.length cap) 5 (l.map K.pc)) (hl2 : Sl w (.slice a2 cols.length cap2) 3 (cols.map Col.cells))
    (hcap2 : cols.length ≤ cap2) (hlen : l.length ≤ 1000) (hlen2 : cols.length ≤ 1000) (hs : ∀ c ∈ l, c.tw) (hs2 : ∀ c ∈ cols, c.nm.size ≤ 9223372036854775807) (hnm : nm.size ≤ 9223372036854775807) :
    Calls Tryz.prog 194 #[.slice a l.length cap, .agg #[.int .u32 oid, .int .u32 ver, .string nm, .int .u8 id, .slice a2 cols.length cap2], .int .u8 version] w (EncPost l (⟨oid, ver, nm, id, cols⟩ : Rl) version w) := by
  have HF := Hm (fun W (h : Ext w W) => fits_any l a cap oid ver nm id cols a2 cap2 W (hl.ext h) (hl2.ext h) hcap2 hlen hlen2 (fun c hc => (hs c hc).towk) hs2 hnm)
  have HN := Hm (fun W (h : Ext w W) => nulls_any l a cap W (hl.ext h) hlen)
  have HOK := Hm (fun h hv => RowOk.of (l := l) (r := (⟨oid, ver, nm, id, cols⟩ : Rl)) (ver := version) h hv hs)
  have HEE : Hid (encE l (⟨oid, ver, nm, id, cols⟩ : Rl) version = if version = 1 ∨ version = 2 then fitsE l (⟨oid, ver, nm, id, cols⟩ : Rl) else 18) := Hm rfl
  have HL := Hm hl
  have HL2 := Hm hl2
  have HS := Hm hs
  clear hl hl2 hs hs2 hnm
  by_cases hv : version = 1 ∨ version = 2
  case neg =>
    have HE := Hm (HEE.out.trans (if_neg hv))
    have hv2 : version < 1 ∨ 2 < version := by omega
    clear hv HEE
    go_enter Tryz.func194, Tryz.ntmps194
    go_wp2
    all_goals
      go_ret2
      exact EncPost.bad HE.out (by decide) (by exact eX)
  have HE := Hm (HEE.out.trans (if_pos hv))
  have HV := Hm hv
  have hv1 : 1 ≤ version := by omega
  have hv2 : version ≤ 2 := by omega
  clear hv HEE
  obtain ⟨E, hE0⟩ : ∃ E, E = fitsE l (⟨oid, ver, nm, id, cols⟩ : Rl) := ⟨_, rfl⟩
  rw [← hE0] at HF HE HOK
  by_cases h0 : E = 0
  case neg =>
    have h0' : (E != 0) = true := by simpa using h0
    have H0 := Hm h0
    clear h0 hE0 HOK
    go_enter Tryz.func194, Tryz.ntmps194
    go_wp2_with (go_at_call 249; refine (HF.out _ (by exact eX)).mono ?_; rintro e w1 ⟨rfl, hb1⟩; have hE1 : Ext w w1 := (by exact eX))
    go_ret2
    exact EncPost.bad HE.out H0.out hE1
  subst h0
  have hok := HOK.out rfl HV.out
  have hn16 := hok.n16
  have hnl : l.length = cols.length := hok.len
  have HK := Hm hok
  have HP := Hm (fun W a c h => pack_any (nullsL l) a c W h (by rw [nullsL_len]; exact hn16))
  rw [nullsL_len] at HP
  have hlt0 : l.length ≤ cols.length := by omega
  have HNL := Hm hnl
  clear hok hnl HOK hE0
  go_enter Tryz.func194, Tryz.ntmps194
  go_wp2_with (first
    | (go_at_call 249; refine (HF.out _ (by exact eX)).mono ?_; rintro e w1 ⟨rfl, hb1⟩; have hE1 := Hm (show Ext (w.alloc (.cells #[.int .u32 oid, .int .u32 ver, .string nm, .int .u8 id, .slice a2 cols.length cap2] 174)) w1 by exact eX); have hEw1 : Ext w w1 := (by exact eX); have g0 := ((Blk.new w #[.int .u32 oid, .int .u32 ver, .string nm, .int .u8 id, .slice a2 cols.length cap2] 174).ext hb1).cell; clear hb1)
    | (go_at_call 251; refine (HN.out _ (by exact eX)).mono ?_; rintro e w2 ⟨an, cn, rfl, hn2, hb2⟩; have HN2 := Hm hn2; clear hn2)
    | (go_at_call 250; refine (HP.out _ _ _ HN2.out).mono ?_; rintro e w3 ⟨v3, rfl, ho3, hb3⟩; have HO3 := Hm (ho3.base (Ext.size (by exact eX : Ext w _))); have HE3 := Hm (hE1.out.trans (hb2.trans hb3)); clear ho3 hb3 hb2))
  clear g0
  go_loopw [9, 10, 33] (fun v e i wr => ∃ k : Nat, k ≤ l.length ∧ e = .int .i64 0 ∧ i = .int .i64 k ∧ Hid (OB wr w.heap.size v (mapL (nullsL l) ++ cellsPut version (l.take k) (cols.take k))) ∧ Hid (Ext (w.alloc (.cells #[.int .u32 oid, .int .u32 ver, .string nm, .int .u8 id, .slice a2 cols.length cap2] 174)) wr)) (fun _ _ i _ => l.length - (intOf i).toNat)
  case atStart => exact ⟨0, Nat.zero_le _, rfl, rfl, Hm (by simp only [List.take_zero, cellsPut, List.append_nil]; exact HO3.out), HE3⟩
  case round =>
    obtain ⟨k, hk, rfl, rfl, hown, hE⟩ := hrel
    have hEw : Ext w wr := ((Ext.refl w).alloc _).trans hE.out
    have hBx := (Blk.new w #[.int .u32 oid, .int .u32 ver, .string nm, .int .u8 id, .slice a2 cols.length cap2] 174).ext hE.out
    have g0 := hBx.cell
    have z0 := hBx.lt
    clear hBx
    by_cases hlt : k < l.length
    · have hlt2 : k < cols.length := by omega
      obtain ⟨b, o, rfl, hb, hx⟩ := HL.out.at_ (i := k) (by simpa using hlt)
      obtain ⟨f0, f1, f2, f3, f4⟩ := K.pcAt hlt hx hb hEw
      obtain ⟨b2, o2, rfl, hb2', hx2⟩ := HL2.out.at_ (i := k) (by simpa using hlt2)
      obtain ⟨p0, p1, p2⟩ := Col.at_ hlt2 hx2 hb2' hEw
      have hbw : b < wr.heap.size := Nat.lt_of_lt_of_le hb hEw.size
      have hbw2 : b2 < wr.heap.size := Nat.lt_of_lt_of_le hb2' hEw.size
      have htw := HS.out _ (List.getElem_mem hlt)
      have HSN := Hm (cellsPut_snoc version l cols k hlt hlt2)
      have hpl := cellsPut_len HK.out.put k (by omega) (by omega)
      have hml := mapL_len (nullsL l)
      rw [nullsL_len] at hml
      have hms : mapSize l.length ≤ 2 := by unfold mapSize; omega
      have HCP := Hm (fun (hk0 : l[k].k ≠ 0) W u (h : OB W w.heap.size u (mapL (nullsL l) ++ cellsPut version (l.take k) (cols.take k))) => cput_ok u (mapL (nullsL l) ++ cellsPut version (l.take k) (cols.take k)) l[k].k l[k].v.ty l[k].v.n l[k].v.x l[k].v.y l[k].v.s cols[k].ty version W (HK.out.err k hlt hlt2 hk0) h.sl (by rw [List.length_append]; omega) htw.k htw.n htw.x htw.y htw.s)
      obtain ⟨c, hc⟩ : ∃ c, c = l[k] := ⟨_, rfl⟩
      obtain ⟨d, hd⟩ : ∃ d, d = cols[k] := ⟨_, rfl⟩
      rw [← hc] at f0 f1 f2 f3 f4 HSN HCP
      rw [← hd] at p0 p1 p2 HSN HCP
      obtain ⟨pre, hpre⟩ : ∃ pre, pre = mapL (nullsL l) ++ cellsPut version (l.take k) (cols.take k) := ⟨_, rfl⟩
      rw [← hpre] at hown HCP
      have HPRE := Hm hpre
      clear hc hd hx hx2 htw hpl hml hms hpre
      by_cases hk0 : c.k = 0
      · have hk0' : (c.k != 0) = false := by simpa using hk0
        have HS2 := Hm (HSN.out.trans (by rw [if_pos hk0, List.append_nil]))
        clear hk0 HSN HCP
        go_wp2
        go_roundw
        case rel => exact ⟨k + 1, by omega, rfl, by go_num, Hm (by rw [HS2.out, ← HPRE.out]; exact hown.out.alloc _), Hm (hE.out.alloc _)⟩
        case measure => simp [intOf]; omega
      · have hk0' : (c.k != 0) = true := by simpa using hk0
        have HC := Hm (HCP.out hk0)
        have HS2 := Hm (HSN.out.trans (by rw [if_neg hk0]))
        clear hk0 HSN HCP
        go_wp2
        go_region_held3 (fun w' => Ext (wr.alloc (.cells #[.int .u8 c.k, .int .u8 c.v.ty, .int .i64 c.v.n, .complex .f64 c.v.x c.v.y, .string c.v.s] 226)) w' ∧ (∀ b o, b < (wr.alloc (.cells #[.int .u8 c.k, .int .u8 c.v.ty, .int .i64 c.v.n, .complex .f64 c.v.x c.v.y, .string c.v.s] 226)).heap.size → w'.cell? ⟨b, o, none⟩ = (wr.alloc (.cells #[.int .u8 c.k, .int .u8 c.v.ty, .int .i64 c.v.n, .complex .f64 c.v.x c.v.y, .string c.v.s] 226)).cell? ⟨b, o, none⟩) ∧ (∀ b o, b < (wr.alloc (.cells #[.int .u8 c.k, .int .u8 c.v.ty, .int .i64 c.v.n, .complex .f64 c.v.x c.v.y, .string c.v.s] 226)).heap.size → w'.frozen? ⟨b, o, none⟩ = (wr.alloc (.cells #[.int .u8 c.k, .int .u8 c.v.ty, .int .i64 c.v.n, .complex .f64 c.v.x c.v.y, .string c.v.s] 226)).frozen? ⟨b, o, none⟩)) ((exact held_of (by exact eX)))
          (first
            | (go_at_call 252; refine (HC.out _ _ (hown.out.ext (by exact eX))).mono ?_; rintro e w2 ⟨v2, rfl, ho2, hb2⟩; have HO2 := Hm (ho2.base (Ext.size (by exact eX : Ext w _))); clear ho2))
        go_wp2
        go_roundw
        case rel => exact ⟨k + 1, by omega, rfl, by go_num, Hm (by rw [HS2.out, ← List.append_assoc, ← HPRE.out]; exact HO2.out.ext (by exact eX)), Hm (hE.out.trans (by exact eX))⟩
        case measure => simp [intOf]; omega
    · have hkk : k = l.length := by omega
      subst hkk
      rw [cellsPut_all HNL.out] at hown
      go_wp2
      go_ret2
      exact EncPost.ok HE.out rfl hown.out hEw
def blankK (c : K) : K := if c.k = 0 then K.zero else c.taken.1
def blanks (l : List K) : List K := l.map blankK
def hoUp (l : List K) (k : Nat) : List Ho := (larges l k).map fun x => ⟨(x.1 : Int), (x.2.size : Int)⟩
theorem hoUp_all (l : List K) : hoUp l l.length = hoL l := rfl
theorem tkUp_put {l : List K} {r : Rl} {ver : Int} (hf : fitsE l r = 0) (hv : ver = 1 ∨ ver = 2) (hs : ∀ c ∈ l, c.tw) (rest : List Int) : ∀ k, k ≤ l.length →
    tkUp (nullsL l) r.cols ver ⟨cellsPut ver l r.cols ++ rest, 0⟩ k = (((blanks l).take k, hoUp l k), ⟨cellsPut ver (l.drop k) (r.cols.drop k) ++ rest, 0⟩)
  | 0, _ => by simp [tkUp, hoUp, larges]
  | k + 1, hk => by
    have ih := tkUp_put hf hv hs rest k (by omega)
    obtain ⟨-, h1, h2⟩ := fitsW_zero hf
    have hlt : k < l.length := by omega
    have hlt2 : k < r.cols.length := by omega
    have hn : k < (nullsL l).length := by rw [nullsL_len]; exact hlt
    have hnk : (nullsL l)[k] = decide (l[k].k = 0) := by simp [nullsL]
    have htw := hs _ (List.getElem_mem hlt)
    have hr := h2 k hlt hlt2
    have hbl : k < (blanks l).length := by simpa [blanks] using hlt
    have hbk : (blanks l)[k] = blankK l[k] := by simp [blanks]
    have hdl : l.drop k = l[k] :: l.drop (k + 1) := List.drop_eq_getElem_cons hlt
    have hdc : r.cols.drop k = r.cols[k] :: r.cols.drop (k + 1) := List.drop_eq_getElem_cons hlt2
    by_cases h0 : l[k].k = 0
    · rw [tkUp_null hn hlt2 (by rw [hnk]; simpa using h0), ih]
      have hlg : largeB l[k].k l[k].v.ty l[k].v.s = false := by unfold largeB; rw [decide_eq_false_iff_not]; intro h; omega
      have e1 : hoUp l (k + 1) = hoUp l k := by unfold hoUp; rw [larges_no hlt hlg]
      rw [e1, List.take_succ_eq_append_getElem hbl, hbk, hdl, hdc]
      simp only [cellsPut, blankK]
      rw [if_pos h0, if_pos h0]
      simp
    · have herr : l[k].err r.cols[k].ty ver = 0 := err_of_right hr hv h0
      have htk := takeC_put l[k] r.cols[k].ty ver (cellsPut ver (l.drop (k + 1)) (r.cols.drop (k + 1)) ++ rest) htw.k herr ⟨htw.n, htw.x, htw.y⟩
      have hst : (tkUp (nullsL l) r.cols ver ⟨cellsPut ver l r.cols ++ rest, 0⟩ k).2 = ⟨l[k].put r.cols[k].ty ver ++ (cellsPut ver (l.drop (k + 1)) (r.cols.drop (k + 1)) ++ rest), 0⟩ := by
        rw [ih, hdl, hdc]
        simp only [cellsPut]
        rw [if_neg h0, List.append_assoc]
      have hbl2 : blankK l[k] = l[k].taken.1 := by unfold blankK; rw [if_neg h0]
      rw [tkUp_cell hn hlt2 (by rw [hnk]; simpa using h0) (c := l[k].taken.1) (m := l[k].taken.2) (by rw [hst]; exact htk), ih]
      rw [List.take_succ_eq_append_getElem hbl, hbk, hbl2]
      simp only
      congr 2
      cases hq : largeB l[k].k l[k].v.ty l[k].v.s with
      | true =>
        have e2 : l[k].taken.2 = l[k].v.s.size := by unfold K.taken; rw [if_pos hq]
        have hpos : 64 < l[k].v.s.size := by unfold largeB at hq; rw [decide_eq_true_eq] at hq; exact hq.2.2
        rw [e2, if_pos (by omega)]
        unfold hoUp
        rw [larges_yes hlt hq]
        simp
      | false =>
        have e2 : l[k].taken.2 = 0 := by unfold K.taken; rw [if_neg (by rw [hq]; simp)]
        rw [e2, if_neg (by omega)]
        unfold hoUp
        rw [larges_no hlt hq]
theorem takeT_put {l : List K} {r : Rl} {ver : Int} (hf : fitsE l r = 0) (hv : ver = 1 ∨ ver = 2) (hs : ∀ c ∈ l, c.tw) (rest : List Int) :
    takeT r ver ⟨rowPut l r.cols ver ++ rest, 0⟩ = ((blanks l, hoL l), ⟨rest, 0⟩) := by
  obtain ⟨h0, h1, -⟩ := fitsW_zero hf
  have hb : begR r ver ⟨rowPut l r.cols ver ++ rest, 0⟩ = ⟨rowPut l r.cols ver ++ rest, 0⟩ := by
    unfold begR; rw [if_pos hv, h0]; unfold failS; rw [if_neg (by decide)]
  unfold takeT
  rw [hb, if_neg (by simp)]
  have hby : bytesR (mapSize r.cols.length) ⟨rowPut l r.cols ver ++ rest, 0⟩ = (mapL (nullsL l), ⟨cellsPut ver l r.cols ++ rest, 0⟩) := by
    unfold rowPut
    rw [List.append_assoc]
    exact bytesR_put (mapL (nullsL l)) _ (by rw [mapL_len, nullsL_len, h1]) 0
  have hun : unmapL (mapL (nullsL l)) r.cols.length = (nullsL l, 0) := by
    have := unmap_map (nullsL l)
    rw [nullsL_len, h1] at this
    exact this
  rw [hby, if_neg (by simp), hun]
  simp only
  rw [show failS (⟨cellsPut ver l r.cols ++ rest, 0⟩ : RS) 0 = ⟨cellsPut ver l r.cols ++ rest, 0⟩ by unfold failS; rw [if_neg (by decide)]]
  rw [nullsL_len, tkUp_put hf hv hs rest l.length (Nat.le_refl _)]
  unfold finT
  rw [if_neg (by simp)]
  have e1 : (blanks l).take l.length = blanks l := by rw [show l.length = (blanks l).length by simp [blanks], List.take_length]
  rw [e1, hoUp_all, List.drop_length, ← h1.symm, List.drop_length]
  simp [cellsPut]
theorem larges_mem {l : List K} : ∀ k, ∀ x ∈ larges l k, x.1 < k ∧ ∃ h : x.1 < l.length, largeB l[x.1].k l[x.1].v.ty l[x.1].v.s = true ∧ x.2 = l[x.1].v.s
  | 0, x, hx => by simp [larges] at hx
  | k + 1, x, hx => by
    have ih := larges_mem (l := l) k
    unfold larges at hx
    split at hx
    · rename_i hk
      split at hx
      · rename_i hq
        rcases List.mem_append.1 hx with h | h
        · obtain ⟨h1, h2⟩ := ih x h; exact ⟨by omega, h2⟩
        · obtain rfl : x = _ := by simpa using h
          exact ⟨by simp, hk, hq, rfl⟩
      · obtain ⟨h1, h2⟩ := ih x hx; exact ⟨by omega, h2⟩
    · obtain ⟨h1, h2⟩ := ih x hx; exact ⟨by omega, h2⟩
theorem larges_has {l : List K} : ∀ k i (hi : i < l.length), i < k → largeB l[i].k l[i].v.ty l[i].v.s = true → ∃ x ∈ larges l k, x.1 = i
  | 0, i, _, h, _ => by omega
  | k + 1, i, hi, h, hq => by
    by_cases e : i = k
    · subst e
      refine ⟨(i, l[i].v.s), ?_, rfl⟩
      rw [larges_yes hi hq]; simp
    · obtain ⟨x, hx, h1⟩ := larges_has k i hi (by omega) hq
      refine ⟨x, ?_, h1⟩
      unfold larges
      split
      · split
        · exact List.mem_append.2 (.inl hx)
        · exact hx
      · exact hx
theorem blanks_len (l : List K) : (blanks l).length = l.length := by simp [blanks]
theorem setText_get {l : List K} {i : Nat} {s : ByteArray} {j : Nat} (hj : j < (setText l i s).length) : (setText l i s)[j] = if j = i then ⟨(l[j]'(by rwa [setText_len] at hj)).k, { (l[j]'(by rwa [setText_len] at hj)).v with s := s }⟩ else l[j]'(by rwa [setText_len] at hj) := by
  have hj2 : j < l.length := by rwa [setText_len] at hj
  by_cases hi : i < l.length
  · have e : setText l i s = l.set i ⟨l[i].k, { l[i].v with s := s }⟩ := by unfold setText; rw [dif_pos hi]
    simp only [e]
    by_cases h : j = i
    · subst h; simp
    · rw [if_neg h, List.getElem_set_ne (Ne.symm h)]
  · have e : setText l i s = l := by unfold setText; rw [dif_neg hi]
    simp only [e]
    rw [if_neg (by omega)]
theorem large_text {c d : K} {kind : Int} (hr : c.right kind = 0) (hL : largeB c.k c.v.ty c.v.s = true) (hd : d = c ∨ d = blankK c) : (⟨d.k, { d.v with s := c.v.s }⟩ : K) = c := by
  rcases hd with rfl | rfl
  · rfl
  · obtain ⟨k, ⟨ty, n, x, y, s⟩⟩ := c
    simp only at hL
    have hL0 := hL
    unfold largeB at hL
    rw [decide_eq_true_eq] at hL
    obtain ⟨rfl, hty, hsz⟩ := hL
    have hrr : rightC 2 ty n x y s kind = 0 := hr
    obtain ⟨-, -, -, -, h2, h3, h4, -⟩ := right_zero (right_full hrr).1
    obtain rfl : n = 0 := h2 (by omega)
    have hx := h3 (by omega) (by omega)
    have hy := h4 (by omega)
    obtain rfl : x = 0 := by omega
    obtain rfl : y = 0 := by omega
    unfold blankK K.taken
    rw [if_neg (show ¬ ((2 : Int) = 0) by decide)]
    simp only [hL0, if_true]
    rfl
theorem blank_small {c : K} {kind : Int} (hr : c.right kind = 0) (hk : 0 ≤ c.k) (hL : largeB c.k c.v.ty c.v.s = false) : blankK c = c := by
  unfold blankK
  by_cases h0 : c.k = 0
  · rw [if_pos h0]
    obtain ⟨k, ⟨ty, n, x, y, s⟩⟩ := c
    simp only at h0
    subst h0
    have hrr : rightC 0 ty n x y s kind = 0 := hr
    obtain ⟨h1, h2, h3, h4, h5, -⟩ := right_same (by decide) hrr
    obtain rfl := h1
    obtain rfl := h2
    obtain rfl : x = 0 := by omega
    obtain rfl : y = 0 := by omega
    obtain rfl : s = ByteArray.empty := (size_zero s).2 h5
    rfl
  · rw [if_neg h0]
    unfold K.taken
    rw [if_neg (by rw [hL]; simp)]
theorem hoL_get {l : List K} {j : Nat} (h : j < (hoL l).length) : (hoL l)[j] = ⟨(((larges l l.length)[j]'(by rwa [hoL_len] at h)).1 : Int), (((larges l l.length)[j]'(by rwa [hoL_len] at h)).2.size : Int)⟩ := by simp [hoL]
theorem txL_get {l : List K} {j : Nat} (h : j < (txL l).length) : (txL l)[j] = ((larges l l.length)[j]'(by rwa [txL_len] at h)).2 := by simp [txL]
theorem fill_form {l : List K} {r : Rl} (hf : fitsE l r = 0) (hs : ∀ c ∈ l, c.tw) : ∀ j, j ≤ (hoL l).length → ∀ i (hi : i < l.length) (hi2 : i < (fillUp (blanks l) (hoL l) (txL l) j).length),
    ((fillUp (blanks l) (hoL l) (txL l) j)[i] = l[i] ∨ (fillUp (blanks l) (hoL l) (txL l) j)[i] = blankK l[i]) ∧ (∀ q, q < j → (hq : q < (larges l l.length).length) → (larges l l.length)[q].1 = i → (fillUp (blanks l) (hoL l) (txL l) j)[i] = l[i])
  | 0, _, i, hi, hi2 => by
    refine ⟨.inr ?_, fun q h => by omega⟩
    simp [fillUp, blanks]
  | j + 1, hj, i, hi, hi2 => by
    have hj1 : j < (hoL l).length := by omega
    have hj2 : j < (txL l).length := by rw [txL_len]; rwa [hoL_len] at hj1
    have hj3 : j < (larges l l.length).length := by rwa [hoL_len] at hj1
    have e : fillUp (blanks l) (hoL l) (txL l) (j + 1) = setText (fillUp (blanks l) (hoL l) (txL l) j) (larges l l.length)[j].1 (larges l l.length)[j].2 := by
      rw [fillUp_succ hj1 hj2, hoL_get hj1, txL_get hj2]; simp
    obtain ⟨-, hx, hL, htx⟩ := larges_mem l.length _ (List.getElem_mem hj3)
    have hil : i < (fillUp (blanks l) (hoL l) (txL l) j).length := by rw [fillUp_len, blanks_len]; exact hi
    obtain ⟨ih1, ih2⟩ := fill_form hf hs j (by omega) i hi hil
    have hgs : i < (setText (fillUp (blanks l) (hoL l) (txL l) j) (larges l l.length)[j].1 (larges l l.length)[j].2).length := by rw [setText_len]; exact hil
    have hg := setText_get hgs
    have hgo : (fillUp (blanks l) (hoL l) (txL l) (j + 1))[i] = (setText (fillUp (blanks l) (hoL l) (txL l) j) (larges l l.length)[j].1 (larges l l.length)[j].2)[i] := by congr 1
    rw [hgo, hg]
    obtain ⟨-, h1, h2⟩ := fitsW_zero hf
    by_cases hij : i = (larges l l.length)[j].1
    · rw [if_pos hij]
      have key : (⟨(fillUp (blanks l) (hoL l) (txL l) j)[i].k, { (fillUp (blanks l) (hoL l) (txL l) j)[i].v with s := (larges l l.length)[j].2 }⟩ : K) = l[i] := by
        have hst : (larges l l.length)[j].2 = l[i].v.s := by rw [htx]; simp only [hij]
        have hLi : largeB l[i].k l[i].v.ty l[i].v.s = true := by simp only [hij]; exact hL
        rw [hst]
        exact large_text (h2 i hi (by omega)) hLi ih1
      exact ⟨.inl key, fun _ _ _ _ => key⟩
    · rw [if_neg hij]
      refine ⟨ih1, fun q hq hql hqi => ?_⟩
      by_cases e2 : q = j
      · subst e2; exact absurd hqi.symm hij
      · exact ih2 q (by omega) hql hqi
theorem fill_put {l : List K} {r : Rl} (hf : fitsE l r = 0) (hs : ∀ c ∈ l, c.tw) : fillE (blanks l) (hoL l) (txL l) = 0 ∧ fillW (blanks l) (hoL l) (txL l) = l := by
  obtain ⟨-, h1, h2⟩ := fitsW_zero hf
  have hE : fillE (blanks l) (hoL l) (txL l) = 0 := by
    refine fillE_ok (by rw [hoL_len, txL_len]) (fun j hj => ?_) (fun j hj => ?_)
    · unfold holeBad
      rw [dif_pos hj, hoL_get hj, blanks_len]
      obtain ⟨-, hx, -⟩ := larges_mem l.length _ (List.getElem_mem (show j < (larges l l.length).length by rwa [hoL_len] at hj))
      rw [if_neg (by simp only; omega)]
    · unfold sizeBad
      have hj2 : j < (txL l).length := by rw [txL_len]; rwa [hoL_len] at hj
      rw [dif_pos ⟨hj, hj2⟩, hoL_get hj, txL_get hj2, if_neg (by simp)]
  refine ⟨hE, ?_⟩
  unfold fillW
  rw [if_pos hE]
  apply List.ext_getElem
  · rw [fillUp_len, blanks_len]
  · intro i hi1 hi2
    obtain ⟨f1, f2⟩ := fill_form hf hs _ (Nat.le_refl _) i hi2 hi1
    cases hq : largeB l[i].k l[i].v.ty l[i].v.s with
    | true =>
      obtain ⟨x, hx, hxi⟩ := larges_has l.length i hi2 hi2 hq
      obtain ⟨q, hql, rfl⟩ := List.getElem_of_mem hx
      exact f2 q (by rw [hoL_len]; exact hql) hql hxi
    | false =>
      have hb := blank_small (h2 i hi2 (by omega)) (hs _ (List.getElem_mem hi2)).k hq
      rcases f1 with h | h
      · exact h
      · rw [h, hb]
def imgPay (l : List K) (cols : List Col) (ver : Int) : List Int := if l = [] then [] else rowPut l cols ver
theorem imgPay_nil (cols : List Col) (ver : Int) : imgPay [] cols ver = [] := if_pos rfl
def evHead (e : Ev) : List Int := (sevens e.ao.toNat ++ sevens e.av.toNat) ++ (if e.kind = 4 then [] else [e.old])
def evPay (e : Ev) (cols : List Col) (ver : Int) : List Int := evHead e ++ (imgPay e.b cols ver ++ imgPay e.a cols ver)
noncomputable def recE (e : Ev) (l : List Rl) (ver : Int) : Int := if ver = 1 ∨ ver = 2 then evE e l else 18
def colsOf (e : Ev) (l : List Rl) : List Col := match getR e.ao e.av l with
  | none => []
  | some r => r.cols
def recPay (e : Ev) (l : List Rl) (ver : Int) : List Int := if e.kind = 7 then (e.fl :: sevens e.rs.length) ++ refsBy e.rs else evPay e (colsOf e l) ver
def recTx (e : Ev) : List ByteArray := if e.kind = 7 then [] else splitL (txL e.b ++ txL e.a)
noncomputable def recB (e : Ev) (l : List Rl) (ver : Int) : List Int := if recE e l ver = 0 then recPay e l ver else []
noncomputable def recT (e : Ev) (l : List Rl) (ver : Int) : List ByteArray := if recE e l ver = 0 then recTx e else []
structure EvOk (e : Ev) (r : Rl) : Prop where
  kind : 4 ≤ e.kind ∧ e.kind ≤ 6
  old : e.old ≤ 2
  ins : e.kind = 4 → e.old = 0
  b0 : e.old = 0 → e.b = []
  b : e.old ≠ 0 → fitsE e.b r = 0
  a6 : e.kind = 6 → e.a = []
  a : e.kind ≠ 6 → fitsE e.a r = 0
  rs : e.rs = []
  fl : e.fl = 0
theorem len_nil {α : Type} {l : List α} (h : ¬ 0 < l.length) : l = [] := List.eq_nil_of_length_eq_zero (by omega)
theorem isKey_fits {l : List K} {r : Rl} (h : isKeyE l r = 0) : fitsE l r = 0 := by
  unfold isKeyE at h
  by_cases h0 : keyedE l r = 0
  · exact keyed_fits h0
  · rw [if_pos h0] at h; exact absurd h h0
theorem isFull_fits {l : List K} {r : Rl} (h : isFullE l r = 0) : fitsE l r = 0 := by
  unfold isFullE at h
  by_cases h0 : keyedE l r = 0
  · exact keyed_fits h0
  · rw [if_pos h0] at h; exact absurd h h0
theorem img_ok {r : Rl} {kind old : Int} {b a : List K} (h : imgE r kind old b a = 0) (h0 : 0 ≤ old) : (4 ≤ kind ∧ kind ≤ 6) ∧ old ≤ 2 ∧ (kind = 4 → old = 0) ∧ (old = 0 → b = []) ∧ (old ≠ 0 → fitsE b r = 0) ∧ (kind = 6 → a = []) ∧ (kind ≠ 6 → fitsE a r = 0) := by
  unfold imgE at h
  split at h
  · cases h
  rename_i h1
  split at h
  · cases h
  rename_i h2
  split at h
  · cases h
  rename_i h3
  split at h
  · cases h
  rename_i h4
  split at h
  · cases h
  rename_i h5
  split at h
  · rename_i h6; exact absurd h h6.2
  rename_i h6
  split at h
  · rename_i h7; exact absurd h h7.2
  rename_i h7
  refine ⟨by omega, by omega, fun hk => ?_, fun ho => len_nil (fun hl => h3 ⟨ho, hl⟩), fun ho => ?_, fun hk => len_nil (fun hl => h4 ⟨hk, hl⟩), fun hk => ?_⟩
  · unfold allowB at h5
    rw [if_pos hk] at h5
    simpa using h5
  · by_cases h1' : old = 1
    · exact isKey_fits (Classical.byContradiction fun q => h6 ⟨h1', q⟩)
    · exact isFull_fits (Classical.byContradiction fun q => h7 ⟨by omega, q⟩)
  · rw [if_neg hk] at h
    split at h
    · rename_i h8; exact absurd h h8.2
    rename_i h8
    split at h
    · rename_i h9; exact absurd h h9.2
    rename_i h9
    by_cases h4' : kind = 4
    · exact isFull_fits (Classical.byContradiction fun q => h8 ⟨h4', q⟩)
    · exact keyed_fits (Classical.byContradiction fun q => h9 ⟨h4', q⟩)
theorem ev_ok {e : Ev} {l : List Rl} (h : evE e l = 0) (h7 : e.kind ≠ 7) (h0 : 0 ≤ e.old) : ∃ r, getR e.ao e.av l = some r ∧ EvOk e r := by
  unfold evE at h
  split at h
  · cases h
  rename_i h1
  split at h
  · cases h
  rename_i h2
  (try rw [if_neg h7] at h)
  cases hg : getR e.ao e.av l with
  | none => rw [hg] at h; cases h
  | some r =>
    rw [hg] at h
    obtain ⟨k1, k2, k3, k4, k5, k6, k7⟩ := img_ok h h0
    have ho : ownB e = true := by simpa using h2
    unfold ownB Ev.only at ho
    rw [if_pos (show rowedB e.kind = true from decide_eq_true (by omega)), evB_true] at ho
    obtain ⟨kind, ao, av, old, b, a, rs, fl⟩ := e
    simp only [Ev.mk.injEq, true_and] at ho
    exact ⟨r, rfl, ⟨k1, k2, k3, k4, k5, k6, k7, ho.1, ho.2⟩⟩
theorem ev_trunc {e : Ev} {l : List Rl} (h : evE e l = 0) (h7 : e.kind = 7) : (1 ≤ e.rs.length ∧ e.rs.length ≤ 8) ∧ e.fl ≤ 3 ∧ e.ao = 0 ∧ e.av = 0 ∧ e.old = 0 ∧ e.b = [] ∧ e.a = [] ∧ risB e.rs = true ∧ hasAll e.rs l = true := by
  unfold evE at h
  split at h
  · cases h
  split at h
  · cases h
  rename_i h2
  (try rw [if_pos h7] at h)
  have ho : ownB e = true := by simpa using h2
  unfold ownB Ev.only at ho
  rw [if_neg (by unfold rowedB; simp; omega), evB_true] at ho
  unfold truncE at h
  split at h
  · cases h
  rename_i h3
  split at h
  · cases h
  rename_i h4
  split at h
  · cases h
  rename_i h5
  split at h
  · cases h
  rename_i h6
  obtain ⟨kind, ao, av, old, b, a, rs, fl⟩ := e
  simp only [Ev.mk.injEq, true_and, and_true] at ho
  simp only at h3 h4 h5 h6 ⊢
  exact ⟨by omega, by omega, ho.1, ho.2.1, ho.2.2.1, ho.2.2.2.1, ho.2.2.2.2, by simpa using h4, by simpa using h5⟩
theorem fits_ne {l : List K} {r : Rl} (h : fitsE l r = 0) : l ≠ [] := fun e => by
  have h1 := (fits_cols h).2
  have h2 := (fitsW_zero h).2.1
  rw [e] at h2
  simp only [List.length_nil] at h2
  omega
theorem sevens_5 {x : Int} (h0 : 0 ≤ x) (h : x < 4294967296) : (sevens x.toNat).length ≤ 5 := sevens_len _ 4 (by
  have : (128 : Nat) ^ (4 + 1) = 34359738368 := by decide
  omega)
theorem put66 {c : K} {kind ver : Int} (h : c.err kind ver = 0) (hw : c.tw) : (c.put kind ver).length ≤ 72 := by
  obtain ⟨hv, hr, hk, hkd⟩ := errC_zero hw.k h
  obtain ⟨k, ty, n, x, y, s⟩ := c
  simp only [K.put] at *
  rcases hk with rfl | rfl
  · unfold putC; rw [if_pos rfl]; simp
  · obtain ⟨h3, rfl⟩ := right_full hr
    obtain ⟨t1, t2, hs, -, -, -, -, ht, -⟩ := right_zero h3
    have hn := hw.n
    simp only at hn
    have fx := floatL_len (x := x) (ver := 1)
    have fy := floatL_len (x := y) (ver := 1)
    have fx2 := floatL_len (x := x) (ver := 2)
    have fy2 := floatL_len (x := y) (ver := 2)
    have h1 := sevens_len10 (zig_lt n hn)
    have h2 := sevens_len10 (x := s.size) (by omega)
    have h4 := sevens_len10 (x := s.size + 2) (by omega)
    have h5 := strL_len s
    cases hl : largeB 2 ty s with
    | true =>
      unfold putC
      rw [if_neg (by decide), if_pos hl, List.length_cons]; omega
    | false =>
      have hsz : s.size ≤ 64 := by
        unfold largeB at hl
        rw [decide_eq_false_iff_not] at hl
        by_cases h5' : ty < 5
        · have := ht h5'; omega
        · exact Classical.byContradiction fun q => hl ⟨rfl, by omega, by omega⟩
      have hs1 : (sevens s.size).length ≤ 1 := sevens_len _ 0 (by simp; omega)
      have hs2 : (sevens (s.size + 2)).length ≤ 1 := sevens_len _ 0 (by simp; omega)
      unfold putC
      rw [if_neg (by decide), if_neg (by rw [hl]; simp)]
      rcases hv with rfl | rfl
      · rw [if_neg (by decide), List.length_cons]
        have : (putL ty n x y s 1).length ≤ 70 := by
          unfold putL complexL
          (repeat' split) <;> (try simp only [List.length_append, List.length_cons, List.length_nil, wordL_len]) <;> (try omega)
        omega
      · rw [if_pos rfl]
        have : (putL ty n x y s 2).length ≤ 70 := by
          unfold putL complexL
          (repeat' split) <;> (try simp only [List.length_append, List.length_cons, List.length_nil, wordL_len]) <;> (try omega)
        split
        · simp only [List.length_append]; omega
        · omega
theorem cellsPut_short {ver : Int} (hv : ver = 1 ∨ ver = 2) : ∀ (l : List K) (cols : List Col), (∀ i (h1 : i < l.length) (h2 : i < cols.length), l[i].right cols[i].ty = 0) → (∀ c ∈ l, c.tw) → (cellsPut ver l cols).length ≤ l.length * 72
  | [], _, _, _ => by simp [cellsPut]
  | c :: l, [], _, _ => by simp [cellsPut]
  | c :: l, d :: cols, h, hs => by
    have ih := cellsPut_short hv l cols (fun i h1 h2 => h (i + 1) (by simpa using h1) (by simpa using h2)) (fun x hx => hs x (List.mem_cons_of_mem _ hx))
    have h0 : c.right d.ty = 0 := h 0 (by simp) (by simp)
    unfold cellsPut
    rw [List.length_append, List.length_cons]
    split
    · simp only [List.length_nil]; omega
    · rename_i hk
      have := put66 (err_of_right h0 hv hk) (hs c (by simp))
      omega
theorem rowPut_short {l : List K} {r : Rl} {ver : Int} (hf : fitsE l r = 0) (hv : ver = 1 ∨ ver = 2) (hs : ∀ c ∈ l, c.tw) : (rowPut l r.cols ver).length ≤ 1154 := by
  obtain ⟨-, h1, h2⟩ := fitsW_zero hf
  have h3 := (fits_cols hf).1
  have h4 := cellsPut_short hv l r.cols h2 hs
  have h5 : l.length * 72 ≤ 16 * 72 := Nat.mul_le_mul_right _ (by omega)
  unfold rowPut
  rw [List.length_append, mapL_len, nullsL_len]
  unfold mapSize
  omega
theorem tx_2048 {l : List K} {r : Rl} (hf : fitsE l r = 0) : (∀ s ∈ txL l, s.size ≤ 2048) ∧ (txL l).length ≤ 16 := by
  obtain ⟨-, h1, h2⟩ := fitsW_zero hf
  refine ⟨fun s hs => ?_, ?_⟩
  · unfold txL at hs
    rw [List.mem_map] at hs
    obtain ⟨x, hx, rfl⟩ := hs
    obtain ⟨-, hi, hL, hxs⟩ := larges_mem l.length x hx
    have h3 := h2 x.1 hi (by omega)
    unfold K.right at h3
    have h4 := hL
    unfold largeB at h4
    rw [decide_eq_true_eq] at h4
    rw [h4.1] at h3
    rw [hxs]
    exact (right_zero (right_full h3).1).2.2.1
  · have h3 := (fits_cols hf).1
    have h4 := larges_len l l.length
    rw [txL_len]; omega
theorem tx_ok {e : Ev} {r : Rl} (h : EvOk e r) : (∀ s ∈ txL e.b ++ txL e.a, s.size ≤ 2048) ∧ (txL e.b ++ txL e.a).length ≤ 32 := by
  have hb : (∀ s ∈ txL e.b, s.size ≤ 2048) ∧ (txL e.b).length ≤ 16 := by
    by_cases h0 : e.old = 0
    · rw [h.b0 h0]; exact ⟨(fun s hs => by simp [txL, larges] at hs), by simp [txL, larges]⟩
    · exact tx_2048 (h.b h0)
  have ha : (∀ s ∈ txL e.a, s.size ≤ 2048) ∧ (txL e.a).length ≤ 16 := by
    by_cases h0 : e.kind = 6
    · rw [h.a6 h0]; exact ⟨(fun s hs => by simp [txL, larges] at hs), by simp [txL, larges]⟩
    · exact tx_2048 (h.a h0)
  refine ⟨fun s hs => ?_, by rw [List.length_append]; have := hb.2; have := ha.2; omega⟩
  rcases List.mem_append.1 hs with h1 | h1
  · exact hb.1 s h1
  · exact ha.1 s h1
theorem evHead_len {e : Ev} (h : (⟨e.ao, e.av⟩ : Rf).u32) : (evHead e).length ≤ 11 := by
  have h1 := sevens_5 h.o.1 h.o.2
  have h2 := sevens_5 h.v.1 h.v.2
  simp only at h1 h2
  unfold evHead
  split <;> simp only [List.length_append, List.length_cons, List.length_nil] <;> omega
theorem bcell_flat (m : List Int) : (m.map bcell).flatten = bs m := by
  induction m with
  | nil => rfl
  | cons x m ih => rw [List.map_cons, List.flatten_cons, ih]; rfl
theorem app_bytes_at {w : World} {ops : Array Oper} {rest : List Oper} {o : Oper} {a : Act} {Q : Exit → Act → World → Prop} (hgd : o.guard = none) (s x : Operand)
    (ho : o.op = .call { callee := .builtin .append, args := #[s, x], argTypes := #[27, 27] })
    (base : Nat) (v : Value) (l : List Int) (hs : a.eval s = v) (hown : OB w base v l) (u : Value) (m : List Int) (hx : a.eval x = u) (hu : Sl w u 1 (m.map bcell))
    (h63 : l.length + m.length ≤ 1000000000) (hbase : base ≤ w.heap.size)
    (h : ∀ v' w', OB w' base v' (l ++ m) → w.grownBy w' v.ownBlock → (v'.ownBlock = v.ownBlock ∨ v'.ownBlock = some w.heap.size) → wpList Tryz.prog ops Q rest (a.put o.dst v') w') : wpList Tryz.prog ops Q (o :: rest) a w := by
  obtain ⟨i0, hi, hz0, hz1, hz2⟩ := info_parts Tryz.infoU8
  refine wpList_append_sl hgd s x 27 ho base 5 i0 _ 1 1 Tryz.underlying27 hi hz0 hz1 hz2 rfl (by decide) v l.length (bs l) hs hown u (m.map bcell) hx hu ?_ ?_ ?_ ?_ hbase ?_
  · intro ys hys; simp at hys; obtain ⟨_, _, rfl⟩ := hys; rfl
  · rw [bcell_flat]; exact bs_one m
  · rw [List.length_map]; unfold maxLen; omega
  · rw [List.length_map]; omega
  · intro v' w' h1 h2 h3
    rw [List.length_map, bcell_flat] at h1
    exact h v' w' (OB.push h1 rfl) h2 h3
def imsTo (b a : List K) (cols : List Col) (ver : Int) (k : Nat) : List Int := (if 1 ≤ k then imgPay b cols ver else []) ++ (if 2 ≤ k then imgPay a cols ver else [])
theorem OB.blk_ne {w : World} {base X : Nat} {v : Value} {l : List Int} {cs : Array Value} {T : TypeId} (h : OB w base v l) (hb : Blk w X cs T) (ht : T ≠ 5) : v.ownBlock ≠ some X := by
  intro e
  rcases h.2 with ⟨rfl, -⟩ | ⟨g, cap, cur, rfl, -, hh, -⟩
  · cases e
  · simp only [Value.ownBlock, Option.some.injEq] at e
    subst e
    rw [show w.heap[g]? = _ from hb] at hh
    simp only [Option.some.injEq, Obj.cells.injEq] at hh
    exact ht hh.2.1
theorem putRows_any (b a : List K) (ba aa : Option Addr) (bc ac X : Nat) (v0 : Value) (l : List Int) (oid ver : Int) (nm : ByteArray) (id : Int) (cols : List Col) (a2 : Option Addr) (cap2 : Nat) (version : Int) (w0 w : World) (hE : Ext w0 w) (ho : OB w w0.heap.size v0 l)
    (hX : Blk w X #[.slice ba b.length bc, .slice aa a.length ac] 97) (hb : Sl w0 (.slice ba b.length bc) 5 (b.map K.pc)) (ha : Sl w0 (.slice aa a.length ac) 5 (a.map K.pc)) (hl2 : Sl w0 (.slice a2 cols.length cap2) 3 (cols.map Col.cells))
    (hcap2 : cols.length ≤ cap2) (hlen2 : cols.length ≤ 1000) (hs2 : ∀ c ∈ cols, c.nm.size ≤ 9223372036854775807) (hnm : nm.size ≤ 9223372036854775807) (hfb : b = [] ∨ fitsE b (⟨oid, ver, nm, id, cols⟩ : Rl) = 0) (hfa : a = [] ∨ fitsE a (⟨oid, ver, nm, id, cols⟩ : Rl) = 0) (hv : version = 1 ∨ version = 2) (hsb : ∀ c ∈ b, c.tw) (hsa : ∀ c ∈ a, c.tw) (hnb : b.length ≤ 1000) (hna : a.length ≤ 1000) (hll : l.length ≤ 1000) :
    Calls Tryz.prog 119 #[v0, .agg #[.int .u32 oid, .int .u32 ver, .string nm, .int .u8 id, .slice a2 cols.length cap2], .int .u8 version, .slice (some ⟨X, 0, none⟩) 2 2] w fun e w' => ∃ v', e = .returned v' ∧ OB w' w0.heap.size v' (l ++ (imgPay b cols version ++ imgPay a cols version)) ∧ Kp (fun k => v0.ownBlock = some k) w w' := by
  have HXN := Hm (ho.blk_ne hX (by decide))
  have HOL := Hm (fun x (h : v0.ownBlock = some x) => ho.lt x h)
  have HE1 : Hid (Ext w0 (w.alloc (.cells #[.int .u32 oid, .int .u32 ver, .string nm, .int .u8 id, .slice a2 cols.length cap2] 174))) := Hm (hE.alloc _)
  have HO : Hid (OB (w.alloc (.cells #[.int .u32 oid, .int .u32 ver, .string nm, .int .u8 id, .slice a2 cols.length cap2] 174)) w0.heap.size v0 l) := Hm (ho.ext ((Ext.refl w).alloc _))
  have HX1 : Hid (Blk (w.alloc (.cells #[.int .u32 oid, .int .u32 ver, .string nm, .int .u8 id, .slice a2 cols.length cap2] 174)) X #[.slice ba b.length bc, .slice aa a.length ac] 97) := Hm (hX.alloc _)
  have HXL := Hm hX.lt
  have HEB := Hm (fun W (h : Ext w0 W) => encode_any b ba bc oid ver nm id cols a2 cap2 version W (hb.ext h) (hl2.ext h) hcap2 hnb hlen2 hsb hs2 hnm)
  have HEA := Hm (fun W (h : Ext w0 W) => encode_any a aa ac oid ver nm id cols a2 cap2 version W (ha.ext h) (hl2.ext h) hcap2 hna hlen2 hsa hs2 hnm)
  have HPB : Hid (b ≠ [] → encE b (⟨oid, ver, nm, id, cols⟩ : Rl) version = 0 ∧ imgPay b cols version = rowPut b cols version ∧ (imgPay b cols version).length ≤ 1154) := Hm (fun h0 => by
    have hf := hfb.resolve_left h0
    have e : imgPay b cols version = rowPut b cols version := if_neg h0
    exact ⟨by unfold encE; rw [if_pos hv]; exact hf, e, by rw [e]; exact rowPut_short hf hv hsb⟩)
  have HPA : Hid (a ≠ [] → encE a (⟨oid, ver, nm, id, cols⟩ : Rl) version = 0 ∧ imgPay a cols version = rowPut a cols version ∧ (imgPay a cols version).length ≤ 1154) := Hm (fun h0 => by
    have hf := hfa.resolve_left h0
    have e : imgPay a cols version = rowPut a cols version := if_neg h0
    exact ⟨by unfold encE; rw [if_pos hv]; exact hf, e, by rw [e]; exact rowPut_short hf hv hsa⟩)
  have HLB : Hid ((imgPay b cols version).length ≤ 1154) := Hm (by
    by_cases h0 : b = []
    · rw [h0, imgPay_nil]; exact Nat.zero_le _
    · exact (HPB.out h0).2.2)
  have HI1 : Hid (imsTo b a cols version 1 = imgPay b cols version) := Hm (by unfold imsTo; simp)
  have HI2 : Hid (imsTo b a cols version 2 = imgPay b cols version ++ imgPay a cols version) := Hm (by unfold imsTo; simp)
  have HBX : Hid (Blk (w.alloc (.cells #[.int .u32 oid, .int .u32 ver, .string nm, .int .u8 id, .slice a2 cols.length cap2] 174)) w.heap.size #[.int .u32 oid, .int .u32 ver, .string nm, .int .u8 id, .slice a2 cols.length cap2] 174) := Hm (Blk.new _ _ _)
  obtain ⟨W1, hW1⟩ : ∃ W1, W1 = (w.alloc (.cells #[.int .u32 oid, .int .u32 ver, .string nm, .int .u8 id, .slice a2 cols.length cap2] 174)) := ⟨_, rfl⟩
  have HZ1 : Hid (W1.heap.size = w.heap.size + 1) := Hm (by rw [hW1]; simp)
  have HKW : Hid (Ext w W1) := Hm (by rw [hW1]; exact (Ext.refl w).alloc _)
  clear hE ho hX hb ha hl2 hcap2 hs2 hnm hfb hfa hsb hsa
  go_enter Tryz.func119, Tryz.ntmps119
  go_wp2
  rw [← hW1] at HE1 HO HX1 HBX ⊢
  clear hW1
  go_loopg [0, 15] 2 (fun z v i wr => ∃ k : Nat, z + k = 2 ∧ i = .int .i64 k ∧ Hid (OB wr w0.heap.size v (l ++ imsTo b a cols version k)) ∧ Hid (∀ x, v.ownBlock = some x → v0.ownBlock = some x ∨ W1.heap.size ≤ x) ∧ Hid (Kp (fun x => v0.ownBlock = some x) W1 wr))
  case atStart => exact ⟨0, rfl, rfl, Hm (by simpa [imsTo] using HO.out), Hm (fun x h => .inl h), Hm Kp.refl⟩
  case round =>
    obtain ⟨k, hzk, rfl, hO, hN, hK⟩ := hrel
    have HEr : Hid (Ext w0 wr) := Hm (Kp.ext HE1.out (fun x hx _ => (HOL.out x hx).1) hK.out)
    have HBr : Hid (Blk wr w.heap.size #[.int .u32 oid, .int .u32 ver, .string nm, .int .u8 id, .slice a2 cols.length cap2] 174) := Hm (HBX.out.kp hK.out (fun h => by have := (HOL.out _ h).2; omega))
    have HXr : Hid (Blk wr X #[.slice ba b.length bc, .slice aa a.length ac] 97) := Hm (HX1.out.kp hK.out (fun h => HXN.out h))
    have gx := HXr.out.cell
    have zx := HXr.out.lt
    have gb := HBr.out.cell
    have zb := HBr.out.lt
    match k, hzk with
    | 0, hzk =>
      cases b with
      | nil =>
        go_wp2
        go_roundg 1
        case measure => omega
        case rel => exact ⟨1, rfl, by go_num, Hm (by rw [HI1.out, imgPay_nil]; simpa [imsTo] using hO.out), hN, hK⟩
      | cons c b =>
        obtain ⟨h1, h2, h3⟩ := HPB.out (by simp)
        have HE0 := Hm h1
        have HR := Hm h2
        have hlt : (0 : Int) < (((c :: b).length : Nat) : Int) := by simp only [List.length_cons]; omega
        obtain ⟨bl, hbl⟩ : ∃ n, n = (c :: b).length := ⟨_, rfl⟩
        rw [← hbl] at gx hlt HEB HXr
        clear h1 h2 hbl
        go_wp2_with (first
          | (go_at_call 194; refine (HEB.out _ HEr.out).mono ?_; rintro e w2 ⟨v2, rfl, h2, -, hb2⟩; have HO2 := Hm (h2 HE0.out); have HB2 := Hm hb2; clear h2 hb2 gx gb zx zb)
          | (at_builtin; refine app_bytes_at rfl _ _ rfl w0.heap.size _ _ rfl (hO.out.ext HB2.out) v2 (rowPut (c :: b) cols version) rfl HO2.out.sl ?c1 ?c2 ?_))
        case c1 => rw [← HR.out, List.length_append]; have := HLB.out; simp [imsTo]; omega
        case c2 => have := HEr.out.size; have := HB2.out.size; omega
        intro v3 w3 ho3 hg3 hat3
        have HO3 : Hid (OB w3 w0.heap.size v3 (l ++ imsTo (c :: b) a cols version 1)) := Hm (by rw [HI1.out, HR.out]; simpa [imsTo] using ho3)
        have HN3 : Hid (∀ x, v3.ownBlock = some x → v0.ownBlock = some x ∨ W1.heap.size ≤ x) := Hm (fun x hx => by
          rcases hat3 with h | h
          · exact hN.out x (by rw [← h]; exact hx)
          · rw [h] at hx; injection hx with hx
            have := hK.out.size; have := HB2.out.size; right; omega)
        have HK3 : Hid (Kp (fun x => v0.ownBlock = some x) W1 w3) := Hm ((hK.out.trans (Kp.of_ext (S := fun _ => False) HB2.out) (fun x h _ => h.elim)).trans (Kp.of_grown hg3) (fun x h hx => (hN.out x h).resolve_right (by omega)))
        obtain ⟨a3, c3, rfl⟩ := HO3.out.shape
        clear ho3 hg3 hat3
        go_wp2
        go_roundg 1
        case measure => omega
        case rel => exact ⟨1, rfl, by go_num, HO3, HN3, HK3⟩
    | 1, hzk =>
      cases a with
      | nil =>
        go_wp2
        go_roundg 0
        case measure => omega
        case rel => exact ⟨2, rfl, by go_num, Hm (by rw [HI2.out, imgPay_nil, List.append_nil]; rw [HI1.out] at hO; exact hO.out), hN, hK⟩
      | cons c a =>
        obtain ⟨h1, h2, h3⟩ := HPA.out (by simp)
        have HE0 := Hm h1
        have HR := Hm h2
        have HR3 := Hm h3
        have hlt : (0 : Int) < (((c :: a).length : Nat) : Int) := by simp only [List.length_cons]; omega
        obtain ⟨al, hal⟩ : ∃ n, n = (c :: a).length := ⟨_, rfl⟩
        rw [← hal] at gx hlt HEA HXr
        clear h1 h2 h3 hal
        rw [HI1.out] at hO
        go_wp2_with (first
          | (go_at_call 194; refine (HEA.out _ HEr.out).mono ?_; rintro e w2 ⟨v2, rfl, h2, -, hb2⟩; have HO2 := Hm (h2 HE0.out); have HB2 := Hm hb2; clear h2 hb2 gx gb zx zb)
          | (at_builtin; refine app_bytes_at rfl _ _ rfl w0.heap.size _ _ rfl (hO.out.ext HB2.out) v2 (rowPut (c :: a) cols version) rfl HO2.out.sl ?c1 ?c2 ?_))
        case c1 => rw [← HR.out, List.length_append]; have := HLB.out; have := HR3.out; omega
        case c2 => have := HEr.out.size; have := HB2.out.size; omega
        intro v3 w3 ho3 hg3 hat3
        have HO3 : Hid (OB w3 w0.heap.size v3 (l ++ imsTo b (c :: a) cols version 2)) := Hm (by rw [HI2.out, HR.out]; first | exact ho3 | (rw [← List.append_assoc]; exact ho3))
        have HN3 : Hid (∀ x, v3.ownBlock = some x → v0.ownBlock = some x ∨ W1.heap.size ≤ x) := Hm (fun x hx => by
          rcases hat3 with h | h
          · exact hN.out x (by rw [← h]; exact hx)
          · rw [h] at hx; injection hx with hx
            have := hK.out.size; have := HB2.out.size; right; omega)
        have HK3 : Hid (Kp (fun x => v0.ownBlock = some x) W1 w3) := Hm ((hK.out.trans (Kp.of_ext (S := fun _ => False) HB2.out) (fun x h _ => h.elim)).trans (Kp.of_grown hg3) (fun x h hx => (hN.out x h).resolve_right (by omega)))
        obtain ⟨a3, c3, rfl⟩ := HO3.out.shape
        clear ho3 hg3 hat3
        go_wp2
        go_roundg 0
        case measure => omega
        case rel => exact ⟨2, rfl, by go_num, HO3, HN3, HK3⟩
    | 2, hzk =>
      obtain ⟨a3, c3, rfl⟩ := hO.out.shape
      rw [HI2.out] at hO
      go_wp2
      go_ret
      exact ⟨_, rfl, hO.out, (Kp.of_ext (S := fun x => v0.ownBlock = some x) HKW.out).trans hK.out (fun x h _ => h)⟩
    | k + 3, hzk => omega
open Go.RowKit Go.Shelf
attribute [local go_sem] Oper.semAt_some
def nPc (s : ByteArray) : Nat := (s.size + 255) / 256
def frontUp (n : Nat) : Nat → List (IX n)
  | 0 => []
  | k + 1 => if h : k < n then frontUp n k ++ [⟨k, h⟩] else frontUp n k
theorem frontUp_succ {n k : Nat} (h : k < n) : frontUp n (k + 1) = frontUp n k ++ [⟨k, h⟩] := by
  conv => lhs; unfold frontUp
  rw [dif_pos h]
theorem frontUp_len {n : Nat} : ∀ k, (frontUp n k).length ≤ k
  | 0 => Nat.le_refl _
  | k + 1 => by
    have := frontUp_len (n := n) k
    unfold frontUp
    split
    · rw [List.length_append, List.length_singleton]; omega
    · omega
theorem frontUp_is {n : Nat} : ∀ k, k ≤ n → (frontUp n k).length = k
  | 0, _ => rfl
  | k + 1, h => by rw [frontUp_succ (by omega), List.length_append, frontUp_is k (by omega), List.length_singleton]
theorem frontUp_full (n : Nat) : (frontUp n n).length = n := frontUp_is n (Nat.le_refl _)
def pc (s : ByteArray) (i : Nat) : ByteArray := s.extract (256 * i) (min (256 * i + 256) s.size)
def encC (s : ByteArray) (x : IX (nPc s)) : Array Value := #[.int .i64 ((256 * x.1 : Nat) : Int), .string (pc s x.1)]
theorem walkAt_in (F : Fence) (n : Nat) (hF : F.fn 195) (hro : F.round = none) (s : ByteArray) (w : World) :
    CallsIn F n Tryz.prog 195 #[.string s] w fun e w' => e = .returned (.func (.func 253) #[] #[.pointer (some ⟨w.heap.size, 0, none⟩)]) ∧ w' = w.alloc (.cells #[.string s] 9) := by
  refine callsIn_of_wp Tryz.func195 rfl hF ?_ hro
  simp only [Tryz.ntmps195, List.size_toArray, List.length_cons, List.length_nil, Nat.reduceAdd, Nat.reduceSub, Array.replicate_succ, Array.replicate_zero, List.push_toArray, List.append_toArray, List.nil_append, List.cons_append]
  gi_wp2
  go_ret
  exact ⟨rfl, rfl⟩
end Go.Proofs.YtjnafppkbhldlaaGreat
namespace Go.Proofs.YtjnafppkbhldlaaGreat
open Go.RowKit
theorem frontUp_map {α : Type} (n : Nat) (f : Nat → α) : ∀ k, k ≤ n → (frontUp n k).map (fun x => f x.1) = (List.range k).map f
  | 0, _ => rfl
  | k + 1, h => by
    rw [frontUp_succ (by omega), List.map_append, frontUp_map n f k (by omega), List.range_succ, List.map_append]
    rfl
theorem pcs_from (s : ByteArray) : ∀ d k, nPc s = k + d → pcs (s.extract (256 * k) s.size) = (List.range d).map (fun j => pc s (k + j))
  | 0, k, h => by
    have hn : nPc s = (s.size + 255) / 256 := rfl
    rw [pcs_nil (by rw [ByteArray.size_extract]; omega)]
    rfl
  | d + 1, k, h => by
    have hn : nPc s = (s.size + 255) / 256 := rfl
    have hlt : 256 * k < s.size := by omega
    have hsz : (s.extract (256 * k) s.size).size = s.size - 256 * k := by rw [ByteArray.size_extract]; omega
    have ih := pcs_from s d (k + 1) (by omega)
    rw [List.range_succ_eq_map, List.map_cons, List.map_map]
    by_cases h256 : 256 < (s.extract (256 * k) s.size).size
    · rw [pcs_big h256, ByteArray.extract_extract, ByteArray.extract_extract]
      have e1 : s.extract (256 * k + 0) (min (256 * k + 256) s.size) = pc s (k + 0) := by unfold pc; simp only [Nat.add_zero]
      have e2 : s.extract (256 * k + 256) (min (256 * k + (s.extract (256 * k) s.size).size) s.size) = s.extract (256 * (k + 1)) s.size := by
        rw [hsz, show 256 * k + 256 = 256 * (k + 1) by omega, show min (256 * k + (s.size - 256 * k)) s.size = s.size by omega]
      rw [e1, e2, ih]
      have e3 : (List.range d).map (fun j => pc s (k + 1 + j)) = (List.range d).map ((fun j => pc s (k + j)) ∘ Nat.succ) := List.map_congr_left (fun j _ => by
        rw [show k + 1 + j = k + (j + 1) by omega]; rfl)
      rw [e3]
    · rw [pcs_one h256 (by rw [hsz]; omega)]
      have hd : d = 0 := by rw [hsz] at h256; omega
      subst hd
      have e1 : s.extract (256 * k) s.size = pc s (k + 0) := by
        unfold pc
        rw [Nat.add_zero, show min (256 * k + 256) s.size = s.size by rw [hsz] at h256; omega]
      rw [e1]; rfl
theorem pcs_front (s : ByteArray) : (frontUp (nPc s) (nPc s)).map (fun x => pc s x.1) = pcs s := by
  rw [frontUp_map _ _ _ (Nat.le_refl _)]
  have h := pcs_from s (nPc s) 0 (by omega)
  rw [Nat.mul_zero, ByteArray.extract_zero_size] at h
  rw [h]
  refine List.map_congr_left (fun j _ => ?_)
  rw [Nat.zero_add]
open Go.RowKit Go.Shelf
section
variable {P : Program} {F : Fence} {n : Nat}
def coll (D : Nat) : Deferred := { target := .collected D, args := #[] }
def shut (Ds : List Nat) (w : World) : World := Ds.foldl (fun w D => w.putObj D (.deferred none)) w
theorem shut_cons (D : Nat) (Ds : List Nat) (w : World) : shut (D :: Ds) w = shut Ds (w.putObj D (.deferred none)) := rfl
theorem leaves_coll {fn : Func} {tmps : Array Value} {R : Ending → World → Prop} : ∀ (Ds : List Nat) (w : World), Ds.Nodup → (∀ D ∈ Ds, w.heap[D]? = some (.deferred (some []))) → LeavesIn F n P fn tmps R [] .returning (shut Ds w) → LeavesInM F n P fn tmps R (Ds.map coll) .returning w
  | [], _, _, _, h => h
  | D :: Ds, w, hn, hd, h => by
    rw [List.nodup_cons] at hn
    refine ⟨by simp, .inl ⟨D, _, rfl, run_takeDeferred (hd D (by simp)), leaves_coll Ds _ hn.2 (fun D' h' => ?_) h⟩⟩
    have hne : D' ≠ D := fun e => hn.1 (e ▸ h')
    rw [World.putObj_heap_other hne]
    exact hd D' (List.mem_cons_of_mem _ h')
theorem shut_other {k : Nat} : ∀ (Ds : List Nat) (w : World), k ∉ Ds → (shut Ds w).heap[k]? = w.heap[k]?
  | [], _, _ => rfl
  | D :: Ds, w, h => by
    have hne : k ≠ D := fun e => h (by rw [e]; exact List.mem_cons_self)
    rw [shut_cons, shut_other Ds _ (fun q => h (List.mem_cons_of_mem _ q)), World.putObj_heap_other hne]
theorem shut_ext {w : World} : ∀ (Ds : List Nat) (wr : World), Ext w wr → (∀ D ∈ Ds, w.heap.size ≤ D) → Ext w (shut Ds wr)
  | [], _, he, _ => he
  | D :: Ds, wr, he, h => by
    rw [shut_cons]
    refine shut_ext Ds _ ⟨he.os, he.tape, he.output, by rw [World.putObj_size]; exact he.size, fun k hk => ?_⟩ (fun D' h' => h D' (List.mem_cons_of_mem _ h'))
    have := h D (by simp)
    rw [World.putObj_heap_other (by omega)]
    exact he.block k hk
end
end Go.Proofs.YtjnafppkbhldlaaGreat
namespace Go.Proofs.YtjnafppkbhldlaaGreat
open Go.RowKit Go.Shelf
attribute [local go_sem] Oper.semAt_some
theorem walk1K_in (F : Fence) (n : Nat) (hF : F.fn 253) (hro : F.round = none) (hn : 1 ≤ n) (l Bs : Nat) (_w0 : World) (KP : World → World → Prop) (s : ByteArray) (hKP : ∀ A B, KP A B → A.cell? ⟨Bs, 0, none⟩ = some (.string s) ∧ Bs < A.heap.size → B.cell? ⟨Bs, 0, none⟩ = some (.string s) ∧ Bs < B.heap.size)  (hsz : s.size ≤ 1000000000)
    (J Jx : List (IX (nPc s)) → World → Prop) (W0 : World)
    (hY : Hid (∀ pre x W, J pre W → pre.length < nPc s → YieldAt F (n - 1) Tryz.prog l (encC s x) W fun e W' => (e = .returned (.bool true) ∧ J (pre ++ [x]) W' ∧ KP W W') ∨ (e = .returned (.bool false) ∧ Jx (pre ++ [x]) W')))
    (hBs : W0.cell? ⟨Bs, 0, none⟩ = some (.string s) ∧ Bs < W0.heap.size) (h0 : Hid (J [] W0)) :
    CallsIn F n Tryz.prog 253 #[.func (.yield l) #[] #[], .pointer (some ⟨Bs, 0, none⟩)] W0 fun e W' => (∃ v, e = .returned v) ∧
      ((∃ ys, ys = frontUp (nPc s) (nPc s) ∧ J ys W') ∨ (∃ pre, (∃ k, k ≤ nPc s ∧ pre = frontUp (nPc s) k) ∧ Jx pre W')) := by
  have hN : nPc s = (s.size + 255) / 256 := rfl
  have HNP := Hm hN
  refine callsIn_of_wp Tryz.func253 rfl hF ?_ hro
  simp only [Tryz.ntmps253, List.size_toArray, List.length_cons, List.length_nil, Nat.reduceAdd, Nat.reduceSub, Array.replicate_succ, Array.replicate_zero, List.push_toArray, List.append_toArray, List.nil_append, List.cons_append]
  gi_wp2
  gi_loopw [3] (fun i wr => ∃ k : Nat, k ≤ nPc s ∧ i = .int .i64 ((256 * k : Nat) : Int) ∧ Hid (J (frontUp (nPc s) k) wr) ∧ Hid (wr.cell? ⟨Bs, 0, none⟩ = some (.string s) ∧ Bs < wr.heap.size)) (fun i _ => (256 * nPc s - (intOf i)).toNat)
  case atStart => exact ⟨0, Nat.zero_le _, by go_num, h0, Hm hBs⟩
  case round =>
    obtain ⟨k, hk, rfl, hJs, hEw⟩ := hrel
    have g00 := hEw.out.1
    have gz0 := hEw.out.2
    have hs63 : (s.size : Int) ≤ 1000000000 := by omega
    by_cases hlt : k < nPc s
    · have hls : 256 * k < s.size := by omega
      obtain ⟨m, hm⟩ : ∃ m : Nat, m = 256 * k := ⟨_, rfl⟩
      have hls' : (m : Int) < (s.size : Int) := by omega
      have HM := Hm hm
      have HPC : Hid (pc s k = s.extract m (min (m + 256) s.size)) := Hm (by unfold pc; rw [hm])
      have HU := Hm (frontUp_succ hlt)
      obtain ⟨fn, tmps, assign, body, hy, hR⟩ := hY.out (frontUp (nPc s) k) ⟨k, hlt⟩ wr hJs.out (by have := frontUp_len (n := nPc s) k; omega)
      simp only [encC] at hy
      rw [HPC.out, ← hm] at hy
      rw [← hm]
      clear hm hls
      have hmin : (min ((m : Int) + 256) (s.size : Int)).toNat = min (m + 256) s.size := by omega
      gi_wp2
      refine hR.mono ?_
      rintro e W3 (⟨rfl, hJ3, hk3⟩ | ⟨rfl, hJx3⟩)
      · gi_wp2
        go_roundw
        case rel => exact ⟨k + 1, by omega, by (have := HM.out); first | go_num | (congr 1; omega), Hm (by rw [HU.out]; exact hJ3), Hm (hKP _ _ hk3 hEw.out)⟩
        case measure => have := HM.out; have := HNP.out; simp [intOf]; try omega
      · gi_wp2
        refine bodyPost_ret (results_none rfl _ _ _) rfl ?_
        exact ⟨⟨_, rfl⟩, .inr ⟨_, ⟨k + 1, by omega, HU.out.symm⟩, hJx3⟩⟩
    · obtain rfl : k = nPc s := by omega
      have hge : decide (((256 * nPc s : Nat) : Int) < (s.size : Int)) = false := decide_eq_false (by omega)
      gi_wp2
      go_end0
      exact ⟨⟨_, rfl⟩, .inl ⟨_, rfl, hJs.out⟩⟩
theorem walkK_stops (F : Fence) (n : Nat) (hF : F.fn 253) (hro : F.round = none) (hn : 1 ≤ n) (Bs : Nat) (w0 : World) (s : ByteArray) (hsz : s.size ≤ 1000000000) (KP : World → World → Prop) (hKP : ∀ A B, KP A B → A.cell? ⟨Bs, 0, none⟩ = some (.string s) ∧ Bs < A.heap.size → B.cell? ⟨Bs, 0, none⟩ = some (.string s) ∧ Bs < B.heap.size) (hBs : w0.cell? ⟨Bs, 0, none⟩ = some (.string s)) (hBz : Bs < w0.heap.size) :
    SeqStopsK F n Tryz.prog 253 #[.pointer (some ⟨Bs, 0, none⟩)] (encC s) KP (fun ys => ys = frontUp (nPc s) (nPc s)) (fun pre => ∃ k, k ≤ nPc s ∧ pre = frontUp (nPc s) k) (nPc s) w0 := fun l J Jx W hW _ _ hY h0 => by
  have hc : W.cell? ⟨Bs, 0, none⟩ = some (.string s) ∧ Bs < W.heap.size := ⟨(hW.cell (p := ⟨Bs, 0, none⟩) hBz).trans hBs, Nat.lt_of_lt_of_le hBz hW.size⟩
  first
    | exact walk1K_in F n hF hro hn l Bs w0 KP s hKP hsz J Jx W hY hc h0
    | exact walk1K_in F n hF hro hn l Bs w0 s KP hKP hsz J Jx W hY hc h0
end Go.Proofs.YtjnafppkbhldlaaGreat
namespace Go.Proofs.YtjnafppkbhldlaaGreat
open Go.RowKit Go.Shelf
attribute [local go_sem] Oper.semAt_some
theorem wpListIn_append_at {F : Fence} {n : Nat} {P : Program} (w : World) {ops : Array Oper} {rest : List Oper} {o : Oper} {a : Act} {Q : Exit → Act → World → Prop}
    (hg : o.guard = none) (s x : Operand) (t : TypeId) (hop : o.op = Op.call { callee := Callee.builtin Builtin.append, args := #[s, x], argTypes := #[t, t] })
    (base : Nat) (e : TypeId) (i : TypeInfo) (z : Value) (size bytes : Nat) (h1 : P.underlying t = some (.slice e)) (h2 : P.info? e = some i) (h3 : i.zero = some z) (h4 : i.size = size) (h5 : i.bytes = bytes) (h6 : z.cells.size = size) (h7 : 0 < size)
    (v : Value) (k : Nat) (xs : List Value) (hs : a.eval s = v) (hown : w.ownsRow base e size v k xs) (ad : Addr) (m c : Nat) (news : List Value) (hx : a.eval x = .slice (some ad) m c) (hn : news.length = m * size)
    (hc : ∀ j u, news[j]? = some u → w.cell? (ad.add j) = some u) (h1c : ∀ u ∈ news, u.oneCell' = true) (b1 : k + m ≤ maxLen) (b2 : (k + m) * bytes ≤ 140737488355328) (b3 : base ≤ w.heap.size)
    (hK : ∀ v' w', w'.ownsRow base e size v' (k + m) (xs ++ news) → w.grownBy w' v.ownBlock → (v'.ownBlock = v.ownBlock ∨ v'.ownBlock = some w.heap.size) → wpListIn F n P ops Q rest (a.put o.dst v') w') :
    wpListIn F n P ops Q (o :: rest) a w := by
  refine wpListIn_plain hg fun K hK' => ?_
  obtain ⟨v', w', hrun, r1, r2, _, r3⟩ := run_append_own_at (P := P) w base t o.type e i z size bytes h1 h2 h3 h4 h5 h6 h7 v k xs hown ad m c news hn hc h1c b1 b2 b3
  unfold Oper.wpIn
  refine ⟨?_, ?_⟩
  · simp [Oper.about, hop, resolve, Target.leads, Sem.run_pure]
  · rw [Oper.semAt_plain F _ _ (by rw [hop]; intro c hc'; cases hc')]
    simp [execOp, hop, resolve, invoke, builtin, hs, hx, hrun, Result.andThen]
    exact hK' _ _ (hK v' w' r1 r2 r3)
def KBox (B Bs : Nat) (s : ByteArray) (A C : World) : Prop := (A.cell? ⟨Bs, 0, none⟩ = some (.string s) ∧ Bs < A.heap.size → C.cell? ⟨Bs, 0, none⟩ = some (.string s) ∧ Bs < C.heap.size) ∧ Below B A C
theorem KBox.trans {B Bs : Nat} {s : ByteArray} {X Y Z : World} (h : KBox B Bs s X Y) (h2 : KBox B Bs s Y Z) : KBox B Bs s X Z := ⟨fun q => h2.1 (h.1 q), h.2.trans h2.2⟩
theorem shut_flat : ∀ (Ds : List Nat) (wr : World), (shut Ds wr).os = wr.os ∧ (shut Ds wr).tape = wr.tape ∧ (shut Ds wr).output = wr.output ∧ (shut Ds wr).heap.size = wr.heap.size
  | [], _ => ⟨rfl, rfl, rfl, rfl⟩
  | D :: Ds, wr => by
    have h := shut_flat Ds (wr.putObj D (.deferred none))
    exact ⟨h.1, h.2.1, h.2.2.1, h.2.2.2.trans World.putObj_size⟩
theorem shut_kp (Ds : List Nat) (wr : World) : Kp (fun b => b ∈ Ds) wr (shut Ds wr) :=
  ⟨(shut_flat Ds wr).1, (shut_flat Ds wr).2.1, (shut_flat Ds wr).2.2.1, Nat.le_of_eq (shut_flat Ds wr).2.2.2.symm, fun _ _ h => shut_other Ds wr h⟩
theorem owns_caps {w : World} {base n size c : Nat} {e : TypeId} {a : Option Addr} {xs : List Value} (h : w.ownsRow base e size (.slice a n c) n xs) : n ≤ c ∧ c ≤ maxLen := by
  rcases h.2 with ⟨hv, hn⟩ | ⟨g, cap, cur, hv, -, -, hn, hm, -⟩
  · simp only [Value.slice.injEq] at hv; omega
  · simp only [Value.slice.injEq] at hv; omega
theorem split_in (F : Fence) (n : Nat) (hFe : F = Fence.wide) (h1F : F.fn 253) (hKF : F.fn 195) (hDF : F.fn 120) (hro : F.round = none) (hn : 4 ≤ n) (xs : List ByteArray) (a : Option Addr) (ca : Nat) (w : World) (hl : Sl w (.slice a xs.length ca) 1 (xs.map strC)) (hlen : xs.length ≤ 1000000) (hs : ∀ s ∈ xs, s.size ≤ 1000000000) (hsn : (splitL xs).length ≤ 1000000) :
    CallsIn F n Tryz.prog 120 #[.slice a xs.length ca] w fun e w' => ∃ a' c', e = .returned (.slice a' (splitL xs).length c') ∧ Sl w' (.slice a' (splitL xs).length c') 1 ((splitL xs).map strC) ∧ Ext w w' ∧ ((splitL xs).length ≤ c' ∧ c' ≤ maxLen) := by
  have HL := Hm hl
  have HS := Hm hs
  have HFE := Hm hFe
  have h1 : 1 ≤ n := by omega
  clear hl hs hFe
  refine callsIn_of_wp_marks Tryz.func120 rfl hDF ?_ hro
  simp only [Tryz.ntmps120, List.size_toArray, List.length_cons, List.length_nil, Nat.reduceAdd, Nat.reduceSub, Array.replicate_succ, Array.replicate_zero, List.push_toArray, List.append_toArray, List.nil_append, List.cons_append]
  gi_wp2
  refine wpIn_loop_ghost (fun z A wr => ∃ (k : Nat) (Ds : List Nat) (va : Option Addr) (vc : Nat) (u4 u5 u6 u7 u11 u12 u13 u14 u15 u16 u17 u18 u19 u20 u21 u22 u23 : Value), z + k = xs.length ∧ A = { tmps := #[.slice a xs.length ca, undef, .slice none 0 0, .pointer (some ⟨w.heap.size, 0, none⟩), u4, u5, u6, u7, .slice a xs.length ca, .int .i64 xs.length, .int .i64 k, u11, u12, u13, u14, u15, u16, u17, u18, u19, u20, u21, u22, u23], defers := Ds.map coll } ∧
    Hid (Ds.Nodup ∧ ∀ D ∈ Ds, w.heap.size < D ∧ D < wr.heap.size ∧ wr.heap[D]? = some (.deferred (some []))) ∧ Hid (Blk wr w.heap.size #[.slice va (splitL (xs.take k)).length vc] 115) ∧ Hid (wr.ownsRow (w.heap.size + 1) 9 1 (.slice va (splitL (xs.take k)).length vc) (splitL (xs.take k)).length ((splitL (xs.take k)).map strC).flatten) ∧ Hid (Ext w wr)) xs.length ?start ?round
  case start =>
    exact ⟨0, [], none, 0, _, _, _, _, _, _, _, _, _, _, _, _, _, _, _, _, _, by omega, rfl, Hm ⟨List.nodup_nil, fun D h => by cases h⟩, Hm (Blk.new _ _ _), Hm (World.ownsRow_nil _ _ _ _), Hm (by exact eX)⟩
  case round =>
    rintro z A wr ⟨k, Ds, va, vc, u4, u5, u6, u7, u11, u12, u13, u14, u15, u16, u17, u18, u19, u20, u21, u22, u23, hzk, rfl, hD, hB, hO, hE⟩
    by_cases hlt : k < xs.length
    · obtain ⟨b1, o1, rfl, hb1, hx1⟩ := HL.out.at_ (i := k) (by simpa using hlt)
      have f0 := str_at hlt hx1 hb1 hE.out
      have hbw : b1 < wr.heap.size := Nat.lt_of_lt_of_le hb1 hE.out.size
      have HSX := Hm (HS.out _ (List.getElem_mem hlt))
      have HTK := Hm (splitL_take hlt)
      obtain ⟨s, hss⟩ : ∃ s, s = xs[k] := ⟨_, rfl⟩
      rw [← hss] at f0 HSX HTK
      have HLT := Hm hlt
      have hd1 : decide (xs.length ≤ k) = false := decide_eq_false (by omega)
      clear hss hx1
      gi_wp2_with (gi_at_call 195; refine (walkAt_in F (n - 1) hKF hro _ _).mono ?_; rintro e w' ⟨rfl, rfl⟩)
      have hwz : w.heap.size < wr.heap.size := hB.out.lt
      obtain ⟨W4, hW4⟩ : ∃ W4, W4 = wr.alloc (.cells #[.string s] 9) := ⟨_, rfl⟩
      have hB4 : Blk W4 wr.heap.size #[.string s] 9 := by rw [hW4]; exact Blk.new _ _ _
      have hE4 : Ext wr W4 := by rw [hW4]; exact (Ext.refl wr).alloc _
      have hZ4 : W4.heap.size = wr.heap.size + 1 := by rw [hW4]; simp
      rw [← hW4]
      clear hW4
      obtain ⟨TL, hTL⟩ : ∃ T, T = splitL (xs.take k) := ⟨_, rfl⟩
      rw [← hTL] at hB hO HTK
      have hbnd : ∀ pre : List (IX (nPc s)), pre.length < nPc s → (TL ++ pre.map (fun x => pc s x.1)).length ≤ 1000000 := fun pre hp => by
        have h1 := splitL_le xs (k + 1)
        rw [HTK.out, List.length_append] at h1
        have h2 : (pcs s).length = nPc s := by rw [← pcs_front, List.length_map]; exact frontUp_full _
        rw [List.length_append, List.length_map]; omega
      have HBN := Hm hbnd
      clear hTL hbnd
      obtain ⟨i0, hi, hz0, hz1, hz2⟩ := info_parts Tryz.infoStrS
      refine wpIn_rangeFunc_ownH hro h1 (gf := 253) (lb := #[.pointer (some ⟨wr.heap.size, 0, none⟩)]) rfl h1F (enters_of Tryz.func253 (by kernel_rfl) rfl)
        (walkK_stops F (n - 1) h1F hro (by omega) wr.heap.size W4 s HSX.out (KBox w.heap.size wr.heap.size s) (fun A B h q => h.1 q) (hB4.cell 0) hB4.lt) KBox.trans ?kb (Below.refl _ _) (fun _ => rfl)
        (fun pre W => (∃ va vc, Blk W w.heap.size #[.slice va (TL ++ pre.map (fun x => pc s x.1)).length vc] 115 ∧ Hid (W.ownsRow (w.heap.size + 1) 9 1 (.slice va (TL ++ pre.map (fun x => pc s x.1)).length vc) (TL ++ pre.map (fun x => pc s x.1)).length ((TL ++ pre.map (fun x => pc s x.1)).map strC).flatten ∧ ∀ b, (Value.slice va (TL ++ pre.map (fun x => pc s x.1)).length vc).ownBlock = some b → b ≠ wr.heap.size)) ∧ Hid ((∀ D ∈ Ds, W.heap[D]? = some (.deferred (some []))) ∧ Below w.heap.size w W ∧ W4.heap.size ≤ W.heap.size))
        (fun _ _ _ => False) ?hI (fun c s A B row hs _ _ => hs.elim) ?h0
        (fun x a' _ => a' = { tmps := #[.slice (some ⟨b1, o1, none⟩) xs.length ca, undef, .slice none 0 0, .pointer (some ⟨w.heap.size, 0, none⟩), u4, .string s, u6, .string (pc s x.1), .slice (some ⟨b1, o1, none⟩) xs.length ca, .int .i64 xs.length, .int .i64 k, .bool true, .pointer (some ⟨b1, o1 + k, none⟩), .string s, .string s, .func (.func 253) #[] #[.pointer (some ⟨wr.heap.size, 0, none⟩)], .int .i64 ((256 * x.1 : Nat) : Int), .string (pc s x.1), u18, u19, u20, u21, u22, u23], defers := [] })
        (fun x a' _ A B row h _ _ => h) ?assign ?body ?done ?stop
      case kb =>
        intro W l o o' hl h hc hw
        refine ⟨fun q => ⟨cell_kept q.1 (grownBy_putObj' W l o') (fun r e => by cases e; exact ⟨o, h, hc⟩), by rw [World.putObj_size]; exact q.2⟩, belowK_b (w := W4) (by omega) W l o o' hl h hc hw⟩
      case h0 =>
        refine ⟨⟨va, vc, ?_, Hm ?_⟩, Hm ⟨fun D h => (hE4.block D (hD.out.2 D h).2.1).trans (hD.out.2 D h).2.2, hE.out.trans hE4, Nat.le_refl _⟩⟩
        · simpa using hB.out.ext hE4
        · refine ⟨by simpa using owns_ext hO.out hE4, fun b h => ?_⟩
          have := (hO.out.lt b (by simpa using h)).2
          omega
      case hI =>
        rintro pre A B row ⟨⟨va, vc, q1, q2⟩, q3⟩ hg hr
        have hr2 : ∀ r, row = some r → ∃ o : Obj, A.heap[r]? = some o ∧ o.isCells = false := fun r e => (hr r e).2
        refine ⟨⟨va, vc, q1.kp (Kp.of_grown hg) (fun e => ?_), Hm ⟨owns_kept q2.out.1 hg hr2, q2.out.2⟩⟩, Hm ⟨fun D h => ?_, q3.out.2.1.grown hg (by have := q3.out.2.2; omega) (fun k e => by have := (hr k e).1; omega), Nat.le_trans q3.out.2.2 hg.size⟩⟩
        · obtain ⟨ob, ho, hn⟩ := hr2 _ e
          rw [show A.heap[w.heap.size]? = _ from q1] at ho; cases ho; simp [Obj.isCells] at hn
        · have hlt := (hD.out.2 D h).2.1
          exact (hg.block D (by have := q3.out.2.2; omega) (fun e => by have := (hr D e.symm).1; omega)).trans (q3.out.1 D h)
      case assign =>
        intro l pre x W K hi hK
        unfold encC
        rw [fold_two]
        gi_wp2
        exact hK _ _ (KeepsFrom.refl _ _) ⟨fun q => q, Below.refl _ _⟩ hi rfl
      case body =>
        rintro l pre x a' W hl hlr ⟨⟨va, vc, q1, q2⟩, q3⟩ rfl hlen
        have h11 : 1 ≤ n - 1 - 1 := by omega
        have g1 := q1.cell
        have g1f := q1.frozen
        have g1z := q1.lt
        have HBL := Hm (HBN.out pre hlen)
        obtain ⟨p, hp⟩ : ∃ p, p = pc s x.1 := ⟨_, rfl⟩
        have HPL : Hid (TL ++ (pre ++ [x]).map (fun x => pc s x.1) = (TL ++ pre.map (fun x => pc s x.1)) ++ [p]) := Hm (by rw [List.map_append, ← List.append_assoc, hp]; rfl)
        rw [← hp]
        obtain ⟨L, hL⟩ : ∃ L, L = TL ++ pre.map (fun x => pc s x.1) := ⟨_, rfl⟩
        rw [← hL] at g1 q1 q2 HBL HPL
        have HQ1 := Hm q1
        clear hp hL q1 hlr hlen
        gi_wp2_with (gi_at_builtin; refine wpListIn_append_at _ rfl _ _ 115 rfl (w.heap.size + 1) 9 i0 _ 1 16 Tryz.underlying115 hi hz0 hz1 hz2 rfl (by decide) (.slice va L.length vc) L.length _ rfl (owns_ext q2.out.1 ((Ext.refl W).alloc _)) ⟨W.heap.size, 0, none⟩ 1 1 (strC p) rfl rfl (cells_new _ #[.string p] _) (by intro u hu; simp [strC] at hu; subst hu; rfl) ?c1 ?c2 ?c3 ?_)
        case c1 => have := HBL.out; unfold maxLen; omega
        case c2 => have := HBL.out; omega
        case c3 => have := q3.out.2.2; simp; omega
        intro v3 w3 ho3 hg3 hat3
        obtain ⟨a3, c3, rfl⟩ := owns_shape ho3
        have HO3 := Hm ho3
        have HAT : Hid (∀ b, (Value.slice a3 (L.length + 1) c3).ownBlock = some b → b ≠ wr.heap.size) := Hm (fun b h => by
          have := q3.out.2.2
          rcases hat3 with h5 | h5
          · rw [h5] at h; exact q2.out.2 b h
          · rw [h5] at h; injection h with h; (try simp at h); omega)
        have hk1 : Kp (fun k => (Value.slice va L.length vc).ownBlock = some k) W w3 := (Kp.of_ext ((Ext.refl W).alloc _)).trans (Kp.of_grown hg3) (fun x hx _ => hx)
        have hown := fun k (h : (Value.slice va L.length vc).ownBlock = some k) => q2.out.1.lt k h
        have hb3 : Blk w3 w.heap.size #[.slice va L.length vc] 115 := HQ1.out.kp hk1 (fun h => by have := (hown _ h).1; omega)
        have HB3 := Hm hb3
        have HK1 := Hm hk1
        have HOWN := Hm hown
        have g3 := hb3.cell
        have g3f := hb3.frozen
        have g3z := hb3.lt
        clear ho3 hg3 hat3 hk1 hown hb3 g1 g1f g1z
        gi_wp2
        have hk2 : Kp (fun k => (Value.slice va L.length vc).ownBlock = some k ∨ k = w.heap.size) W (w3.setCell ⟨w.heap.size, 0, none⟩ (.slice a3 (L.length + 1) c3)) :=
          (HK1.out.mono (T := fun k => (Value.slice va L.length vc).ownBlock = some k ∨ k = w.heap.size) (fun x hx _ => .inl hx)).trans (Kp.set (S := fun k => k = w.heap.size) _ _ rfl) (fun x hx _ => .inr hx)
        have hsz := q3.out.2.2
        have hnc : ∀ k ob, W.heap[k]? = some ob → ob.isCells = false → ¬ ((Value.slice va L.length vc).ownBlock = some k ∨ k = w.heap.size) := fun k ob hob hc hs => by
          rcases hs with hs | hs
          · rcases q2.out.1.2 with ⟨hv, -⟩ | ⟨gg, cap, cur, hv, -, hh, -⟩
            · rw [hv] at hs; cases hs
            · rw [hv] at hs
              have : gg = k := by simpa [Value.ownBlock] using hs
              subst this
              rw [hh] at hob; cases hob; simp [Obj.isCells] at hc
          · subst hs
            rw [show W.heap[w.heap.size]? = _ from HQ1.out] at hob; cases hob; simp [Obj.isCells] at hc
        have hnb : ¬ ((Value.slice va L.length vc).ownBlock = some wr.heap.size ∨ wr.heap.size = w.heap.size) := fun hs => by
          rcases hs with hs | hs
          · exact q2.out.2 _ hs rfl
          · omega
        refine ⟨⟨hk2.size, fun k ob _ hob hc => (hk2.block k (Array.getElem?_eq_some_iff.1 hob).1 (hnc k ob hob hc)).trans hob⟩, ⟨fun q => ?_, ⟨hk2.os, hk2.tape, hk2.output, hk2.size, fun k hk => hk2.block k (by omega) (fun hs => ?_)⟩⟩, ⟨a3, c3, ?_, Hm ?_⟩, Hm ⟨fun D h => ?_, ?_, Nat.le_trans hsz hk2.size⟩⟩
        · exact ⟨(hk2.cell q.2 hnb 0).trans q.1, Nat.lt_of_lt_of_le q.2 hk2.size⟩
        · rcases hs with hs | hs
          · have := (HOWN.out k hs).1; omega
          · omega
        · rw [HPL.out]
          have := HB3.out.set 0 (.slice a3 (L.length + 1) c3)
          simpa using this
        · rw [HPL.out]
          have := owns_set HO3.out (p := ⟨w.heap.size, 0, none⟩) (by show w.heap.size < w.heap.size + 1; omega) (.slice a3 (L.length + 1) c3)
          exact ⟨by simpa [strC] using this, by simpa using HAT.out⟩
        · exact (hk2.block D (by have := (hD.out.2 D h).2.1; omega) (hnc D _ (q3.out.1 D h) rfl)).trans (q3.out.1 D h)
        · exact Kp.ext q3.out.2.1 (fun x hs hx => by rcases hs with hs | hs; · (have := (HOWN.out _ hs).1; omega)
                                                     · omega) hk2
      case stop =>
        rintro D c pre W _ _ h _
        exact h.elim
      case done =>
        rintro D ys W hDz rfl ⟨⟨va, vc, q1, q2⟩, q3⟩ hK
        have HPL : Hid (TL ++ (frontUp (nPc s) (nPc s)).map (fun x => pc s x.1) = splitL (xs.take (k + 1))) := Hm (by rw [HTK.out, pcs_front])
        rw [HPL.out] at q1 q2
        gi_wp2
        refine ⟨xs.length - (k + 1), by have := HLT.out; omega, k + 1, D :: Ds, va, vc, _, _, _, _, _, _, _, _, _, _, _, _, _, _, _, _, _, by have := HLT.out; omega, rfl, Hm ⟨?_, ?_⟩, Hm q1, Hm q2.out.1, Hm q3.out.2.1⟩
        · rw [List.nodup_cons]
          exact ⟨fun h => by have := (hD.out.2 D h).2.1; omega, hD.out.1⟩
        · intro D' h
          rcases List.mem_cons.1 h with rfl | h
          · exact ⟨by omega, (Array.getElem?_eq_some_iff.1 hK).1, hK⟩
          · exact ⟨(hD.out.2 D' h).1, by have := (hD.out.2 D' h).2.1; have := q3.out.2.2; omega, q3.out.1 D' h⟩
    · obtain rfl : k = xs.length := by omega
      rw [List.take_length] at hB hO
      have gv := hB.out.cell
      have zv := hB.out.lt
      gi_wp2
      refine leaves_coll Ds wr hD.out.1 (fun D h => (hD.out.2 D h).2.2) ?_
      have hnot : ∀ b, (∃ cs t, Blk wr b cs t) → b ∉ Ds := fun b ⟨cs, t, hb⟩ h => by
        have h2 := (hD.out.2 b h).2.2
        rw [show wr.heap[b]? = _ from hb] at h2
        cases h2
      refine ⟨.slice va (splitL xs).length vc, ?_, va, vc, rfl, ?_, shut_ext Ds wr hE.out (fun D h => Nat.le_of_lt (hD.out.2 D h).1), owns_caps hO.out⟩
      · simp [results, Tryz.f120, go_sem]
      · have hsl : Sl wr (.slice va (splitL xs).length vc) 1 ((splitL xs).map strC) := Sl.of_owns (base := w.heap.size + 1) (e := 9) (by rw [List.length_map]; exact hO.out) (by intro xs hxs; simp at hxs; obtain ⟨_, _, rfl⟩ := hxs; rfl)
        refine Sl.kp hsl (shut_kp Ds wr) (fun h0 b o e hb => ?_)
        rcases hO.out.2 with ⟨-, hn⟩ | ⟨g, cap, cur, hv, -, hh, -⟩
        · exact h0 (by rw [List.map_eq_nil_iff]; exact List.eq_nil_of_length_eq_zero (by first | exact hn | omega))
        · simp only [Value.slice.injEq] at hv
          obtain ⟨rfl, -, -⟩ := hv
          injection e with e
          injection e with e _ _
          subst e
          have h2 := (hD.out.2 _ hb).2.2
          rw [hh] at h2
          cases h2
end Go.Proofs.YtjnafppkbhldlaaGreat
