/-
A row's bytes: the program's Encode.
-/
import Derived.Deep.RegionHeld
import Derived.Test.YtdbepkfblfhlhaaP14
namespace Go.Proofs.Ytdbepkfblfhlhaa
open Go.RowKit

/-- What Encode answers. -/
def EncPost (l : List K) (r : Rl) (ver : Int) (w : World) (e : Ending) (w' : World) : Prop :=
  ∃ v, e = .returned (.tuple #[v, .int .i64 (encE l r ver)]) ∧ (encE l r ver = 0 → OB w' w.heap.size v (rowPut l r.cols ver)) ∧ (encE l r ver ≠ 0 → v = .slice none 0 0) ∧ Ext w w'
theorem EncPost.bad {l : List K} {r : Rl} {ver : Int} {w w' : World} {E : Int} (h : encE l r ver = E) (h0 : E ≠ 0) (hE : Ext w w') : EncPost l r ver w (.returned (.tuple #[.slice none 0 0, .int .i64 E])) w' :=
  ⟨_, by rw [h], fun h2 => absurd (h ▸ h2) h0, fun _ => rfl, hE⟩
theorem EncPost.ok {l : List K} {r : Rl} {ver : Int} {w w' : World} {v : Value} {m : List Int} (h : encE l r ver = 0) (hm : rowPut l r.cols ver = m) (ho : OB w' w.heap.size v m) (hE : Ext w w') : EncPost l r ver w (.returned (.tuple #[v, .int .i64 0])) w' :=
  ⟨_, by rw [h], fun _ => by rw [hm]; exact ho, fun h2 => absurd h h2, hE⟩

theorem cellsPut_len {ver : Int} {l : List K} {cols : List Col} (H : ∀ i (h1 : i < l.length) (h2 : i < cols.length), l[i].k ≠ 0 → (l[i].put cols[i].ty ver).length ≤ 4000) : ∀ k, k ≤ l.length → k ≤ cols.length → (cellsPut ver (l.take k) (cols.take k)).length ≤ 4000 * k
  | 0, _, _ => by simp [cellsPut]
  | k + 1, h1, h2 => by
    have ih := cellsPut_len H k (by omega) (by omega)
    rw [cellsPut_snoc ver l cols k (by omega) (by omega), List.length_append]
    by_cases h0 : (l[k]'(by omega)).k = 0
    · rw [if_pos h0]; simp; omega
    · rw [if_neg h0]; have := H k (by omega) (by omega) h0; omega
theorem cellsPut_all {ver : Int} {l : List K} {cols : List Col} (h : l.length = cols.length) : cellsPut ver (l.take l.length) (cols.take l.length) = cellsPut ver l cols := by
  rw [List.take_length, h, List.take_length]
structure RowOk (l : List K) (cols : List Col) (ver : Int) : Prop where
  n16 : l.length ≤ 16
  len : l.length = cols.length
  err : ∀ i (h1 : i < l.length) (h2 : i < cols.length), l[i].k ≠ 0 → l[i].err cols[i].ty ver = 0
  put : ∀ i (h1 : i < l.length) (h2 : i < cols.length), l[i].k ≠ 0 → (l[i].put cols[i].ty ver).length ≤ 4000
theorem RowOk.of {l : List K} {r : Rl} {ver : Int} (hf : fitsE l r = 0) (hv : ver = 1 ∨ ver = 2) (hs : ∀ c ∈ l, c.tw) : RowOk l r.cols ver := by
  obtain ⟨h0, h1, h2⟩ := fitsW_zero hf
  refine ⟨by have := (fits_cols hf).1; omega, h1, fun i hi hj hk => err_of_right (h2 i hi hj) hv hk, fun i hi hj hk => ?_⟩
  have ht := hs _ (List.getElem_mem hi)
  exact putC_len2 ht.k (err_of_right (h2 i hi hj) hv hk) ht.n

set_option maxRecDepth 100000 in set_option maxHeartbeats 4000000 in
theorem encode_any (l : List K) (a : Option Addr) (cap : Nat) (oid ver : Int) (nm : ByteArray) (id : Int) (cols : List Col) (a2 : Option Addr) (cap2 : Nat) (version : Int) (w : World) (hl : Sl w (.slice a l.length cap) 5 (l.map K.pc)) (hl2 : Sl w (.slice a2 cols.length cap2) 3 (cols.map Col.cells))
    (hcap2 : cols.length ≤ cap2) (hlen : l.length ≤ 1000) (hlen2 : cols.length ≤ 1000) (hs : ∀ c ∈ l, c.tw) (hs2 : ∀ c ∈ cols, c.nm.size ≤ 9223372036854775807) (hnm : nm.size ≤ 9223372036854775807) :
    Calls Try.prog 38 #[.slice a l.length cap, .agg #[.int .u32 oid, .int .u32 ver, .string nm, .int .u8 id, .slice a2 cols.length cap2], .int .u8 version] w (EncPost l (⟨oid, ver, nm, id, cols⟩ : Rl) version w) := by
  have HF := Hid.mk' (fun W (h : Ext w W) => fits_any l a cap oid ver nm id cols a2 cap2 W (hl.ext h) (hl2.ext h) hcap2 hlen hlen2 (fun c hc => (hs c hc).towk) hs2 hnm)
  have HN := Hid.mk' (fun W (h : Ext w W) => nulls_any l a cap W (hl.ext h) hlen)
  have HOK := Hid.mk' (fun h hv => RowOk.of (l := l) (r := (⟨oid, ver, nm, id, cols⟩ : Rl)) (ver := version) h hv hs)
  have HEE : Hid (encE l (⟨oid, ver, nm, id, cols⟩ : Rl) version = if version = 1 ∨ version = 2 then fitsE l (⟨oid, ver, nm, id, cols⟩ : Rl) else 18) := Hid.mk' rfl
  have HL := Hid.mk' hl
  have HL2 := Hid.mk' hl2
  have HS := Hid.mk' hs
  clear hl hl2 hs hs2 hnm
  by_cases hv : version = 1 ∨ version = 2
  case neg =>
    have HE := Hid.mk' (HEE.out.trans (if_neg hv))
    have hv2 : version < 1 ∨ 2 < version := by omega
    clear hv HEE
    go_enter Try.func38, Try.ntmps38
    go_wp2
    all_goals
      go_ret2
      exact EncPost.bad HE.out (by decide) (by (repeat (with_reducible (first | exact Ext.refl _ | assumption | exact held_left (by assumption) | apply Ext.drewN | apply Ext.drew | apply Ext.alloc | (refine Ext.setCell ?_ (by first | (simp; done) | (simp; omega) | omega) _) | (refine Ext.trans ?_ (by assumption)) | (refine Ext.trans ?_ (held_left (by assumption)))))))
  have HE := Hid.mk' (HEE.out.trans (if_pos hv))
  have HV := Hid.mk' hv
  have hv1 : 1 ≤ version := by omega
  have hv2 : version ≤ 2 := by omega
  clear hv HEE
  obtain ⟨E, hE0⟩ : ∃ E, E = fitsE l (⟨oid, ver, nm, id, cols⟩ : Rl) := ⟨_, rfl⟩
  rw [← hE0] at HF HE HOK
  by_cases h0 : E = 0
  case neg =>
    have h0' : (E != 0) = true := by simpa using h0
    have H0 := Hid.mk' h0
    clear h0 hE0 HOK
    go_enter Try.func38, Try.ntmps38
    go_wp2_with (go_at_call 42; refine (HF.out _ (by (repeat (with_reducible (first | exact Ext.refl _ | assumption | exact held_left (by assumption) | apply Ext.drewN | apply Ext.drew | apply Ext.alloc | (refine Ext.setCell ?_ (by first | (simp; done) | (simp; omega) | omega) _) | (refine Ext.trans ?_ (by assumption)) | (refine Ext.trans ?_ (held_left (by assumption)))))))).mono ?_; rintro e w1 ⟨rfl, hb1⟩; have hE1 : Ext w w1 := (by (repeat (with_reducible (first | exact Ext.refl _ | assumption | exact held_left (by assumption) | apply Ext.drewN | apply Ext.drew | apply Ext.alloc | (refine Ext.setCell ?_ (by first | (simp; done) | (simp; omega) | omega) _) | (refine Ext.trans ?_ (by assumption)) | (refine Ext.trans ?_ (held_left (by assumption))))))))
    go_ret2
    exact EncPost.bad HE.out H0.out hE1
  subst h0
  have hok := HOK.out rfl HV.out
  have hn16 := hok.n16
  have hnl : l.length = cols.length := hok.len
  have HK := Hid.mk' hok
  have HP := Hid.mk' (fun W a c h => pack_any (nullsL l) a c W h (by rw [nullsL_len]; exact hn16))
  rw [nullsL_len] at HP
  have hlt0 : l.length ≤ cols.length := by omega
  have HNL := Hid.mk' hnl
  clear hok hnl HOK hE0
  go_enter Try.func38, Try.ntmps38
  go_wp2_with (first
    | (go_at_call 42; refine (HF.out _ (by (repeat (with_reducible (first | exact Ext.refl _ | assumption | exact held_left (by assumption) | apply Ext.drewN | apply Ext.drew | apply Ext.alloc | (refine Ext.setCell ?_ (by first | (simp; done) | (simp; omega) | omega) _) | (refine Ext.trans ?_ (by assumption)) | (refine Ext.trans ?_ (held_left (by assumption)))))))).mono ?_; rintro e w1 ⟨rfl, hb1⟩; have hE1 := Hid.mk' (show Ext (w.alloc (.cells #[.int .u32 oid, .int .u32 ver, .string nm, .int .u8 id, .slice a2 cols.length cap2] 42)) w1 by (repeat (with_reducible (first | exact Ext.refl _ | assumption | exact held_left (by assumption) | apply Ext.drewN | apply Ext.drew | apply Ext.alloc | (refine Ext.setCell ?_ (by first | (simp; done) | (simp; omega) | omega) _) | (refine Ext.trans ?_ (by assumption)) | (refine Ext.trans ?_ (held_left (by assumption))))))); have hEw1 : Ext w w1 := (by (repeat (with_reducible (first | exact Ext.refl _ | assumption | exact held_left (by assumption) | apply Ext.drewN | apply Ext.drew | apply Ext.alloc | (refine Ext.setCell ?_ (by first | (simp; done) | (simp; omega) | omega) _) | (refine Ext.trans ?_ (by assumption)) | (refine Ext.trans ?_ (held_left (by assumption))))))); have g0 := ((Blk.new w #[.int .u32 oid, .int .u32 ver, .string nm, .int .u8 id, .slice a2 cols.length cap2] 42).ext hb1).cell; clear hb1)
    | (go_at_call 77; refine (HN.out _ (by (repeat (with_reducible (first | exact Ext.refl _ | assumption | exact held_left (by assumption) | apply Ext.drewN | apply Ext.drew | apply Ext.alloc | (refine Ext.setCell ?_ (by first | (simp; done) | (simp; omega) | omega) _) | (refine Ext.trans ?_ (by assumption)) | (refine Ext.trans ?_ (held_left (by assumption)))))))).mono ?_; rintro e w2 ⟨an, cn, rfl, hn2, hb2⟩; have HN2 := Hid.mk' hn2; clear hn2)
    | (go_at_call 76; refine (HP.out _ _ _ HN2.out).mono ?_; rintro e w3 ⟨v3, rfl, ho3, hb3⟩; have HO3 := Hid.mk' (ho3.base (Ext.size (by (repeat (with_reducible (first | exact Ext.refl _ | assumption | exact held_left (by assumption) | apply Ext.drewN | apply Ext.drew | apply Ext.alloc | (refine Ext.setCell ?_ (by first | (simp; done) | (simp; omega) | omega) _) | (refine Ext.trans ?_ (by assumption)) | (refine Ext.trans ?_ (held_left (by assumption)))))) : Ext w _))); have HE3 := Hid.mk' (hE1.out.trans (hb2.trans hb3)); clear ho3 hb3 hb2))
  clear g0
  go_loopw [9, 10, 33] (fun v e i wr => ∃ k : Nat, k ≤ l.length ∧ e = .int .i64 0 ∧ i = .int .i64 k ∧ Hid (OB wr w.heap.size v (mapL (nullsL l) ++ cellsPut version (l.take k) (cols.take k))) ∧ Hid (Ext (w.alloc (.cells #[.int .u32 oid, .int .u32 ver, .string nm, .int .u8 id, .slice a2 cols.length cap2] 42)) wr)) (fun _ _ i _ => l.length - (intOf i).toNat)
  case atStart => exact ⟨0, Nat.zero_le _, rfl, rfl, Hid.mk' (by simp only [List.take_zero, cellsPut, List.append_nil]; exact HO3.out), HE3⟩
  case round =>
    obtain ⟨k, hk, rfl, rfl, hown, hE⟩ := hrel
    have hEw : Ext w wr := ((Ext.refl w).alloc _).trans hE.out
    have hBx := (Blk.new w #[.int .u32 oid, .int .u32 ver, .string nm, .int .u8 id, .slice a2 cols.length cap2] 42).ext hE.out
    have g0 := hBx.cell
    have z0 := hBx.lt
    clear hBx
    by_cases hlt : k < l.length
    · have hlt2 : k < cols.length := by omega
      obtain ⟨b, o, rfl, hb, hx⟩ := HL.out.at_ (i := k) (by simpa using hlt)
      obtain ⟨f0, f1, f2, f3, f4⟩ := K.pcAt hlt hx hb hEw
      obtain ⟨b2, o2, rfl, hb2', hx2⟩ := HL2.out.at_ (i := k) (by simpa using hlt2)
      obtain ⟨p0, p1, p2⟩ := Col.at_ hlt2 hx2 hb2' hEw
      have hbw : b < wr.heap.size := Nat.lt_of_lt_of_le hb hEw.size
      have hbw2 : b2 < wr.heap.size := Nat.lt_of_lt_of_le hb2' hEw.size
      have htw := HS.out _ (List.getElem_mem hlt)
      have HSN := Hid.mk' (cellsPut_snoc version l cols k hlt hlt2)
      have hpl := cellsPut_len HK.out.put k (by omega) (by omega)
      have hml := mapL_len (nullsL l)
      rw [nullsL_len] at hml
      have hms : mapSize l.length ≤ 2 := by unfold mapSize; omega
      have HCP := Hid.mk' (fun (hk0 : l[k].k ≠ 0) W u (h : OB W w.heap.size u (mapL (nullsL l) ++ cellsPut version (l.take k) (cols.take k))) => cput_ok u (mapL (nullsL l) ++ cellsPut version (l.take k) (cols.take k)) l[k].k l[k].v.ty l[k].v.n l[k].v.x l[k].v.y l[k].v.s cols[k].ty version W (HK.out.err k hlt hlt2 hk0) h.sl (by rw [List.length_append]; omega) htw.k htw.n htw.x htw.y htw.s)
      obtain ⟨c, hc⟩ : ∃ c, c = l[k] := ⟨_, rfl⟩
      obtain ⟨d, hd⟩ : ∃ d, d = cols[k] := ⟨_, rfl⟩
      rw [← hc] at f0 f1 f2 f3 f4 HSN HCP
      rw [← hd] at p0 p1 p2 HSN HCP
      obtain ⟨pre, hpre⟩ : ∃ pre, pre = mapL (nullsL l) ++ cellsPut version (l.take k) (cols.take k) := ⟨_, rfl⟩
      rw [← hpre] at hown HCP
      have HPRE := Hid.mk' hpre
      clear hc hd hx hx2 htw hpl hml hms hpre
      by_cases hk0 : c.k = 0
      · have hk0' : (c.k != 0) = false := by simpa using hk0
        have HS2 := Hid.mk' (HSN.out.trans (by rw [if_pos hk0, List.append_nil]))
        clear hk0 HSN HCP
        go_wp2
        go_roundw
        case rel => exact ⟨k + 1, by omega, rfl, by go_num, Hid.mk' (by rw [HS2.out, ← HPRE.out]; exact hown.out.alloc _), Hid.mk' (hE.out.alloc _)⟩
        case measure => simp [intOf]; omega
      · have hk0' : (c.k != 0) = true := by simpa using hk0
        have HC := Hid.mk' (HCP.out hk0)
        have HS2 := Hid.mk' (HSN.out.trans (by rw [if_neg hk0]))
        clear hk0 HSN HCP
        go_wp2
        go_region_held3 (fun w' => Ext (wr.alloc (.cells #[.int .u8 c.k, .int .u8 c.v.ty, .int .i64 c.v.n, .complex .f64 c.v.x c.v.y, .string c.v.s] 78)) w' ∧ (∀ b o, b < (wr.alloc (.cells #[.int .u8 c.k, .int .u8 c.v.ty, .int .i64 c.v.n, .complex .f64 c.v.x c.v.y, .string c.v.s] 78)).heap.size → w'.cell? ⟨b, o, none⟩ = (wr.alloc (.cells #[.int .u8 c.k, .int .u8 c.v.ty, .int .i64 c.v.n, .complex .f64 c.v.x c.v.y, .string c.v.s] 78)).cell? ⟨b, o, none⟩) ∧ (∀ b o, b < (wr.alloc (.cells #[.int .u8 c.k, .int .u8 c.v.ty, .int .i64 c.v.n, .complex .f64 c.v.x c.v.y, .string c.v.s] 78)).heap.size → w'.frozen? ⟨b, o, none⟩ = (wr.alloc (.cells #[.int .u8 c.k, .int .u8 c.v.ty, .int .i64 c.v.n, .complex .f64 c.v.x c.v.y, .string c.v.s] 78)).frozen? ⟨b, o, none⟩)) ((exact held_of (by (repeat (with_reducible (first | exact Ext.refl _ | assumption | exact held_left (by assumption) | apply Ext.drewN | apply Ext.drew | apply Ext.alloc | (refine Ext.setCell ?_ (by first | (simp; done) | (simp; omega) | omega) _) | (refine Ext.trans ?_ (by assumption)) | (refine Ext.trans ?_ (held_left (by assumption)))))))))
          (first
            | (go_at_call 78; refine (HC.out _ _ (hown.out.ext (by (repeat (with_reducible (first | exact Ext.refl _ | assumption | exact held_left (by assumption) | apply Ext.drewN | apply Ext.drew | apply Ext.alloc | (refine Ext.setCell ?_ (by first | (simp; done) | (simp; omega) | omega) _) | (refine Ext.trans ?_ (by assumption)) | (refine Ext.trans ?_ (held_left (by assumption))))))))).mono ?_; rintro e w2 ⟨v2, rfl, ho2, hb2⟩; have HO2 := Hid.mk' (ho2.base (Ext.size (by (repeat (with_reducible (first | exact Ext.refl _ | assumption | exact held_left (by assumption) | apply Ext.drewN | apply Ext.drew | apply Ext.alloc | (refine Ext.setCell ?_ (by first | (simp; done) | (simp; omega) | omega) _) | (refine Ext.trans ?_ (by assumption)) | (refine Ext.trans ?_ (held_left (by assumption)))))) : Ext w _))); clear ho2))
        go_wp2
        go_roundw
        case rel => exact ⟨k + 1, by omega, rfl, by go_num, Hid.mk' (by rw [HS2.out, ← List.append_assoc, ← HPRE.out]; exact HO2.out.ext (by (repeat (with_reducible (first | exact Ext.refl _ | assumption | exact held_left (by assumption) | apply Ext.drewN | apply Ext.drew | apply Ext.alloc | (refine Ext.setCell ?_ (by first | (simp; done) | (simp; omega) | omega) _) | (refine Ext.trans ?_ (by assumption)) | (refine Ext.trans ?_ (held_left (by assumption)))))))), Hid.mk' (hE.out.trans (by (repeat (with_reducible (first | exact Ext.refl _ | assumption | exact held_left (by assumption) | apply Ext.drewN | apply Ext.drew | apply Ext.alloc | (refine Ext.setCell ?_ (by first | (simp; done) | (simp; omega) | omega) _) | (refine Ext.trans ?_ (by assumption)) | (refine Ext.trans ?_ (held_left (by assumption))))))))⟩
        case measure => simp [intOf]; omega
    · have hkk : k = l.length := by omega
      subst hkk
      rw [cellsPut_all HNL.out] at hown
      go_wp2
      go_ret2
      exact EncPost.ok HE.out rfl hown.out hEw

end Go.Proofs.Ytdbepkfblfhlhaa

/-
What is encoded is taken, and filled with its texts, as it was: in plain words.
-/
namespace Go.Proofs.Ytdbepkfblfhlhaa
open Go.RowKit

/-- A cell as it is taken. -/
def blankK (c : K) : K := if c.k = 0 then K.zero else c.taken.1
def blanks (l : List K) : List K := l.map blankK
def hoUp (l : List K) (k : Nat) : List Ho := (larges l k).map fun x => ⟨(x.1 : Int), (x.2.size : Int)⟩
theorem hoUp_all (l : List K) : hoUp l l.length = hoL l := rfl

theorem tkUp_put {l : List K} {r : Rl} {ver : Int} (hf : fitsE l r = 0) (hv : ver = 1 ∨ ver = 2) (hs : ∀ c ∈ l, c.tw) (rest : List Int) : ∀ k, k ≤ l.length →
    tkUp (nullsL l) r.cols ver ⟨cellsPut ver l r.cols ++ rest, 0⟩ k = (((blanks l).take k, hoUp l k), ⟨cellsPut ver (l.drop k) (r.cols.drop k) ++ rest, 0⟩)
  | 0, _ => by simp [tkUp, hoUp, larges]
  | k + 1, hk => by
    have ih := tkUp_put hf hv hs rest k (by omega)
    obtain ⟨-, h1, h2⟩ := fitsW_zero hf
    have hlt : k < l.length := by omega
    have hlt2 : k < r.cols.length := by omega
    have hn : k < (nullsL l).length := by rw [nullsL_len]; exact hlt
    have hnk : (nullsL l)[k] = decide (l[k].k = 0) := by simp [nullsL]
    have htw := hs _ (List.getElem_mem hlt)
    have hr := h2 k hlt hlt2
    have hbl : k < (blanks l).length := by simpa [blanks] using hlt
    have hbk : (blanks l)[k] = blankK l[k] := by simp [blanks]
    have hdl : l.drop k = l[k] :: l.drop (k + 1) := List.drop_eq_getElem_cons hlt
    have hdc : r.cols.drop k = r.cols[k] :: r.cols.drop (k + 1) := List.drop_eq_getElem_cons hlt2
    by_cases h0 : l[k].k = 0
    · rw [tkUp_null hn hlt2 (by rw [hnk]; simpa using h0), ih]
      have hlg : largeB l[k].k l[k].v.ty l[k].v.s = false := by unfold largeB; rw [decide_eq_false_iff_not]; intro h; omega
      have e1 : hoUp l (k + 1) = hoUp l k := by unfold hoUp; rw [larges_no hlt hlg]
      rw [e1, List.take_succ_eq_append_getElem hbl, hbk, hdl, hdc]
      simp only [cellsPut, blankK]
      rw [if_pos h0, if_pos h0]
      simp
    · have herr : l[k].err r.cols[k].ty ver = 0 := err_of_right hr hv h0
      have htk := takeC_put l[k] r.cols[k].ty ver (cellsPut ver (l.drop (k + 1)) (r.cols.drop (k + 1)) ++ rest) htw.k herr ⟨htw.n, htw.x, htw.y⟩
      have hst : (tkUp (nullsL l) r.cols ver ⟨cellsPut ver l r.cols ++ rest, 0⟩ k).2 = ⟨l[k].put r.cols[k].ty ver ++ (cellsPut ver (l.drop (k + 1)) (r.cols.drop (k + 1)) ++ rest), 0⟩ := by
        rw [ih, hdl, hdc]
        simp only [cellsPut]
        rw [if_neg h0, List.append_assoc]
      have hbl2 : blankK l[k] = l[k].taken.1 := by unfold blankK; rw [if_neg h0]
      rw [tkUp_cell hn hlt2 (by rw [hnk]; simpa using h0) (c := l[k].taken.1) (m := l[k].taken.2) (by rw [hst]; exact htk), ih]
      rw [List.take_succ_eq_append_getElem hbl, hbk, hbl2]
      simp only
      congr 2
      cases hq : largeB l[k].k l[k].v.ty l[k].v.s with
      | true =>
        have e2 : l[k].taken.2 = l[k].v.s.size := by unfold K.taken; rw [if_pos hq]
        have hpos : 64 < l[k].v.s.size := by unfold largeB at hq; rw [decide_eq_true_eq] at hq; exact hq.2.2
        rw [e2, if_pos (by omega)]
        unfold hoUp
        rw [larges_yes hlt hq]
        simp
      | false =>
        have e2 : l[k].taken.2 = 0 := by unfold K.taken; rw [if_neg (by rw [hq]; simp)]
        rw [e2, if_neg (by omega)]
        unfold hoUp
        rw [larges_no hlt hq]

theorem takeT_put {l : List K} {r : Rl} {ver : Int} (hf : fitsE l r = 0) (hv : ver = 1 ∨ ver = 2) (hs : ∀ c ∈ l, c.tw) (rest : List Int) :
    takeT r ver ⟨rowPut l r.cols ver ++ rest, 0⟩ = ((blanks l, hoL l), ⟨rest, 0⟩) := by
  obtain ⟨h0, h1, -⟩ := fitsW_zero hf
  have hb : begR r ver ⟨rowPut l r.cols ver ++ rest, 0⟩ = ⟨rowPut l r.cols ver ++ rest, 0⟩ := by
    unfold begR; rw [if_pos hv, h0]; unfold failS; rw [if_neg (by decide)]
  unfold takeT
  rw [hb, if_neg (by simp)]
  have hby : bytesR (mapSize r.cols.length) ⟨rowPut l r.cols ver ++ rest, 0⟩ = (mapL (nullsL l), ⟨cellsPut ver l r.cols ++ rest, 0⟩) := by
    unfold rowPut
    rw [List.append_assoc]
    exact bytesR_put (mapL (nullsL l)) _ (by rw [mapL_len, nullsL_len, h1]) 0
  have hun : unmapL (mapL (nullsL l)) r.cols.length = (nullsL l, 0) := by
    have := unmap_map (nullsL l)
    rw [nullsL_len, h1] at this
    exact this
  rw [hby, if_neg (by simp), hun]
  simp only
  rw [show failS (⟨cellsPut ver l r.cols ++ rest, 0⟩ : RS) 0 = ⟨cellsPut ver l r.cols ++ rest, 0⟩ by unfold failS; rw [if_neg (by decide)]]
  rw [nullsL_len, tkUp_put hf hv hs rest l.length (Nat.le_refl _)]
  unfold finT
  rw [if_neg (by simp)]
  have e1 : (blanks l).take l.length = blanks l := by rw [show l.length = (blanks l).length by simp [blanks], List.take_length]
  rw [e1, hoUp_all, List.drop_length, ← h1.symm, List.drop_length]
  simp [cellsPut]

theorem larges_mem {l : List K} : ∀ k, ∀ x ∈ larges l k, x.1 < k ∧ ∃ h : x.1 < l.length, largeB l[x.1].k l[x.1].v.ty l[x.1].v.s = true ∧ x.2 = l[x.1].v.s
  | 0, x, hx => by simp [larges] at hx
  | k + 1, x, hx => by
    have ih := larges_mem (l := l) k
    unfold larges at hx
    split at hx
    · rename_i hk
      split at hx
      · rename_i hq
        rcases List.mem_append.1 hx with h | h
        · obtain ⟨h1, h2⟩ := ih x h; exact ⟨by omega, h2⟩
        · obtain rfl : x = _ := by simpa using h
          exact ⟨by simp, hk, hq, rfl⟩
      · obtain ⟨h1, h2⟩ := ih x hx; exact ⟨by omega, h2⟩
    · obtain ⟨h1, h2⟩ := ih x hx; exact ⟨by omega, h2⟩
theorem larges_has {l : List K} : ∀ k i (hi : i < l.length), i < k → largeB l[i].k l[i].v.ty l[i].v.s = true → ∃ x ∈ larges l k, x.1 = i
  | 0, i, _, h, _ => by omega
  | k + 1, i, hi, h, hq => by
    by_cases e : i = k
    · subst e
      refine ⟨(i, l[i].v.s), ?_, rfl⟩
      rw [larges_yes hi hq]; simp
    · obtain ⟨x, hx, h1⟩ := larges_has k i hi (by omega) hq
      refine ⟨x, ?_, h1⟩
      unfold larges
      split
      · split
        · exact List.mem_append.2 (.inl hx)
        · exact hx
      · exact hx

theorem blanks_len (l : List K) : (blanks l).length = l.length := by simp [blanks]
theorem setText_get {l : List K} {i : Nat} {s : ByteArray} {j : Nat} (hj : j < (setText l i s).length) : (setText l i s)[j] = if j = i then ⟨(l[j]'(by rwa [setText_len] at hj)).k, { (l[j]'(by rwa [setText_len] at hj)).v with s := s }⟩ else l[j]'(by rwa [setText_len] at hj) := by
  have hj2 : j < l.length := by rwa [setText_len] at hj
  by_cases hi : i < l.length
  · have e : setText l i s = l.set i ⟨l[i].k, { l[i].v with s := s }⟩ := by unfold setText; rw [dif_pos hi]
    simp only [e]
    by_cases h : j = i
    · subst h; simp
    · rw [if_neg h, List.getElem_set_ne (Ne.symm h)]
  · have e : setText l i s = l := by unfold setText; rw [dif_neg hi]
    simp only [e]
    rw [if_neg (by omega)]
/-- A large cell's text set is the cell. -/
theorem large_text {c d : K} {kind : Int} (hr : c.right kind = 0) (hL : largeB c.k c.v.ty c.v.s = true) (hd : d = c ∨ d = blankK c) : (⟨d.k, { d.v with s := c.v.s }⟩ : K) = c := by
  rcases hd with rfl | rfl
  · rfl
  · obtain ⟨k, ⟨ty, n, x, y, s⟩⟩ := c
    simp only at hL
    have hL0 := hL
    unfold largeB at hL
    rw [decide_eq_true_eq] at hL
    obtain ⟨rfl, hty, hsz⟩ := hL
    have hrr : rightC 2 ty n x y s kind = 0 := hr
    obtain ⟨-, -, -, -, h2, h3, h4, -⟩ := right_zero (right_full hrr).1
    obtain rfl : n = 0 := h2 (by omega)
    have hx := h3 (by omega) (by omega)
    have hy := h4 (by omega)
    obtain rfl : x = 0 := by omega
    obtain rfl : y = 0 := by omega
    unfold blankK K.taken
    rw [if_neg (show ¬ ((2 : Int) = 0) by decide)]
    simp only [hL0, if_true]
    rfl
theorem blank_small {c : K} {kind : Int} (hr : c.right kind = 0) (hk : 0 ≤ c.k) (hL : largeB c.k c.v.ty c.v.s = false) : blankK c = c := by
  unfold blankK
  by_cases h0 : c.k = 0
  · rw [if_pos h0]
    obtain ⟨k, ⟨ty, n, x, y, s⟩⟩ := c
    simp only at h0
    subst h0
    have hrr : rightC 0 ty n x y s kind = 0 := hr
    obtain ⟨h1, h2, h3, h4, h5, -⟩ := right_same (by decide) hrr
    obtain rfl := h1
    obtain rfl := h2
    obtain rfl : x = 0 := by omega
    obtain rfl : y = 0 := by omega
    obtain rfl : s = ByteArray.empty := (size_zero s).2 h5
    rfl
  · rw [if_neg h0]
    unfold K.taken
    rw [if_neg (by rw [hL]; simp)]

theorem hoL_get {l : List K} {j : Nat} (h : j < (hoL l).length) : (hoL l)[j] = ⟨(((larges l l.length)[j]'(by rwa [hoL_len] at h)).1 : Int), (((larges l l.length)[j]'(by rwa [hoL_len] at h)).2.size : Int)⟩ := by simp [hoL]
theorem txL_get {l : List K} {j : Nat} (h : j < (txL l).length) : (txL l)[j] = ((larges l l.length)[j]'(by rwa [txL_len] at h)).2 := by simp [txL]

theorem fill_form {l : List K} {r : Rl} (hf : fitsE l r = 0) (hs : ∀ c ∈ l, c.tw) : ∀ j, j ≤ (hoL l).length → ∀ i (hi : i < l.length) (hi2 : i < (fillUp (blanks l) (hoL l) (txL l) j).length),
    ((fillUp (blanks l) (hoL l) (txL l) j)[i] = l[i] ∨ (fillUp (blanks l) (hoL l) (txL l) j)[i] = blankK l[i]) ∧ (∀ q, q < j → (hq : q < (larges l l.length).length) → (larges l l.length)[q].1 = i → (fillUp (blanks l) (hoL l) (txL l) j)[i] = l[i])
  | 0, _, i, hi, hi2 => by
    refine ⟨.inr ?_, fun q h => by omega⟩
    simp [fillUp, blanks]
  | j + 1, hj, i, hi, hi2 => by
    have hj1 : j < (hoL l).length := by omega
    have hj2 : j < (txL l).length := by rw [txL_len]; rwa [hoL_len] at hj1
    have hj3 : j < (larges l l.length).length := by rwa [hoL_len] at hj1
    have e : fillUp (blanks l) (hoL l) (txL l) (j + 1) = setText (fillUp (blanks l) (hoL l) (txL l) j) (larges l l.length)[j].1 (larges l l.length)[j].2 := by
      rw [fillUp_succ hj1 hj2, hoL_get hj1, txL_get hj2]; simp
    obtain ⟨-, hx, hL, htx⟩ := larges_mem l.length _ (List.getElem_mem hj3)
    have hil : i < (fillUp (blanks l) (hoL l) (txL l) j).length := by rw [fillUp_len, blanks_len]; exact hi
    obtain ⟨ih1, ih2⟩ := fill_form hf hs j (by omega) i hi hil
    have hgs : i < (setText (fillUp (blanks l) (hoL l) (txL l) j) (larges l l.length)[j].1 (larges l l.length)[j].2).length := by rw [setText_len]; exact hil
    have hg := setText_get hgs
    have hgo : (fillUp (blanks l) (hoL l) (txL l) (j + 1))[i] = (setText (fillUp (blanks l) (hoL l) (txL l) j) (larges l l.length)[j].1 (larges l l.length)[j].2)[i] := by congr 1
    rw [hgo, hg]
    obtain ⟨-, h1, h2⟩ := fitsW_zero hf
    by_cases hij : i = (larges l l.length)[j].1
    · rw [if_pos hij]
      have key : (⟨(fillUp (blanks l) (hoL l) (txL l) j)[i].k, { (fillUp (blanks l) (hoL l) (txL l) j)[i].v with s := (larges l l.length)[j].2 }⟩ : K) = l[i] := by
        have hst : (larges l l.length)[j].2 = l[i].v.s := by rw [htx]; simp only [hij]
        have hLi : largeB l[i].k l[i].v.ty l[i].v.s = true := by simp only [hij]; exact hL
        rw [hst]
        exact large_text (h2 i hi (by omega)) hLi ih1
      exact ⟨.inl key, fun _ _ _ _ => key⟩
    · rw [if_neg hij]
      refine ⟨ih1, fun q hq hql hqi => ?_⟩
      by_cases e2 : q = j
      · subst e2; exact absurd hqi.symm hij
      · exact ih2 q (by omega) hql hqi

theorem fill_put {l : List K} {r : Rl} (hf : fitsE l r = 0) (hs : ∀ c ∈ l, c.tw) : fillE (blanks l) (hoL l) (txL l) = 0 ∧ fillW (blanks l) (hoL l) (txL l) = l := by
  obtain ⟨-, h1, h2⟩ := fitsW_zero hf
  have hE : fillE (blanks l) (hoL l) (txL l) = 0 := by
    refine fillE_ok (by rw [hoL_len, txL_len]) (fun j hj => ?_) (fun j hj => ?_)
    · unfold holeBad
      rw [dif_pos hj, hoL_get hj, blanks_len]
      obtain ⟨-, hx, -⟩ := larges_mem l.length _ (List.getElem_mem (show j < (larges l l.length).length by rwa [hoL_len] at hj))
      rw [if_neg (by simp only; omega)]
    · unfold sizeBad
      have hj2 : j < (txL l).length := by rw [txL_len]; rwa [hoL_len] at hj
      rw [dif_pos ⟨hj, hj2⟩, hoL_get hj, txL_get hj2, if_neg (by simp)]
  refine ⟨hE, ?_⟩
  unfold fillW
  rw [if_pos hE]
  apply List.ext_getElem
  · rw [fillUp_len, blanks_len]
  · intro i hi1 hi2
    obtain ⟨f1, f2⟩ := fill_form hf hs _ (Nat.le_refl _) i hi2 hi1
    cases hq : largeB l[i].k l[i].v.ty l[i].v.s with
    | true =>
      obtain ⟨x, hx, hxi⟩ := larges_has l.length i hi2 hi2 hq
      obtain ⟨q, hql, rfl⟩ := List.getElem_of_mem hx
      exact f2 q (by rw [hoL_len]; exact hql) hql hxi
    | false =>
      have hb := blank_small (h2 i hi2 (by omega)) (hs _ (List.getElem_mem hi2)).k hq
      rcases f1 with h | h
      · exact h
      · rw [h, hb]

end Go.Proofs.Ytdbepkfblfhlhaa

/-
The laws' Own of a relation and of a row, once more: what they give lies in blocks of their own.
-/
namespace Go.Proofs.Ytdbepkfblfhlhaa
open Go.RowKit

/-- A slice whose block lies from N on, below M. -/
def Fr (W : World) (N M : Nat) (v : Value) (k : Nat) (xss : List (List Value)) : Prop := Sl W v k xss ∧ ∀ b o len cap, v = .slice (some ⟨b, o, none⟩) len cap → N ≤ b ∧ (xss ≠ [] → b < M)
section
variable {W W' : World} {N M k : Nat} {v : Value} {xss : List (List Value)}
theorem Fr.ext (h : Fr W N M v k xss) (he : Ext W W') : Fr W' N M v k xss := ⟨h.1.ext he, h.2⟩
theorem Fr.drew (h : Fr W N M v k xss) : Fr W.drew N M v k xss := h.ext (Ext.refl W).drew
theorem Fr.alloc (h : Fr W N M v k xss) (o : Obj) : Fr (W.alloc o) N M v k xss := h.ext ((Ext.refl W).alloc o)
theorem Fr.set (h : Fr W N M v k xss) {p : Addr} (hp : p.block < N ∨ M ≤ p.block) (u : Value) : Fr (W.setCell p u) N M v k xss := by
  obtain ⟨h1, h2⟩ := h
  refine ⟨?_, h2⟩
  obtain ⟨a, cap, rfl, h⟩ := h1
  refine ⟨a, cap, rfl, ?_⟩
  rcases h with h0 | ⟨b, o, rfl, hb, hx⟩
  · exact .inl h0
  · by_cases h0 : xss = []
    · exact .inl h0
    · have h3 := h2 b o _ _ rfl
      have h4 := h3.2 h0
      have h5 := h3.1
      refine .inr ⟨b, o, rfl, by simpa using hb, fun i hi j hj => ?_⟩
      rw [← hx i hi j hj]
      exact World.cell?_setCell_far _ _ _ _ (by show p.block ≠ b; omega)
theorem Fr.five {X : Nat} {v0 v1 v2 v3 v4 : Value} (h : Fr W N M v k xss) (hp : X < N ∨ M ≤ X) :
    Fr (((((W.setCell ⟨X, 0, none⟩ v0).setCell ⟨X, 1, none⟩ v1).setCell ⟨X, 2, none⟩ v2).setCell ⟨X, 3, none⟩ v3).setCell ⟨X, 4, none⟩ v4) N M v k xss := ((((h.set hp _).set hp _).set hp _).set hp _).set hp _
theorem Fr.sl (h : Fr W N M v k xss) : Sl W v k xss := h.1
theorem Fr.new {a : Option Addr} {n cap : Nat} (h : Sl W (.slice a n cap) k xss) (h2 : ∀ b o, a = some ⟨b, o, none⟩ → N ≤ b) : Fr W N W.heap.size (.slice a n cap) k xss := by
  refine ⟨h, fun b o len c e => ?_⟩
  simp only [Value.slice.injEq] at e
  obtain ⟨rfl, rfl, rfl⟩ := e
  refine ⟨h2 b o rfl, fun h0 => ?_⟩
  obtain ⟨a, c, hv, h⟩ := h
  simp only [Value.slice.injEq] at hv
  obtain ⟨rfl, -, -⟩ := hv
  rcases h with rfl | ⟨b', o', e, hb, -⟩
  · exact absurd rfl h0
  · simp only [Option.some.injEq, Addr.mk.injEq] at e
    rw [e.1]; exact hb
end

set_option maxRecDepth 100000 in set_option maxHeartbeats 1600000 in
theorem own8_new (oid ver : Int) (nm : ByteArray) (id : Int) (cols : List Col) (a : Option Addr) (cap : Nat) (w : World) (hl : Sl w (.slice a cols.length cap) 3 (cols.map Col.cells)) (hlen : cols.length ≤ 1000) :
    Calls Try.prog 17 #[.agg #[.int .u32 oid, .int .u32 ver, .string nm, .int .u8 id, .slice a cols.length cap]] w fun e w' => ∃ a' cap', e = .returned (.agg #[.int .u32 oid, .int .u32 ver, .string nm, .int .u8 id, .slice a' cols.length cap']) ∧ cols.length ≤ cap' ∧ Sl w' (.slice a' cols.length cap') 3 (cols.map Col.cells) ∧ (∀ b o, a' = some ⟨b, o, none⟩ → w.heap.size ≤ b) ∧ Ext w w' := by
  have HL := Hid.mk' hl
  clear hl
  obtain ⟨i0, hi, hz0, hz1, hz2⟩ := info_parts Try.infoCol
  go_enter Try.func17, Try.ntmps17
  go_wp2
  go_loopw [4] (fun i wr => ∃ (k : Nat) (v : Value), k ≤ cols.length ∧ i = .int .i64 k ∧ Hid (wr.ownsRow (w.heap.size + 3) 126 3 v k ((cols.map Col.cells).take k).flatten) ∧ Blk wr w.heap.size #[.int .u32 oid, .int .u32 ver, .string nm, .int .u8 id, .slice a cols.length cap] 27 ∧ Blk wr (w.heap.size + 1) #[.int .u32 0, .int .u32 0, .string ⟨#[]⟩, .int .u8 0, .slice none 0 0] 42 ∧ Blk wr (w.heap.size + 1 + 1) #[.int .u32 oid, .int .u32 ver, .string nm, .int .u8 id, v] 42 ∧ Hid (Ext w wr)) (fun i _ => cols.length - (intOf i).toNat)
  case atStart => exact ⟨0, .slice none 0 0, Nat.zero_le _, rfl, World.ownsRow_nil _ _ _ _, ((Blk.new _ _ _).alloc _).alloc _, (Blk.new' _ _ (by simp)).alloc _, Blk.new' _ _ (by simp), Hid.mk' (by (repeat (with_reducible (first | exact Ext.refl _ | assumption | exact held_left (by assumption) | apply Ext.drewN | apply Ext.drew | apply Ext.alloc | (refine Ext.setCell ?_ (by first | (simp; done) | (simp; omega) | omega) _) | (refine Ext.trans ?_ (by assumption)) | (refine Ext.trans ?_ (held_left (by assumption)))))))⟩
  case round =>
    obtain ⟨k, v, hk, rfl, hown, hB0, hB1, hB2, hE⟩ := hrel
    by_cases hlt : k < cols.length
    · obtain ⟨b, o, rfl, hb, hc⟩ := HL.out.at_ (i := k) (by simpa using hlt)
      obtain ⟨f0, f1, f2⟩ := Col.at_ hlt hc hb hE.out
      have hT := Hid.mk' (flat_snoc (f := Col.cells) hlt)
      obtain ⟨c, hcc⟩ : ∃ c, c = cols[k] := ⟨_, rfl⟩
      rw [← hcc] at f0 f1 f2 hT
      have hbw : b < wr.heap.size := Nat.lt_of_lt_of_le hb hE.out.size
      have HC := Hid.mk' hcc
      clear hcc hc
      have g0 := hB0.cell
      have g2 := hB2.cell
      have z0 := hB0.lt
      have z1 := hB1.lt
      have z2 := hB2.lt
      have HB0 := Hid.mk' hB0
      have HB1 := Hid.mk' hB1
      have HB2 := Hid.mk' hB2
      clear hB0 hB1 hB2
      go_wp2
      refine wp_region_head 22 (fun w' => Ext (wr) w' ∧ (∀ b o, b < (wr).heap.size → w'.cell? ⟨b, o, none⟩ = (wr).cell? ⟨b, o, none⟩) ∧ (∀ b o, b < (wr).heap.size → w'.frozen? ⟨b, o, none⟩ = (wr).frozen? ⟨b, o, none⟩)) (by kernel_rfl) (by decide) ?_
      have hA0 : Hid ((fun w' => Ext (wr) w' ∧ (∀ b o, b < (wr).heap.size → w'.cell? ⟨b, o, none⟩ = (wr).cell? ⟨b, o, none⟩) ∧ (∀ b o, b < (wr).heap.size → w'.frozen? ⟨b, o, none⟩ = (wr).frozen? ⟨b, o, none⟩)) wr.drew) := held_of (by (repeat (with_reducible (first | exact Ext.refl _ | assumption | exact held_left (by assumption) | apply Ext.drewN | apply Ext.drew | apply Ext.alloc | (refine Ext.setCell ?_ (by first | (simp; done) | (simp; omega) | omega) _) | (refine Ext.trans ?_ (by assumption)) | (refine Ext.trans ?_ (held_left (by assumption)))))))
      (refine wpHd_take (i := 0) (v := ?_) rfl (by kernel_rfl) (by kernel_rfl) (by kernel_rfl) (fun _ _ _ h => h) (Or.inl ⟨by rfl, ?_⟩) hA0.out ?_; rotate_left 1; · (intro w' hS'; (obtain ⟨hEs', hcs', hfs'⟩ := hS'); go_simp; try with_reducible rfl))
      (refine wpHd_take (i := 1) (v := ?_) rfl (by kernel_rfl) (by kernel_rfl) (by kernel_rfl) (fun _ _ _ h => h) (Or.inl ⟨by rfl, ?_⟩) hA0.out ?_; rotate_left 1; · (intro w' hS'; (obtain ⟨hEs', hcs', hfs'⟩ := hS'); go_simp; try with_reducible rfl))
      (refine wpHd_take (i := 2) (v := ?_) rfl (by kernel_rfl) (by kernel_rfl) (by kernel_rfl) (fun _ _ _ h => h) (Or.inl ⟨by rfl, ?_⟩) hA0.out ?_; rotate_left 1; · (intro w' hS'; (obtain ⟨hEs', hcs', hfs'⟩ := hS'); go_simp; try with_reducible rfl))
      (refine wpHd_take (i := 3) (v := ?_) rfl (by kernel_rfl) (by kernel_rfl) (by kernel_rfl) (fun _ _ _ h => h) (Or.inl ⟨by rfl, ?_⟩) hA0.out ?_; rotate_left 1; · (intro w' hS'; (obtain ⟨hEs', hcs', hfs'⟩ := hS'); go_simp; try with_reducible rfl))
      (refine wpHd_take (i := 4) (v := ?_) rfl (by kernel_rfl) (by kernel_rfl) (by kernel_rfl) (fun _ _ _ h => h) (Or.inl ⟨by rfl, ?_⟩) hA0.out ?_; rotate_left 1; · (intro w' hS'; (obtain ⟨hEs', hcs', hfs'⟩ := hS'); go_simp; try with_reducible rfl))
      (refine wpHd_take (i := 5) (v := ?_) rfl (by kernel_rfl) (by kernel_rfl) (by kernel_rfl) (fun _ _ _ h => h) (Or.inl ⟨by rfl, ?_⟩) hA0.out ?_; rotate_left 1; · (intro w' hS'; (obtain ⟨hEs', hcs', hfs'⟩ := hS'); go_simp; try with_reducible rfl))
      (refine wpHd_take (i := 6) (v := ?_) rfl (by kernel_rfl) (by kernel_rfl) (by kernel_rfl) (fun _ _ _ h => h) (Or.inl ⟨by rfl, ?_⟩) hA0.out ?_; rotate_left 1; · (intro w' hS'; (obtain ⟨hEs', hcs', hfs'⟩ := hS'); go_simp; try with_reducible rfl))
      (refine wpHd_take (i := 7) (v := ?_) rfl (by kernel_rfl) (by kernel_rfl) (by kernel_rfl) (fun _ _ _ h => h) (Or.inl ⟨by rfl, ?_⟩) hA0.out ?_; rotate_left 1; · (intro w' hS'; (obtain ⟨hEs', hcs', hfs'⟩ := hS'); go_simp; try with_reducible rfl))
      (refine wpHd_take (i := 8) (v := ?_) rfl (by kernel_rfl) (by kernel_rfl) (by kernel_rfl) (fun _ _ _ h => h) (Or.inl ⟨by rfl, ?_⟩) hA0.out ?_; rotate_left 1; · (intro w' hS'; (obtain ⟨hEs', hcs', hfs'⟩ := hS'); go_simp; try with_reducible rfl))
      (refine wpHd_take (i := 9) (v := ?_) rfl (by kernel_rfl) (by kernel_rfl) (by kernel_rfl) (fun _ _ _ h => h) (Or.inl ⟨by rfl, ?_⟩) hA0.out ?_; rotate_left 1; · (intro w' hS'; (obtain ⟨hEs', hcs', hfs'⟩ := hS'); go_simp; try with_reducible rfl))
      (refine wpHd_take (i := 10) (v := ?_) rfl (by kernel_rfl) (by kernel_rfl) (by kernel_rfl) (fun _ _ _ h => h) (Or.inl ⟨by rfl, ?_⟩) hA0.out ?_; rotate_left 1; · (intro w' hS'; (obtain ⟨hEs', hcs', hfs'⟩ := hS'); go_simp; try with_reducible rfl))
      (refine wpHd_take (i := 11) (v := ?_) rfl (by kernel_rfl) (by kernel_rfl) (by kernel_rfl) (fun _ _ _ h => h) (Or.inl ⟨by rfl, ?_⟩) hA0.out ?_; rotate_left 1; · (intro w' hS'; (obtain ⟨hEs', hcs', hfs'⟩ := hS'); go_simp; try with_reducible rfl))
      (refine wpHd_take (i := 12) (v := ?_) rfl (by kernel_rfl) (by kernel_rfl) (by kernel_rfl) (fun _ _ _ h => h) (Or.inl ⟨by rfl, ?_⟩) hA0.out ?_; rotate_left 1; · (intro w' hS'; (obtain ⟨hEs', hcs', hfs'⟩ := hS'); go_simp; try with_reducible rfl))
      (refine wpHd_take (i := 13) (v := ?_) rfl (by kernel_rfl) (by kernel_rfl) (by kernel_rfl) (fun _ _ _ h => h) (Or.inl ⟨by rfl, ?_⟩) hA0.out ?_; rotate_left 1; · (intro w' hS'; (obtain ⟨hEs', hcs', hfs'⟩ := hS'); go_simp; try with_reducible rfl))
      (refine wpHd_take (i := 14) (v := ?_) rfl (by kernel_rfl) (by kernel_rfl) (by kernel_rfl) (fun _ _ _ h => h) (Or.inl ⟨by rfl, ?_⟩) hA0.out ?_; rotate_left 1; · (intro w' hS'; (obtain ⟨hEs', hcs', hfs'⟩ := hS'); go_simp; try with_reducible rfl))
      (refine wpHd_take (i := 15) (v := ?_) rfl (by kernel_rfl) (by kernel_rfl) (by kernel_rfl) (fun _ _ _ h => h) (Or.inl ⟨by rfl, ?_⟩) hA0.out ?_; rotate_left 1; · (intro w' hS'; (obtain ⟨hEs', hcs', hfs'⟩ := hS'); go_simp; try with_reducible rfl))
      (refine wpHd_take (i := 16) (v := ?_) rfl (by kernel_rfl) (by kernel_rfl) (by kernel_rfl) (fun _ _ _ h => h) (Or.inl ⟨by rfl, ?_⟩) hA0.out ?_; rotate_left 1; · (intro w' hS'; (obtain ⟨hEs', hcs', hfs'⟩ := hS'); go_simp; try with_reducible rfl))
      (refine wpHd_take (i := 17) (v := ?_) rfl (by kernel_rfl) (by kernel_rfl) (by kernel_rfl) (fun _ _ _ h => h) (Or.inl ⟨by rfl, ?_⟩) hA0.out ?_; rotate_left 1; · (intro w' hS'; (obtain ⟨hEs', hcs', hfs'⟩ := hS'); go_simp; try with_reducible rfl))
      (refine wpHd_take (i := 18) (v := ?_) rfl (by kernel_rfl) (by kernel_rfl) (by kernel_rfl) (fun _ _ _ h => h) (Or.inl ⟨by rfl, ?_⟩) hA0.out ?_; rotate_left 1; · (intro w' hS'; (obtain ⟨hEs', hcs', hfs'⟩ := hS'); go_simp; try with_reducible rfl))
      (refine wpHd_take (i := 19) (v := ?_) rfl (by kernel_rfl) (by kernel_rfl) (by kernel_rfl) (fun _ _ _ h => h) (Or.inl ⟨by rfl, ?_⟩) hA0.out ?_; rotate_left 1; · (intro w' hS'; (obtain ⟨hEs', hcs', hfs'⟩ := hS'); go_simp; try with_reducible rfl))
      (refine wpHd_take (i := 20) (v := ?_) rfl (by kernel_rfl) (by kernel_rfl) (by kernel_rfl) (fun _ _ _ h => h) (Or.inl ⟨by rfl, ?_⟩) hA0.out ?_; rotate_left 1; · (intro w' hS'; (obtain ⟨hEs', hcs', hfs'⟩ := hS'); go_simp; try with_reducible rfl))
      refine wpHd_one (i := 21) rfl rfl (by kernel_rfl) (fun K hK => ?_)
      go_simp
      refine hK.out _ _ (held_of (by (repeat (with_reducible (first | exact Ext.refl _ | assumption | exact held_left (by assumption) | apply Ext.drewN | apply Ext.drew | apply Ext.alloc | (refine Ext.setCell ?_ (by first | (simp; done) | (simp; omega) | omega) _) | (refine Ext.trans ?_ (by assumption)) | (refine Ext.trans ?_ (held_left (by assumption)))))))) (fun hA => ?_)
      clear hK K hA hA0
      refine wpHd_tail (by kernel_rfl) ?_
      simp only [List.drop_succ_cons, List.drop_zero]
      have hob := owns_ne hown.out (show w.heap.size + 1 + 1 < w.heap.size + 3 by omega)
      go_wp2_with (at_builtin; refine wpList_append_lies _ rfl _ _ 40 rfl (w.heap.size + 3) 126 i0 _ 3 24 Try.underlying40 hi hz0 hz1 hz2 rfl (by decide) _ _ _ rfl (owns_ext hown.out (by (repeat (with_reducible (first | exact Ext.refl _ | assumption | exact held_left (by assumption) | apply Ext.drewN | apply Ext.drew | apply Ext.alloc | (refine Ext.setCell ?_ (by first | (simp; done) | (simp; omega) | omega) _) | (refine Ext.trans ?_ (by assumption)) | (refine Ext.trans ?_ (held_left (by assumption)))))))) ⟨_, 0, none⟩ 1 1 c.cells rfl rfl ?c1 ?c2 (by decide) ?c3 ?c4 ?c5 _ rfl ?_)
      case c1 => exact cells_new _ #[.string c.nm, .int .u8 c.ty, .bool c.key] _
      case c2 => intro u hu; simp [Col.cells] at hu; rcases hu with rfl | rfl | rfl <;> rfl
      case c3 => unfold maxLen; omega
      case c4 => omega
      case c5 => simp; omega
      intro g' cap' w2 hown' hgrow _ _
      have hE1 : Ext wr (wr.drew.alloc (.cells #[.string c.nm, .int .u8 c.ty, .bool c.key] 126)) := by (repeat (with_reducible (first | exact Ext.refl _ | assumption | exact held_left (by assumption) | apply Ext.drewN | apply Ext.drew | apply Ext.alloc | (refine Ext.setCell ?_ (by first | (simp; done) | (simp; omega) | omega) _) | (refine Ext.trans ?_ (by assumption)) | (refine Ext.trans ?_ (held_left (by assumption))))))
      have HE2 : Hid (Ext w w2) := Hid.mk' (Below.grown (hE.out.trans hE1) hgrow (hE.out.trans hE1).size (fun g hg => by have := (hown.out.lt g hg).1; omega))
      have hsz2 := hgrow.size
      have HB0' := Hid.mk' ((HB0.out.ext hE1).grown hgrow (owns_ne hown.out (by omega)))
      have HB1' := Hid.mk' ((HB1.out.ext hE1).grown hgrow (owns_ne hown.out (by omega)))
      have hB2' := (HB2.out.ext hE1).grown hgrow hob
      have g2' := hB2'.cell
      have g2f := hB2'.frozen
      have z2' := hB2'.lt
      have HB2' := Hid.mk' hB2'
      have HO := Hid.mk' hown'
      clear hB2' hown' hgrow hE1 hob
      go_wp2
      go_roundw
      case rel => exact ⟨k + 1, _, by omega, by go_num, Hid.mk' (by rw [hT.out]; exact owns_set (p := ⟨w.heap.size + 1 + 1, 4, none⟩) HO.out (by show w.heap.size + 1 + 1 < _; omega) _), HB0'.out.other _ _ (by show w.heap.size ≠ w.heap.size + 1 + 1; omega), HB1'.out.other _ _ (by show w.heap.size + 1 ≠ w.heap.size + 1 + 1; omega), HB2'.out.set 4 _, Hid.mk' (HE2.out.setCell (by simp; omega) _)⟩
      case measure => simp [intOf]; omega
    · have hkk : k = cols.length := by omega
      subst hkk
      rw [show cols.length = (cols.map Col.cells).length by simp, List.take_length] at hown
      rw [List.length_map] at hown
      obtain ⟨a', c', rfl⟩ := owns_shape hown.out
      have g0 := hB0.cell
      have z0 := hB0.lt
      have g1 := hB1.cell
      have g1f := hB1.frozen
      have g2 := hB2.cell
      have z1 := hB1.lt
      have z2 := hB2.lt
      clear hB0 hB1 hB2
      go_wp2
      simp [bodyPost, results, Try.results17, go_sem, *]
      refine ⟨_, _, ⟨rfl, rfl⟩, owns_cap hown.out, Sl.of_owns (base := w.heap.size + 3) (e := 126) ?_ ?_, fun b o e => by have := (hown.out.lt b (by rw [e]; rfl)).1; omega, ?_⟩
      · have e : (cols.map Col.cells).length = cols.length := by simp
        rw [e]
        have hown := hown.out
        repeat (with_reducible (first | exact hown | refine owns_set ?_ (by show w.heap.size + 1 < _; omega) _))
      · intro xs hxs; simp at hxs; obtain ⟨a, _, rfl⟩ := hxs; rfl
      · have hE := hE.out
        (repeat (with_reducible (first | exact Ext.refl _ | assumption | exact held_left (by assumption) | apply Ext.drewN | apply Ext.drew | apply Ext.alloc | (refine Ext.setCell ?_ (by first | (simp; done) | (simp; omega) | omega) _) | (refine Ext.trans ?_ (by assumption)) | (refine Ext.trans ?_ (held_left (by assumption))))))

set_option maxRecDepth 100000 in set_option maxHeartbeats 1600000 in
theorem ownK_new (l : List K) (a : Option Addr) (cap : Nat) (w : World) (hl : Sl w (.slice a l.length cap) 6 (l.map K.rc)) (hlen : l.length ≤ 1000) :
    Calls Try.prog 15 #[.slice a l.length cap] w fun e w' => ∃ a' cap', e = .returned (.slice a' l.length cap') ∧ l.length ≤ cap' ∧ Sl w' (.slice a' l.length cap') 5 (l.map K.pc) ∧ (∀ b o, a' = some ⟨b, o, none⟩ → w.heap.size ≤ b) ∧ Ext w w' := by
  have HL := Hid.mk' hl
  clear hl
  obtain ⟨i0, hi, hz0, hz1, hz2⟩ := info_parts Try.infoCellP
  go_enter Try.func15, Try.ntmps15
  go_wp2
  go_loopw [3, 4] (fun v i wr => ∃ k : Nat, k ≤ l.length ∧ i = .int .i64 k ∧ Hid (wr.ownsRow w.heap.size 78 5 v k ((l.map K.pc).take k).flatten) ∧ Hid (Ext w wr)) (fun _ i _ => l.length - (intOf i).toNat)
  case atStart => exact ⟨0, Nat.zero_le _, rfl, World.ownsRow_nil _ _ _ _, Ext.refl _⟩
  case round =>
    obtain ⟨k, hk, rfl, hown, hE⟩ := hrel
    by_cases hlt : k < l.length
    · obtain ⟨b, o, rfl, hb, hx⟩ := HL.out.at_ (i := k) (by simpa using hlt)
      obtain ⟨f0, f1, f2, f3, f4, f5⟩ := K.rcAt hlt hx hb hE.out
      have hbw : b < wr.heap.size := Nat.lt_of_lt_of_le hb hE.out.size
      have HT := Hid.mk' (flat_snoc (f := K.pc) hlt)
      have HC := Hid.mk' (fun w => cown_any l[k].k l[k].v.ty l[k].v.n l[k].v.x l[k].v.y l[k].v.s w)
      simp only [Int.toNat_natCast] at HC
      obtain ⟨c, hc⟩ : ∃ c, c = l[k] := ⟨_, rfl⟩
      rw [← hc] at f0 f1 f2 f3 f4 f5 HT HC
      clear hc hx
      go_wp2_with (first
        | (go_at_call 56; refine (HC.out _).mono ?_; rintro e w1 ⟨rfl, hb1⟩; have HB1 := Hid.mk' hb1; have hz1' := hb1.size; clear hb1)
        | (at_builtin; refine wpList_append_own _ rfl _ _ 33 rfl w.heap.size 78 i0 _ 5 56 Try.underlying33 hi hz0 hz1 hz2 rfl (by decide) _ _ _ rfl ((owns_ext hown.out HB1.out).alloc _) ⟨_, 0, none⟩ 1 1 c.pc rfl rfl ?c1 ?c2 ?c3 ?c4 ?c5 ?_))
      case c1 => exact cells_new _ #[.int .u8 c.k, .int .u8 c.v.ty, .int .i64 c.v.n, .complex .f64 c.v.x c.v.y, .string c.v.s] _
      case c2 => intro u hu; simp [K.pc] at hu; rcases hu with rfl | rfl | rfl | rfl | rfl <;> rfl
      case c3 => unfold maxLen; omega
      case c4 => omega
      case c5 => have := (hE.out.trans HB1.out).size; simp; omega
      · intro v' w2 hown' hgrow _
        have HE2 := Hid.mk' (((hE.out.trans HB1.out).alloc _).grown ((owns_ext hown.out HB1.out).alloc _) hgrow)
        have HO2 := Hid.mk' hown'
        clear hown' hgrow
        go_wp2
        go_roundw
        case rel => exact ⟨k + 1, by omega, by go_num, Hid.mk' (by rw [HT.out]; exact HO2.out), HE2⟩
        case measure => simp [intOf]; omega
    · have hkk : k = l.length := by omega
      subst hkk
      rw [show l.length = (l.map K.pc).length by simp, List.take_length] at hown
      rw [List.length_map] at hown
      obtain ⟨a', c', rfl⟩ := owns_shape hown.out
      go_wp2
      go_ret
      refine ⟨a', c', rfl, owns_cap hown.out, Sl.of_owns (base := w.heap.size) (e := 78) ?_ ?_, fun b o e => (hown.out.lt b (by rw [e]; rfl)).1, hE.out⟩
      · have e : (l.map K.pc).length = l.length := by simp
        rw [e]; exact hown.out
      · intro xs hxs; simp at hxs; obtain ⟨a, _, rfl⟩ := hxs; rfl


theorem own8_fr (oid ver : Int) (nm : ByteArray) (id : Int) (cols : List Col) (a : Option Addr) (cap : Nat) (w : World) (hl : Sl w (.slice a cols.length cap) 3 (cols.map Col.cells)) (hlen : cols.length ≤ 1000) :
    Calls Try.prog 17 #[.agg #[.int .u32 oid, .int .u32 ver, .string nm, .int .u8 id, .slice a cols.length cap]] w fun e w' => ∃ a' cap', e = .returned (.agg #[.int .u32 oid, .int .u32 ver, .string nm, .int .u8 id, .slice a' cols.length cap']) ∧ cols.length ≤ cap' ∧ Fr w' w.heap.size w'.heap.size (.slice a' cols.length cap') 3 (cols.map Col.cells) ∧ Ext w w' := by
  refine (own8_new oid ver nm id cols a cap w hl hlen).mono fun e w' h => ?_
  obtain ⟨a', c', h1, h2, h3, h4, h5⟩ := h
  exact ⟨a', c', h1, h2, Fr.new h3 h4, h5⟩
theorem ownK_fr (l : List K) (a : Option Addr) (cap : Nat) (w : World) (hl : Sl w (.slice a l.length cap) 6 (l.map K.rc)) (hlen : l.length ≤ 1000) :
    Calls Try.prog 15 #[.slice a l.length cap] w fun e w' => ∃ a' cap', e = .returned (.slice a' l.length cap') ∧ l.length ≤ cap' ∧ Fr w' w.heap.size w'.heap.size (.slice a' l.length cap') 5 (l.map K.pc) ∧ Ext w w' := by
  refine (ownK_new l a cap w hl hlen).mono fun e w' h => ?_
  obtain ⟨a', c', h1, h2, h3, h4, h5⟩ := h
  exact ⟨a', c', h1, h2, Fr.new h3 h4, h5⟩

end Go.Proofs.Ytdbepkfblfhlhaa

/-
Does a law look at so much?
-/
namespace Go.Proofs.Ytdbepkfblfhlhaa
open Go.RowKit

def GreatK (l : List K) (cols : List Col) (nm : ByteArray) (w : World) (e : Ending) (w' : World) : Prop :=
  ∃ g : Bool, e = .returned (.bool g) ∧ (g = false → (∀ c ∈ l, c.v.s.size ≤ 3000) ∧ (∀ c ∈ cols, c.nm.size ≤ 60) ∧ l.length ≤ 20 ∧ cols.length ≤ 20 ∧ nm.size ≤ 60) ∧ Ext w w'

set_option maxRecDepth 100000 in set_option maxHeartbeats 4000000 in
theorem greatK_any (l : List K) (a : Option Addr) (cap : Nat) (oid ver : Int) (nm : ByteArray) (id : Int) (cols : List Col) (a2 : Option Addr) (cap2 : Nat) (w : World) (hl : Sl w (.slice a l.length cap) 6 (l.map K.rc)) (hl2 : Sl w (.slice a2 cols.length cap2) 3 (cols.map Col.cells))
    (hlen : l.length ≤ 9223372036854775807) (hlen2 : cols.length ≤ 9223372036854775807) (hs : ∀ c ∈ l, c.v.s.size ≤ 9223372036854775807) (hs2 : ∀ c ∈ cols, c.nm.size ≤ 9223372036854775807) (hnm : nm.size ≤ 9223372036854775807) :
    Calls Try.prog 14 #[.slice a l.length cap, .agg #[.int .u32 oid, .int .u32 ver, .string nm, .int .u8 id, .slice a2 cols.length cap2]] w (GreatK l cols nm w) := by
  have HL := Hid.mk' hl
  have HL2 := Hid.mk' hl2
  have HS := Hid.mk' hs
  have HS2 := Hid.mk' hs2
  clear hl hl2 hs hs2
  go_enter Try.func14, Try.ntmps14
  go_wp2
  go_loopw [5] (fun i wr => ∃ k : Nat, k ≤ l.length ∧ i = .int .i64 k ∧ Hid (∀ j (hj : j < l.length), j < k → l[j].v.s.size ≤ 3000) ∧ Hid (Ext (w.alloc (.cells #[.int .u32 oid, .int .u32 ver, .string nm, .int .u8 id, .slice a2 cols.length cap2] 27)) wr)) (fun i _ => l.length - (intOf i).toNat)
  case atStart => exact ⟨0, Nat.zero_le _, rfl, fun j _ h => by omega, Ext.refl _⟩
  case round =>
    obtain ⟨k, hk, rfl, hrel, hE⟩ := hrel
    have hEw : Hid (Ext w wr) := Hid.mk' (((Ext.refl w).alloc _).trans hE.out)
    by_cases hlt : k < l.length
    · obtain ⟨b, o, rfl, hb, hx⟩ := HL.out.at_ (i := k) (by simpa using hlt)
      obtain ⟨f0, f1, f2, f3, f4, f5⟩ := K.rcAt hlt hx hb hEw.out
      have hbw : b < wr.heap.size := Nat.lt_of_lt_of_le hb hEw.out.size
      have hsz := HS.out _ (List.getElem_mem hlt)
      clear hx
      by_cases h3 : 3000 < l[k].v.s.size
      · go_wp2
        go_ret
        exact ⟨true, rfl, (fun h => by cases h), hEw.out⟩
      · have h4 : l[k].v.s.size ≤ 3000 := by omega
        go_wp2
        go_roundw
        case rel => exact ⟨k + 1, by omega, by go_num, fun j hj hjk => by
          by_cases e : j = k
          · subst e; exact h4
          · exact hrel.out j hj (by omega), hE⟩
        case measure => simp [intOf]; omega
    · have hkk : k = l.length := by omega
      have H3 : Hid (∀ c ∈ l, c.v.s.size ≤ 3000) := Hid.mk' (fun c hc => by
        obtain ⟨i, hi, rfl⟩ := List.getElem_of_mem hc
        exact hrel.out i hi (by omega))
      subst hkk
      clear hrel
      have hBx := (Blk.new w #[.int .u32 oid, .int .u32 ver, .string nm, .int .u8 id, .slice a2 cols.length cap2] 27).ext hE.out
      have g0 := hBx.cell
      have z0 := hBx.lt
      clear hBx
      go_wp2
      obtain ⟨wo, rfl⟩ : ∃ wo : World, wo = wr := ⟨_, rfl⟩
      go_loopw [6] (fun i wr => ∃ k : Nat, k ≤ cols.length ∧ i = .int .i64 k ∧ Hid (∀ j (hj : j < cols.length), j < k → cols[j].nm.size ≤ 60) ∧ wr = wo) (fun i _ => cols.length - (intOf i).toNat)
      case atStart => exact ⟨0, Nat.zero_le _, rfl, fun j _ h => by omega, rfl⟩
      case round =>
        obtain ⟨k, hk, rfl, hrel, rfl⟩ := hrel
        by_cases hlt : k < cols.length
        · obtain ⟨b, o, rfl, hb, hx⟩ := HL2.out.at_ (i := k) (by simpa using hlt)
          obtain ⟨f0, f1, f2⟩ := Col.at_ hlt hx hb hEw.out
          have hbw : b < wr.heap.size := Nat.lt_of_lt_of_le hb hEw.out.size
          have hsz := HS2.out _ (List.getElem_mem hlt)
          clear hx
          by_cases h3 : 60 < cols[k].nm.size
          · go_wp2
            go_ret
            exact ⟨true, rfl, (fun h => by cases h), hEw.out⟩
          · have h4 : cols[k].nm.size ≤ 60 := by omega
            go_wp2
            go_roundw
            case rel => exact ⟨k + 1, by omega, by go_num, fun j hj hjk => by
              by_cases e : j = k
              · subst e; exact h4
              · exact hrel.out j hj (by omega), (by first | trivial | rfl)⟩
            case measure => simp [intOf]; omega
        · have hkk : k = cols.length := by omega
          have H4 : Hid (∀ c ∈ cols, c.nm.size ≤ 60) := Hid.mk' (fun c hc => by
            obtain ⟨i, hi, rfl⟩ := List.getElem_of_mem hc
            exact hrel.out i hi (by omega))
          subst hkk
          clear hrel
          by_cases c1 : 20 < l.length
          · go_wp2
            go_ret
            exact ⟨_, rfl, fun h => by simp at h; try omega, hEw.out⟩
          · have c1' : l.length ≤ 20 := by omega
            by_cases c2 : 20 < cols.length
            · go_wp2
              go_ret
              exact ⟨_, rfl, fun h => by simp at h; try omega, hEw.out⟩
            · have c2' : cols.length ≤ 20 := by omega
              go_wp2
              go_ret
              exact ⟨_, rfl, fun h => ⟨H3.out, H4.out, c1', c2', by simp at h; omega⟩, hEw.out⟩

end Go.Proofs.Ytdbepkfblfhlhaa

/-
Whether two rows are alike: the program's answer, the reference's.
-/
namespace Go.Proofs.Ytdbepkfblfhlhaa
open Go.RowKit

theorem alikeK {c d : K} : alikeB c.k c.v.ty c.v.n c.v.x c.v.y c.v.s d.k d.v.ty d.v.n d.v.x d.v.y d.v.s = true ↔ c = d := by
  unfold alikeB
  rw [decide_eq_true_iff]
  constructor
  · obtain ⟨k, ty, n, x, y, s⟩ := c
    obtain ⟨k', ty', n', x', y', s'⟩ := d
    rintro ⟨rfl, rfl, rfl, rfl, rfl, rfl⟩
    rfl
  · rintro rfl; simp
/-- Are two rows alike? -/
noncomputable def rowB (l m : List K) : Bool := @decide (l = m) (Classical.propDecidable _)
theorem rowB_true {l m : List K} : rowB l m = true ↔ l = m := by unfold rowB; simp
theorem rowB_false {l m : List K} : rowB l m = false ↔ l ≠ m := by unfold rowB; simp
theorem rowB_at {l m : List K} {k : Nat} (h1 : k < l.length) (h2 : k < m.length) (h : l[k] ≠ m[k]) : rowB l m = false := rowB_false.2 (by rintro rfl; exact h rfl)
theorem rowB_len {l m : List K} (h : l.length ≠ m.length) : rowB l m = false := rowB_false.2 (by rintro rfl; exact h rfl)
theorem rowB_all {l m : List K} (h0 : l.length = m.length) (h : ∀ i (h1 : i < l.length) (h2 : i < m.length), l[i] = m[i]) : rowB l m = true := rowB_true.2 (List.ext_getElem h0 h)

set_option maxRecDepth 100000 in set_option maxHeartbeats 1600000 in
theorem neq_cell (k ty n : Int) (x y : Nat) (s : ByteArray) (k' ty' n' : Int) (x' y' : Nat) (s' : ByteArray) (w : World) :
    (binOp .neq 121 (.agg #[.int .u8 k, .int .u8 ty, .int .i64 n, .int .u64 x, .int .u64 y, .string s]) (.agg #[.int .u8 k', .int .u8 ty', .int .i64 n', .int .u64 x', .int .u64 y', .string s'])).run Try.prog w = .ok (.bool (!alikeB k ty n x y s k' ty' n' x' y' s')) w := by
  by_cases h0 : k = k' <;> by_cases h1 : ty = ty' <;> by_cases h2 : n = n' <;> by_cases h3 : x = x' <;> by_cases h4 : y = y' <;> by_cases h5 : s = s' <;> simp [go_sem, alikeB, h0, h1, h2, h3, h4, h5]
  all_goals first
    | (intro h; exact absurd (toList_inj' h) h5)
    | omega
    | (intros; omega)
    | (intros; intro h; exact absurd (toList_inj' h) h5)

set_option maxRecDepth 100000 in set_option maxHeartbeats 2000000 in
theorem eqf_any (l m : List K) (a b : Option Addr) (ca cb : Nat) (w : World) (hl : Sl w (.slice a l.length ca) 5 (l.map K.pc)) (hm : Sl w (.slice b m.length cb) 5 (m.map K.pc)) (hlen : l.length ≤ 1000) (_hlen2 : m.length ≤ 1000) :
    Calls Try.prog 72 #[.slice a l.length ca, .slice b m.length cb, .func (.func 37) #[] #[]] w fun e w' => e = .returned (.bool (rowB l m)) ∧ Ext w w' := by
  have HL := Hid.mk' hl
  have HM := Hid.mk' hm
  clear hl hm
  by_cases hn : l.length = m.length
  case neg =>
    have hn' : (((l.length : Nat) : Int) != ((m.length : Nat) : Int)) = true := by simp; omega
    have HR := Hid.mk' (rowB_len hn)
    clear hn
    go_enter Try.func72, Try.ntmps72
    go_wp2
    go_ret
    exact ⟨ret_bool HR.out.symm, by (repeat (with_reducible (first | exact Ext.refl _ | assumption | exact held_left (by assumption) | apply Ext.drewN | apply Ext.drew | apply Ext.alloc | (refine Ext.setCell ?_ (by first | (simp; done) | (simp; omega) | omega) _) | (refine Ext.trans ?_ (by assumption)) | (refine Ext.trans ?_ (held_left (by assumption))))))⟩
  have hn' : (((l.length : Nat) : Int) != ((m.length : Nat) : Int)) = false := by simp; omega
  have HN := Hid.mk' hn
  clear hn
  go_enter Try.func72, Try.ntmps72
  go_wp2
  go_loopw [17] (fun i wr => ∃ k : Nat, k ≤ l.length ∧ i = .int .i64 k ∧ Hid (∀ j (h1 : j < l.length) (h2 : j < m.length), j < k → l[j] = m[j]) ∧ Hid (Ext w wr)) (fun i _ => l.length - (intOf i).toNat)
  case atStart => exact ⟨0, Nat.zero_le _, rfl, fun j _ _ h => by omega, Ext.refl _⟩
  case round =>
    obtain ⟨k, hk, rfl, hrel, hE⟩ := hrel
    by_cases hlt : k < l.length
    · have hlt2 : k < m.length := by have := HN.out; omega
      obtain ⟨b1, o1, rfl, hb1, hx1⟩ := HL.out.at_ (i := k) (by simpa using hlt)
      obtain ⟨f0, f1, f2, f3, f4⟩ := K.pcAt hlt hx1 hb1 hE.out
      obtain ⟨b2, o2, rfl, hb2, hx2⟩ := HM.out.at_ (i := k) (by simpa using hlt2)
      obtain ⟨p0, p1, p2, p3, p4⟩ := K.pcAt hlt2 hx2 hb2 hE.out
      have hbw : b1 < wr.heap.size := Nat.lt_of_lt_of_le hb1 hE.out.size
      have hbw2 : b2 < wr.heap.size := Nat.lt_of_lt_of_le hb2 hE.out.size
      have hbx2 : b2 < wr.heap.size + 1 := by omega
      have HC := Hid.mk' (fun w => calike_any l[k].k l[k].v.ty l[k].v.n l[k].v.x l[k].v.y l[k].v.s m[k].k m[k].v.ty m[k].v.n m[k].v.x m[k].v.y m[k].v.s w)
      cases hA : alikeB l[k].k l[k].v.ty l[k].v.n l[k].v.x l[k].v.y l[k].v.s m[k].k m[k].v.ty m[k].v.n m[k].v.x m[k].v.y m[k].v.s with
      | true =>
        rw [hA] at HC
        have HA := Hid.mk' (alikeK.1 hA)
        clear hA hx1 hx2
        go_wp2_with (go_at_call 37; refine (HC.out _).mono ?_; rintro e w1 ⟨rfl, hb3⟩)
        go_roundw
        case rel => exact ⟨k + 1, by omega, by go_num, fun j h1 h2 hjk => by
          by_cases e : j = k
          · subst e; exact HA.out
          · exact hrel.out j h1 h2 (by omega), Hid.mk' (hE.out.trans (by (repeat (with_reducible (first | exact Ext.refl _ | assumption | exact held_left (by assumption) | apply Ext.drewN | apply Ext.drew | apply Ext.alloc | (refine Ext.setCell ?_ (by first | (simp; done) | (simp; omega) | omega) _) | (refine Ext.trans ?_ (by assumption)) | (refine Ext.trans ?_ (held_left (by assumption))))))))⟩
        case measure => simp [intOf]; omega
      | false =>
        rw [hA] at HC
        have HR := Hid.mk' (rowB_at hlt hlt2 (fun h => by rw [alikeK.2 h] at hA; cases hA))
        clear hA hx1 hx2
        go_wp2_with (go_at_call 37; refine (HC.out _).mono ?_; rintro e w1 ⟨rfl, hb3⟩)
        go_ret
        exact ⟨ret_bool HR.out.symm, hE.out.trans (by (repeat (with_reducible (first | exact Ext.refl _ | assumption | exact held_left (by assumption) | apply Ext.drewN | apply Ext.drew | apply Ext.alloc | (refine Ext.setCell ?_ (by first | (simp; done) | (simp; omega) | omega) _) | (refine Ext.trans ?_ (by assumption)) | (refine Ext.trans ?_ (held_left (by assumption)))))))⟩
    · have hkk : k = l.length := by omega
      have HR := Hid.mk' (rowB_all HN.out (fun i h1 h2 => hrel.out i h1 h2 (by omega)))
      subst hkk
      go_wp2
      go_ret
      exact ⟨ret_bool HR.out.symm, hE.out⟩

set_option maxRecDepth 20000 in set_option maxHeartbeats 400000 in
theorem alike_any (l m : List K) (a b : Option Addr) (ca cb : Nat) (w : World) (hl : Sl w (.slice a l.length ca) 5 (l.map K.pc)) (hm : Sl w (.slice b m.length cb) 5 (m.map K.pc)) (hlen : l.length ≤ 1000) (hlen2 : m.length ≤ 1000) :
    Calls Try.prog 32 #[.slice a l.length ca, .slice b m.length cb] w fun e w' => e = .returned (.bool (rowB l m)) ∧ Ext w w' := by
  have HI := Hid.mk' (eqf_any l m a b ca cb w hl hm hlen hlen2)
  clear hl hm
  go_enter Try.func32, Try.ntmps32
  go_wp2_with (go_at_call 72; refine HI.out.mono ?_; rintro e w1 ⟨rfl, hb1⟩)
  go_ret
  exact ⟨rfl, hb1⟩

set_option maxRecDepth 100000 in set_option maxHeartbeats 2000000 in
theorem rsame_any (l m : List K) (a b : Option Addr) (ca cb : Nat) (w : World) (hl : Sl w (.slice a l.length ca) 6 (l.map K.rc)) (hm : Sl w (.slice b m.length cb) 6 (m.map K.rc)) (hlen : l.length ≤ 1000) (_hlen2 : m.length ≤ 1000) :
    Calls Try.prog 23 #[.slice a l.length ca, .slice b m.length cb] w fun e w' => e = .returned (.bool (rowB l m)) ∧ Ext w w' := by
  have HL := Hid.mk' hl
  have HM := Hid.mk' hm
  clear hl hm
  by_cases hn : l.length = m.length
  case neg =>
    have hn' : (((l.length : Nat) : Int) != ((m.length : Nat) : Int)) = true := by simp; omega
    have HR := Hid.mk' (rowB_len hn)
    clear hn
    go_enter Try.func23, Try.ntmps23
    go_wp2
    go_ret
    exact ⟨ret_bool HR.out.symm, by (repeat (with_reducible (first | exact Ext.refl _ | assumption | exact held_left (by assumption) | apply Ext.drewN | apply Ext.drew | apply Ext.alloc | (refine Ext.setCell ?_ (by first | (simp; done) | (simp; omega) | omega) _) | (refine Ext.trans ?_ (by assumption)) | (refine Ext.trans ?_ (held_left (by assumption))))))⟩
  have hn' : (((l.length : Nat) : Int) != ((m.length : Nat) : Int)) = false := by simp; omega
  have HN := Hid.mk' hn
  clear hn
  go_enter Try.func23, Try.ntmps23
  go_wp2
  go_loopw [5] (fun i wr => ∃ k : Nat, k ≤ l.length ∧ i = .int .i64 k ∧ Hid (∀ j (h1 : j < l.length) (h2 : j < m.length), j < k → l[j] = m[j]) ∧ Hid (Ext w wr)) (fun i _ => l.length - (intOf i).toNat)
  case atStart => exact ⟨0, Nat.zero_le _, rfl, fun j _ _ h => by omega, Ext.refl _⟩
  case round =>
    obtain ⟨k, hk, rfl, hrel, hE⟩ := hrel
    by_cases hlt : k < l.length
    · have hlt2 : k < m.length := by have := HN.out; omega
      obtain ⟨b1, o1, rfl, hb1, hx1⟩ := HL.out.at_ (i := k) (by simpa using hlt)
      obtain ⟨f0, f1, f2, f3, f4, f5⟩ := K.rcAt hlt hx1 hb1 hE.out
      obtain ⟨b2, o2, rfl, hb2, hx2⟩ := HM.out.at_ (i := k) (by simpa using hlt2)
      obtain ⟨p0, p1, p2, p3, p4, p5⟩ := K.rcAt hlt2 hx2 hb2 hE.out
      have hbw : b1 < wr.heap.size := Nat.lt_of_lt_of_le hb1 hE.out.size
      have hbw2 : b2 < wr.heap.size := Nat.lt_of_lt_of_le hb2 hE.out.size
      have hNq := fun w => neq_cell l[k].k l[k].v.ty l[k].v.n l[k].v.x l[k].v.y l[k].v.s m[k].k m[k].v.ty m[k].v.n m[k].v.x m[k].v.y m[k].v.s w
      cases hA : alikeB l[k].k l[k].v.ty l[k].v.n l[k].v.x l[k].v.y l[k].v.s m[k].k m[k].v.ty m[k].v.n m[k].v.x m[k].v.y m[k].v.s with
      | true =>
        rw [hA] at hNq
        have HA := Hid.mk' (alikeK.1 hA)
        clear hA hx1 hx2
        go_wp2
        go_region_held3 (fun w' => Ext (wr) w' ∧ (∀ b o, b < (wr).heap.size → w'.cell? ⟨b, o, none⟩ = (wr).cell? ⟨b, o, none⟩) ∧ (∀ b o, b < (wr).heap.size → w'.frozen? ⟨b, o, none⟩ = (wr).frozen? ⟨b, o, none⟩)) ((exact held_of (by (repeat (with_reducible (first | exact Ext.refl _ | assumption | exact held_left (by assumption) | apply Ext.drewN | apply Ext.drew | apply Ext.alloc | (refine Ext.setCell ?_ (by first | (simp; done) | (simp; omega) | omega) _) | (refine Ext.trans ?_ (by assumption)) | (refine Ext.trans ?_ (held_left (by assumption))))))))) (fail)
        go_wp2
        go_roundw
        case rel => exact ⟨k + 1, by omega, by go_num, fun j h1 h2 hjk => by
          by_cases e : j = k
          · subst e; exact HA.out
          · exact hrel.out j h1 h2 (by omega), Hid.mk' (hE.out.trans (by (repeat (with_reducible (first | exact Ext.refl _ | assumption | exact held_left (by assumption) | apply Ext.drewN | apply Ext.drew | apply Ext.alloc | (refine Ext.setCell ?_ (by first | (simp; done) | (simp; omega) | omega) _) | (refine Ext.trans ?_ (by assumption)) | (refine Ext.trans ?_ (held_left (by assumption))))))))⟩
        case measure => simp [intOf]; omega
      | false =>
        rw [hA] at hNq
        have HR := Hid.mk' (rowB_at hlt hlt2 (fun h => by rw [alikeK.2 h] at hA; cases hA))
        clear hA hx1 hx2
        go_wp2
        go_region_held3 (fun w' => Ext (wr) w' ∧ (∀ b o, b < (wr).heap.size → w'.cell? ⟨b, o, none⟩ = (wr).cell? ⟨b, o, none⟩) ∧ (∀ b o, b < (wr).heap.size → w'.frozen? ⟨b, o, none⟩ = (wr).frozen? ⟨b, o, none⟩)) ((exact held_of (by (repeat (with_reducible (first | exact Ext.refl _ | assumption | exact held_left (by assumption) | apply Ext.drewN | apply Ext.drew | apply Ext.alloc | (refine Ext.setCell ?_ (by first | (simp; done) | (simp; omega) | omega) _) | (refine Ext.trans ?_ (by assumption)) | (refine Ext.trans ?_ (held_left (by assumption))))))))) (fail)
        go_wp2
        go_ret
        exact ⟨ret_bool HR.out.symm, hE.out.trans (by (repeat (with_reducible (first | exact Ext.refl _ | assumption | exact held_left (by assumption) | apply Ext.drewN | apply Ext.drew | apply Ext.alloc | (refine Ext.setCell ?_ (by first | (simp; done) | (simp; omega) | omega) _) | (refine Ext.trans ?_ (by assumption)) | (refine Ext.trans ?_ (held_left (by assumption)))))))⟩
    · have hkk : k = l.length := by omega
      have HR := Hid.mk' (rowB_all HN.out (fun i h1 h2 => hrel.out i h1 h2 (by omega)))
      subst hkk
      go_wp2
      go_ret
      exact ⟨ret_bool HR.out.symm, hE.out⟩

end Go.Proofs.Ytdbepkfblfhlhaa

/-
The laws' Own of a row, as a row that can be written; the awake of the laws of rows.
-/
namespace Go.Proofs.Ytdbepkfblfhlhaa
open Go.RowKit

set_option maxRecDepth 100000 in set_option maxHeartbeats 1600000 in
theorem ownK_own (l : List K) (a : Option Addr) (cap : Nat) (w : World) (hl : Sl w (.slice a l.length cap) 6 (l.map K.rc)) (hlen : l.length ≤ 1000) :
    Calls Try.prog 15 #[.slice a l.length cap] w fun e w' => ∃ a' cap', e = .returned (.slice a' l.length cap') ∧ w'.ownsRow w.heap.size 78 5 (.slice a' l.length cap') l.length ((l.map K.pc).flatten) ∧ Ext w w' := by
  have HL := Hid.mk' hl
  clear hl
  obtain ⟨i0, hi, hz0, hz1, hz2⟩ := info_parts Try.infoCellP
  go_enter Try.func15, Try.ntmps15
  go_wp2
  go_loopw [3, 4] (fun v i wr => ∃ k : Nat, k ≤ l.length ∧ i = .int .i64 k ∧ Hid (wr.ownsRow w.heap.size 78 5 v k ((l.map K.pc).take k).flatten) ∧ Hid (Ext w wr)) (fun _ i _ => l.length - (intOf i).toNat)
  case atStart => exact ⟨0, Nat.zero_le _, rfl, World.ownsRow_nil _ _ _ _, Ext.refl _⟩
  case round =>
    obtain ⟨k, hk, rfl, hown, hE⟩ := hrel
    by_cases hlt : k < l.length
    · obtain ⟨b, o, rfl, hb, hx⟩ := HL.out.at_ (i := k) (by simpa using hlt)
      obtain ⟨f0, f1, f2, f3, f4, f5⟩ := K.rcAt hlt hx hb hE.out
      have hbw : b < wr.heap.size := Nat.lt_of_lt_of_le hb hE.out.size
      have HT := Hid.mk' (flat_snoc (f := K.pc) hlt)
      have HC := Hid.mk' (fun w => cown_any l[k].k l[k].v.ty l[k].v.n l[k].v.x l[k].v.y l[k].v.s w)
      simp only [Int.toNat_natCast] at HC
      obtain ⟨c, hc⟩ : ∃ c, c = l[k] := ⟨_, rfl⟩
      rw [← hc] at f0 f1 f2 f3 f4 f5 HT HC
      clear hc hx
      go_wp2_with (first
        | (go_at_call 56; refine (HC.out _).mono ?_; rintro e w1 ⟨rfl, hb1⟩; have HB1 := Hid.mk' hb1; have hz1' := hb1.size; clear hb1)
        | (at_builtin; refine wpList_append_own _ rfl _ _ 33 rfl w.heap.size 78 i0 _ 5 56 Try.underlying33 hi hz0 hz1 hz2 rfl (by decide) _ _ _ rfl ((owns_ext hown.out HB1.out).alloc _) ⟨_, 0, none⟩ 1 1 c.pc rfl rfl ?c1 ?c2 ?c3 ?c4 ?c5 ?_))
      case c1 => exact cells_new _ #[.int .u8 c.k, .int .u8 c.v.ty, .int .i64 c.v.n, .complex .f64 c.v.x c.v.y, .string c.v.s] _
      case c2 => intro u hu; simp [K.pc] at hu; rcases hu with rfl | rfl | rfl | rfl | rfl <;> rfl
      case c3 => unfold maxLen; omega
      case c4 => omega
      case c5 => have := (hE.out.trans HB1.out).size; simp; omega
      · intro v' w2 hown' hgrow _
        have HE2 := Hid.mk' (((hE.out.trans HB1.out).alloc _).grown ((owns_ext hown.out HB1.out).alloc _) hgrow)
        have HO2 := Hid.mk' hown'
        clear hown' hgrow
        go_wp2
        go_roundw
        case rel => exact ⟨k + 1, by omega, by go_num, Hid.mk' (by rw [HT.out]; exact HO2.out), HE2⟩
        case measure => simp [intOf]; omega
    · have hkk : k = l.length := by omega
      subst hkk
      rw [show l.length = (l.map K.pc).length by simp, List.take_length] at hown
      rw [List.length_map] at hown
      obtain ⟨a', c', rfl⟩ := owns_shape hown.out
      go_wp2
      go_ret
      exact ⟨a', c', rfl, hown.out, hE.out⟩

theorem ownK_at (l : List K) (a : Option Addr) (cap : Nat) (w : World) (hl : Sl w (.slice a l.length cap) 6 (l.map K.rc)) (hlen : l.length ≤ 1000) (h0 : l.length ≠ 0) :
    Calls Try.prog 15 #[.slice a l.length cap] w fun e w' => ∃ g cap', e = .returned (.slice (some ⟨g, 0, none⟩) l.length cap') ∧ l.length ≤ cap' ∧ w.heap.size ≤ g ∧ RowAt w' g l ∧ Ext w w' := by
  refine (ownK_own l a cap w hl hlen).mono ?_
  rintro e w' ⟨a', c', rfl, ho, hE⟩
  rcases ho.2 with ⟨-, h1⟩ | ⟨g, cap', cur, hv, hg, -, hn, -⟩
  · exact absurd h1 h0
  · simp only [Value.slice.injEq] at hv
    obtain ⟨rfl, -, rfl⟩ := hv
    exact ⟨g, _, rfl, hn, hg, RowAt.of_owns ho rfl, hE⟩

theorem RowAt.setV {W : World} {g : Nat} {ks : List K} (h : RowAt W g ks) {i : Nat} (hi : i < ks.length) (v : V) :
    RowAt ((((W.setCell ⟨g, i * 5 + 1, none⟩ (.int .u8 v.ty)).setCell ⟨g, i * 5 + 2, none⟩ (.int .i64 v.n)).setCell ⟨g, i * 5 + 3, none⟩ (.complex .f64 v.x v.y)).setCell ⟨g, i * 5 + 4, none⟩ (.string v.s)) g (ks.set i ⟨ks[i].k, v⟩) := by
  obtain ⟨cs, hb, hs, hx⟩ := h
  refine ⟨_, (((hb.set _ _).set _ _).set _ _).set _ _, by simpa using hs, fun q hq j hj => ?_⟩
  have hq2 : q < ks.length := by rwa [List.length_set] at hq
  simp only [Array.getElem?_setIfInBounds, Array.size_setIfInBounds]
  by_cases e : q = i
  · subst e
    rw [List.getElem_set_self]
    have h0 := hx q hq2 0 (by omega)
    have : j = 0 ∨ j = 1 ∨ j = 2 ∨ j = 3 ∨ j = 4 := by omega
    rcases this with rfl | rfl | rfl | rfl | rfl
    · rw [if_neg (by omega), if_neg (by omega), if_neg (by omega), if_neg (by omega), h0]; rfl
    all_goals
      simp [K.pc]
      (try omega)
  · rw [List.getElem_set_ne (Ne.symm e), ← hx q hq2 j hj]
    rw [if_neg (by omega), if_neg (by omega), if_neg (by omega), if_neg (by omega)]

def sAb10 : ByteArray := ⟨#[97, 98]⟩
def aw10Cols : List Col := [⟨⟨#[97]⟩, 1, false⟩, ⟨⟨#[98]⟩, 5, false⟩]
def aw10Row : List K := [K.zero, ⟨2, ⟨5, 0, 0, 0, sAb10⟩⟩]
def aw10Blank : List K := [K.zero, ⟨2, V.zero⟩]
def aw10Rel : Rl := ⟨1, 1, ⟨#[116]⟩, 0, aw10Cols⟩
theorem aw10_fits : fitsE aw10Row aw10Rel = 0 := by
  unfold fitsE
  rw [if_neg (by decide), if_neg (by decide)]
  refine firstE_zero fun i hi => ?_
  have h3 : i = 0 ∨ i = 1 := by simp [aw10Row] at hi; omega
  rcases h3 with rfl | rfl
  · rw [fitAt_lt (by decide) (by decide)]; decide
  · rw [fitAt_lt (by decide) (by decide)]
    exact right_mk (right_text_mk (.inl rfl) (by decide) (fun _ => by decide)) rfl
theorem aw10_enc : encE aw10Row aw10Rel 2 = 0 := by unfold encE; rw [if_pos (.inr rfl)]; exact aw10_fits
theorem aw10_put : rowPut aw10Row aw10Cols 2 = [1, 4, 97, 98] := by
  have h2 : putC 2 5 0 0 0 sAb10 5 2 = [4, 97, 98] := by
    have hs : sAb10.size = 2 := rfl
    rw [putC_small (small_mk fun _ => by rw [hs]; decide), if_pos rfl, if_pos (.inl rfl), hs, sevens_lt (by decide)]; rfl
  have e : rowPut aw10Row aw10Cols 2 = mapL [true, false] ++ ([] ++ (putC 2 5 0 0 0 sAb10 5 2 ++ [])) := rfl
  rw [e, h2]
  have : mapL [true, false] = [1] := by decide
  rw [this]; rfl

set_option maxRecDepth 100000 in set_option maxHeartbeats 1600000 in
theorem awake10_any (w : World) : Calls Try.prog 46 #[] w fun e w' => e = .returned (.bool true) ∧ Ext w w' := by
  have HSC : Hid (∀ W, Ext ((w.alloc (.cells #[.string ⟨#[97]⟩, .int .u8 1, .bool false, .string ⟨#[98]⟩, .int .u8 5, .bool false] 126)).alloc (.cells #[.int .u32 1, .int .u32 1, .string ⟨#[116]⟩, .int .u8 0, .slice (some ⟨w.heap.size, 0, none⟩) 2 2] 42)) W → Sl W (.slice (some ⟨w.heap.size, 0, none⟩) 2 2) 3 (aw10Cols.map Col.cells)) := Hid.mk' (fun W h => (Sl.new w #[.string ⟨#[97]⟩, .int .u8 1, .bool false, .string ⟨#[98]⟩, .int .u8 5, .bool false] 126 3 2 2 (aw10Cols.map Col.cells) rfl (by intro xs hxs; simp [aw10Cols] at hxs; rcases hxs with rfl | rfl <;> rfl) rfl).ext ((((Ext.refl _).alloc _)).trans h))
  have HSL : Hid (∀ W : World, Sl (W.alloc (.cells #[.int .u8 0, .int .u8 0, .int .i64 0, .int .u64 0, .int .u64 0, .string ⟨#[]⟩, .int .u8 2, .int .u8 0, .int .i64 0, .int .u64 0, .int .u64 0, .string ⟨#[]⟩] 121)) (.slice (some ⟨W.heap.size, 0, none⟩) 2 2) 6 (aw10Blank.map K.rc)) := Hid.mk' (fun (W : World) => Sl.new W #[.int .u8 0, .int .u8 0, .int .i64 0, .int .u64 0, .int .u64 0, .string ⟨#[]⟩, .int .u8 2, .int .u8 0, .int .i64 0, .int .u64 0, .int .u64 0, .string ⟨#[]⟩] 121 6 2 2 (aw10Blank.map K.rc) rfl (by intro xs hxs; simp [aw10Blank] at hxs; rcases hxs with rfl | rfl <;> rfl) rfl)
  have hz2 : ((w.alloc (.cells #[.string ⟨#[97]⟩, .int .u8 1, .bool false, .string ⟨#[98]⟩, .int .u8 5, .bool false] 126)).alloc (.cells #[.int .u32 1, .int .u32 1, .string ⟨#[116]⟩, .int .u8 0, .slice (some ⟨w.heap.size, 0, none⟩) 2 2] 42)).heap.size = w.heap.size + 1 + 1 := by simp
  have HOW := Hid.mk' (ownK_at aw10Blank (some ⟨((w.alloc (.cells #[.string ⟨#[97]⟩, .int .u8 1, .bool false, .string ⟨#[98]⟩, .int .u8 5, .bool false] 126)).alloc (.cells #[.int .u32 1, .int .u32 1, .string ⟨#[116]⟩, .int .u8 0, .slice (some ⟨w.heap.size, 0, none⟩) 2 2] 42)).heap.size, 0, none⟩) 2 (((w.alloc (.cells #[.string ⟨#[97]⟩, .int .u8 1, .bool false, .string ⟨#[98]⟩, .int .u8 5, .bool false] 126)).alloc (.cells #[.int .u32 1, .int .u32 1, .string ⟨#[116]⟩, .int .u8 0, .slice (some ⟨w.heap.size, 0, none⟩) 2 2] 42)).alloc (.cells #[.int .u8 0, .int .u8 0, .int .i64 0, .int .u64 0, .int .u64 0, .string ⟨#[]⟩, .int .u8 2, .int .u8 0, .int .i64 0, .int .u64 0, .int .u64 0, .string ⟨#[]⟩] 121)) (HSL.out _) (by decide) (by decide))
  rw [hz2] at HOW
  simp only [show aw10Blank.length = 2 from rfl] at HOW
  clear hz2
  have HEN := Hid.mk' (fun W a c (h : Ext ((w.alloc (.cells #[.string ⟨#[97]⟩, .int .u8 1, .bool false, .string ⟨#[98]⟩, .int .u8 5, .bool false] 126)).alloc (.cells #[.int .u32 1, .int .u32 1, .string ⟨#[116]⟩, .int .u8 0, .slice (some ⟨w.heap.size, 0, none⟩) 2 2] 42)) W) (hl : Sl W (.slice a 2 c) 5 (aw10Row.map K.pc)) => encode_any aw10Row a c 1 1 ⟨#[116]⟩ 0 aw10Cols (some ⟨w.heap.size, 0, none⟩) 2 2 W hl (HSC.out W h) (by decide) (by decide) (by decide) (by intro c hc; simp [aw10Row] at hc; rcases hc with rfl | rfl <;> exact ⟨⟨by decide, by decide⟩, by decide, by decide, by decide⟩) (by intro c hc; simp [aw10Cols] at hc; rcases hc with rfl | rfl <;> decide) (by decide))
  simp only [show aw10Row.length = 2 from rfl, show aw10Cols.length = 2 from rfl] at HEN
  have HBX : Hid (∀ W, Ext ((w.alloc (.cells #[.string ⟨#[97]⟩, .int .u8 1, .bool false, .string ⟨#[98]⟩, .int .u8 5, .bool false] 126)).alloc (.cells #[.int .u32 1, .int .u32 1, .string ⟨#[116]⟩, .int .u8 0, .slice (some ⟨w.heap.size, 0, none⟩) 2 2] 42)) W → ∀ o, W.cell? ⟨w.heap.size + 1, o, none⟩ = (#[.int .u32 1, .int .u32 1, .string ⟨#[116]⟩, .int .u8 0, .slice (some ⟨w.heap.size, 0, none⟩) 2 2] : Array Value)[o]?) := Hid.mk' (fun W h => ((Blk.new' (w := w.alloc (.cells #[.string ⟨#[97]⟩, .int .u8 1, .bool false, .string ⟨#[98]⟩, .int .u8 5, .bool false] 126)) #[.int .u32 1, .int .u32 1, .string ⟨#[116]⟩, .int .u8 0, .slice (some ⟨w.heap.size, 0, none⟩) 2 2] 42 (by simp)).ext h).cell)
  have t1 : (strOfNums [1, 4, 97, 98]).toList = [1, 4, 97, 98] := by rw [ByteArray.toList_eq]; rfl
  go_enter Try.func46, Try.ntmps46
  go_wp2_with (first
    | (go_at_call 15; refine HOW.out.mono ?_; rintro e w1 ⟨g, c1, rfl, hc1, hg, hr, hb1⟩; have HR := Hid.mk' hr; have hgl := hr.lt; have hgf := hr.frozen; obtain ⟨-, q1, q2, q3, q4⟩ := hr.cells (i := 1) (by decide); simp [aw10Blank, V.zero] at q1 q2 q3 q4; have hE1 : Ext ((w.alloc (.cells #[.string ⟨#[97]⟩, .int .u8 1, .bool false, .string ⟨#[98]⟩, .int .u8 5, .bool false] 126)).alloc (.cells #[.int .u32 1, .int .u32 1, .string ⟨#[116]⟩, .int .u8 0, .slice (some ⟨w.heap.size, 0, none⟩) 2 2] 42)) w1 := ((Ext.refl _).alloc _).trans hb1; have gx := HBX.out w1 hE1; have hgn : w.heap.size + 3 ≤ g := (by simpa using hg); have HE1 := Hid.mk' hE1; clear hr hg hb1 hE1)
    | (go_at_call 38; refine (HEN.out _ _ _ ((((HE1.out.setCell (by simp; omega) _).setCell (by simp; omega) _).setCell (by simp; omega) _).setCell (by simp; omega) _) ((RowAt.setV HR.out (i := 1) (by decide) ⟨5, 0, 0, 0, sAb10⟩).sl c1)).mono ?_; rintro e w2 ⟨v2, rfl, h1, -, hb2⟩; have ho2 := h1 aw10_enc; rw [show rowPut aw10Row (⟨1, 1, ⟨#[116]⟩, 0, aw10Cols⟩ : Rl).cols 2 = [1, 4, 97, 98] from aw10_put] at ho2; have hcv := conv_Sl ho2.sl; clear h1 ho2; have HE2 := Hid.mk' (((((HE1.out.setCell (p := ⟨g, 6, none⟩) (by simp; omega) _).setCell (p := ⟨g, 7, none⟩) (by simp; omega) _).setCell (p := ⟨g, 8, none⟩) (by simp; omega) _).setCell (p := ⟨g, 9, none⟩) (by simp; omega) _).trans hb2); clear hb2))
  go_ret
  exact ⟨rfl, (((Ext.refl w).alloc _).alloc _).trans HE2.out⟩

end Go.Proofs.Ytdbepkfblfhlhaa

/-
Holes and texts of the arguments, opened.
-/
namespace Go.Proofs.Ytdbepkfblfhlhaa
open Go.RowKit Go.ChangeShapes Go.WideShapes Go.ChangeAt

theorem Try.flatHoleG : flat Try.prog 4 97 = some [3, 3] := by kernel_rfl
theorem Try.cellsHoleG : Try.prog.cellsOf 97 = 2 := by kernel_rfl
theorem Try.flatStrG : flat Try.prog 4 9 = some [9] := by kernel_rfl
theorem Try.cellsStrG : Try.prog.cellsOf 9 = 1 := by kernel_rfl
section
variable {H : Type} {enc : TypeId × Value → H} {w : World} {base : Nat} {spare : Nat → Bool} {held : Bool} {r : Reach} {base2 : Nat} {v : Value} {d : DataW H} {ps : List MemPlace}
set_option maxRecDepth 20000 in
theorem openG_holes (h : DataW.Trod enc Try.prog w base spare held 85 v d ps) (hv : Value.okWide Try.prog w r base2 85 v) :
    ∃ (l : List Ho) (a : Option Addr) (cap : Nat), v = .slice a l.length cap ∧ Sl w (.slice a l.length cap) 2 (l.map Ho.cells) ∧ l.length ≤ 9223372036854775807 := by
  obtain ⟨l, hsl, hl, hx⟩ := openG_slice (f := Ho.cells) (p := fun _ => True) Try.underlying85 Try.cellsHoleG (by decide) (fun n xs x hx => by
    have hl := flat_open 4 _ _ n xs x Try.flatHoleG hx
    match xs, hl with
    | [c0, c1], ⟨l0, l1, _⟩ =>
      obtain ⟨c, rfl, _⟩ := l0.int Try.underlying3
      obtain ⟨m, rfl, _⟩ := l1.int Try.underlying3
      exact ⟨⟨c, m⟩, rfl, trivial⟩) h hv
  obtain ⟨a, cap, rfl, hshape⟩ := hsl.shape (n := l.length) (by simp)
  exact ⟨l, a, cap, rfl, hsl, hl⟩
set_option maxRecDepth 20000 in
theorem openG_texts (h : DataW.Trod enc Try.prog w base spare held 86 v d ps) (hv : Value.okWide Try.prog w r base2 86 v) :
    ∃ (l : List ByteArray) (a : Option Addr) (cap : Nat), v = .slice a l.length cap ∧ Sl w (.slice a l.length cap) 1 (l.map strC) ∧ l.length ≤ 9223372036854775807 ∧ ∀ t ∈ l, t.size ≤ 9223372036854775807 := by
  obtain ⟨l, hsl, hl, hx⟩ := openG_slice (f := strC) (p := fun s => s.size ≤ 9223372036854775807) Try.underlying86 Try.cellsStrG (by decide) (fun n xs x hx => by
    have hl := flat_open 4 _ _ n xs x Try.flatStrG hx
    match xs, hl with
    | [c0], ⟨l0, _⟩ =>
      obtain ⟨s, rfl, hs⟩ := l0.string Try.underlying9
      exact ⟨s, rfl, hs⟩) h hv
  obtain ⟨a, cap, rfl, hshape⟩ := hsl.shape (n := l.length) (by simp)
  exact ⟨l, a, cap, rfl, hsl, hl, hx⟩
set_option maxRecDepth 20000 in
theorem openG_rown (h : DataW.Trod enc Try.prog w base spare held 31 v d ps) (hv : Value.okWide Try.prog w r base2 31 v) :
    ∃ (l : List K) (a : Option Addr) (cap : Nat), v = .slice a l.length cap ∧ Sl w (.slice a l.length cap) 6 (l.map K.rc) ∧ l.length ≤ 9223372036854775807 ∧ (∀ c ∈ l, c.tw) ∧ (a = none → cap = 0) := by
  obtain ⟨l, a, cap, rfl, h1, h2, h3⟩ := openG_row h hv
  refine ⟨l, a, cap, rfl, h1, h2, h3, fun e => ?_⟩
  subst e
  have := openG_nil Try.underlying31 h hv _ _ rfl
  simp only [Value.slice.injEq] at this
  exact this.2.2
set_option maxRecDepth 20000 in
theorem openG_bytesn (h : DataW.Trod enc Try.prog w base spare held 80 v d ps) (hv : Value.okWide Try.prog w r base2 80 v) :
    ∃ (l : List Int) (a : Option Addr) (cap : Nat), v = .slice a l.length cap ∧ Sl w (.slice a l.length cap) 1 (l.map bcell) ∧ l.length ≤ 9223372036854775807 ∧ isB l ∧ (∀ len c, Value.slice a l.length cap = .slice none len c → Value.slice a l.length cap = .slice none 0 0) := by
  obtain ⟨l, h1, h2, h3⟩ := openG_bytes h hv
  obtain ⟨a, cap, rfl, hshape⟩ := h1.shape (n := l.length) (by simp)
  exact ⟨l, a, cap, rfl, h1, h2, h3, openG_nil Try.underlying80 h hv⟩
end

end Go.Proofs.Ytdbepkfblfhlhaa
