/-
Texts of pieces, in plain words.
-/
import Derived.Deep.RegionLaw
import Derived.Test.YtlobghojjfkchaaGreatP17
namespace Go.Proofs.YtlobghojjfkchaaGreat
open Go.RowKit

/-- How many pieces a text of n bytes has, how long the i-th one is. -/
def nOf (n : Nat) : Nat := (n + 255) / 256
def lenAt (n i : Nat) : Nat := min 256 (n - 256 * i)
def lens1 (n : Nat) : List Nat := (List.range (nOf n)).map (lenAt n)
theorem lenAt_pos {n i : Nat} (h : i < nOf n) : 0 < lenAt n i := by unfold nOf at h; unfold lenAt; omega
/-! What is split is joined; what is joined is split. -/
theorem pcs_range (s : ByteArray) : pcs s = (List.range (nPc s)).map (pc s) := by
  rw [← pcs_front, frontUp_map _ _ _ (Nat.le_refl _)]
theorem pc_size {s : ByteArray} {i : Nat} (h : i < nPc s) : (pc s i).size = lenAt s.size i := by
  unfold nPc at h
  unfold pc lenAt
  rw [ByteArray.size_extract]; omega
theorem pcs_sizes (s : ByteArray) : (pcs s).map ByteArray.size = lens1 s.size := by
  rw [pcs_range, List.map_map]
  unfold lens1
  rw [show nOf s.size = nPc s from rfl]
  refine List.map_congr_left (fun j hj => ?_)
  exact pc_size (List.mem_range.1 hj)
theorem splitL_cons (s : ByteArray) (ts : List ByteArray) : splitL (s :: ts) = pcs s ++ splitL ts := by simp [splitL]
theorem pcs_len (s : ByteArray) : (pcs s).length = nOf s.size := by rw [pcs_range]; simp [nPc, nOf]
/-- What matches so far. -/
def Mat (ps : List ByteArray) (l : List Nat) (p : Nat) : Prop := ∀ q, q < p → ∃ h : q < ps.length, l[q]? = some ps[q].size
theorem Mat.zero (ps : List ByteArray) (l : List Nat) : Mat ps l 0 := fun _ h => absurd h (Nat.not_lt_zero _)
theorem Mat.succ {ps : List ByteArray} {l : List Nat} {p : Nat} (h : Mat ps l p) (hp : p < ps.length) (he : l[p]? = some ps[p].size) : Mat ps l (p + 1) := fun q hq => by
  by_cases e : q = p
  · subst e; exact ⟨hp, he⟩
  · exact h q (by omega)
theorem Mat.all {ps : List ByteArray} {l : List Nat} (h : Mat ps l l.length) (hl : ps.length = l.length) : ps.map ByteArray.size = l := by
  apply List.ext_getElem
  · rw [List.length_map, hl]
  · intro i h1 h2
    obtain ⟨h3, h4⟩ := h i h2
    rw [List.getElem?_eq_getElem h2] at h4
    rw [List.getElem_map]
    exact (Option.some.inj h4).symm
theorem split_len : ∀ {ts : List ByteArray}, (∀ s ∈ ts, s.size ≤ 2048) → (splitL ts).length ≤ ts.length * 8
  | [], _ => Nat.le_refl _
  | s :: ts, h => by
    have ih := split_len (ts := ts) (fun x hx => h x (List.mem_cons_of_mem _ hx))
    have h1 := h s (by simp)
    rw [splitL_cons, List.length_append, pcs_len, List.length_cons]
    unfold nOf
    omega

end Go.Proofs.YtlobghojjfkchaaGreat

/-
The record of an event of a row.
-/
namespace Go.Proofs.YtlobghojjfkchaaGreat
open Go.RowKit

theorem texts_own (ls : List K) (a : Option Addr) (cap : Nat) (w : World) (hl : Sl w (.slice a ls.length cap) 5 (ls.map K.pc)) (hlen : ls.length ≤ 1000) :
    Calls Tryz.prog 45 #[.slice a ls.length cap] w fun e W' => ∃ a' cap', e = .returned (.slice a' (txL ls).length cap') ∧ W'.ownsRow w.heap.size 9 1 (.slice a' (txL ls).length cap') (txL ls).length ((txL ls).map strC).flatten ∧ Ext w W' := by
  refine (callsIn_wide.1 (texts_in 3 (Nat.le_refl _) ls a cap w hl hlen)).mono ?_
  rintro e W' ⟨v, rfl, ho, hE⟩
  obtain ⟨a', c', rfl⟩ := owns_shape ho
  rw [txL_len, txL_cells]
  exact ⟨a', c', rfl, ho, hE⟩
theorem run_app_sl {P : Program} {w : World} (t ty : TypeId) (base : Nat) (e : TypeId) (i : TypeInfo) (z : Value) (size bytes : Nat) (ht : P.underlying t = some (.slice e)) (hi : P.info? e = some i) (hz : i.zero = some z)
    (hsize : i.size = size) (hby : i.bytes = bytes) (hzs : z.cells.size = size) (hsz : 0 < size)
    (v : Value) (n : Nat) (xs : List Value) (hown : w.ownsRow base e size v n xs) (u : Value) (xss : List (List Value)) (hu : Sl w u size xss)
    (hk : ∀ ys ∈ xss, ys.length = size) (h1 : ∀ y ∈ xss.flatten, y.oneCell' = true) (h63 : n + xss.length ≤ maxLen) (hbytes : (n + xss.length) * bytes ≤ 140737488355328) (hbase : base ≤ w.heap.size) :
    ∃ v' w', (Builtin.append_ #[t, t] ty #[v, u]).run P w = .ok v' w' ∧ w'.ownsRow base e size v' (n + xss.length) (xs ++ xss.flatten) ∧ w.grownBy w' v.ownBlock ∧ (v'.ownBlock = v.ownBlock ∨ v'.ownBlock = some w.heap.size) := by
  obtain ⟨A, cap, rfl, hcs⟩ := hu
  rcases A with _ | ad
  · have h0 : xss = [] := by
      rcases hcs with h | ⟨b, o, e, _⟩
      · exact h
      · cases e
    subst h0
    exact ⟨v, w, run_app_nil base t ty e i size ht hi v n xs hown cap, by simpa using hown, ⟨rfl, rfl, rfl, Nat.le_refl _, fun _ _ _ => rfl⟩, .inl rfl⟩
  · have hn : ∀ j u, xss.flatten[j]? = some u → w.cell? (ad.add j) = some u := by
      rcases hcs with h | ⟨b, o', e', _, hc⟩
      · subst h; intro j u hj; simp at hj
      · cases e'
        exact news_sl hsz hk hc
    obtain ⟨v', w', hr, h2, h3, _, h5⟩ := run_append_own_at (P := P) w base t ty e i z size bytes ht hi hz hsize hby hzs hsz v n xs hown ad xss.length cap xss.flatten (flat_length size xss hk) hn h1 h63 hbytes hbase
    exact ⟨v', w', hr, h2, h3, h5⟩
theorem wp_app_sl {P : Program} {w : World} {o : Oper} {a : Act} {K : Act → World → Prop} {Q : Exit → Act → World → Prop} (s x : Operand) (t : TypeId)
    (ho : o.op = .call { callee := .builtin .append, args := #[s, x], argTypes := #[t, t] })
    (base : Nat) (e : TypeId) (i : TypeInfo) (z : Value) (size bytes : Nat) (ht : P.underlying t = some (.slice e)) (hi : P.info? e = some i) (hz : i.zero = some z)
    (hsize : i.size = size) (hby : i.bytes = bytes) (hzs : z.cells.size = size) (hsz : 0 < size)
    (v : Value) (n : Nat) (xs : List Value) (hs : a.eval s = v) (hown : w.ownsRow base e size v n xs) (u : Value) (xss : List (List Value)) (hx : a.eval x = u) (hu : Sl w u size xss)
    (hk : ∀ ys ∈ xss, ys.length = size) (h1 : ∀ y ∈ xss.flatten, y.oneCell' = true) (h63 : n + xss.length ≤ maxLen) (hbytes : (n + xss.length) * bytes ≤ 140737488355328) (hbase : base ≤ w.heap.size)
    (h : ∀ v' w', w'.ownsRow base e size v' (n + xss.length) (xs ++ xss.flatten) → w.grownBy w' v.ownBlock → (v'.ownBlock = v.ownBlock ∨ v'.ownBlock = some w.heap.size) → K (a.put o.dst v') w') : o.wp P a w K Q := by
  obtain ⟨v', w', hrun, h2, h3, h4⟩ := run_app_sl (P := P) t o.type base e i z size bytes ht hi hz hsize hby hzs hsz v n xs hown u xss hu hk h1 h63 hbytes hbase
  unfold Oper.wp execOp
  simp only [ho, resolve, invoke, builtin, Sem.run_bind, Sem.run_pure, Result.andThen_ok, List.map_toArray, List.map_cons, List.map_nil, hs, hx, hrun]
  exact h v' w' h2 h3 h4
theorem strC_one {xs : List ByteArray} : ∀ ys ∈ xs.map strC, ys.length = 1 := by intro ys hys; simp at hys; obtain ⟨_, _, rfl⟩ := hys; rfl
theorem strC_cells {xs : List ByteArray} : ∀ y ∈ (xs.map strC).flatten, y.oneCell' = true := by
  intro y hy
  simp only [List.mem_flatten, List.mem_map] at hy
  obtain ⟨l, ⟨s, -, rfl⟩, hy⟩ := hy
  simp [strC] at hy; subst hy; rfl
theorem owns_neT {w : World} {b1 b2 s1 s2 n1 n2 : Nat} {e1 e2 : TypeId} {v1 v2 : Value} {x1 x2 : List Value} (h1 : w.ownsRow b1 e1 s1 v1 n1 x1) (h2 : w.ownsRow b2 e2 s2 v2 n2 x2) (ht : e1 ≠ e2) : ∀ b, v1.ownBlock = some b → v2.ownBlock ≠ some b := by
  intro b hb1 hb2
  rcases h1.2 with ⟨rfl, -⟩ | ⟨g, cap, cur, rfl, -, hh, -⟩
  · cases hb1
  rcases h2.2 with ⟨rfl, -⟩ | ⟨g2, cap2, cur2, rfl, -, hh2, -⟩
  · cases hb2
  simp only [Value.ownBlock, Option.some.injEq] at hb1 hb2
  subst hb1; subst hb2
  rw [hh] at hh2
  simp only [Option.some.injEq, Obj.cells.injEq] at hh2
  exact ht hh2.2.1

def RecPost (x : Ev) (cols : List Col) (ver : Int) (w : World) (e : Ending) (w' : World) : Prop :=
  ∃ v' a' c', e = .returned (.tuple #[v', .slice a' (splitL (txL x.b ++ txL x.a)).length c', .int .i64 0]) ∧ OB w' w.heap.size v' (evPay x cols ver) ∧ Sl w' (.slice a' (splitL (txL x.b ++ txL x.a)).length c') 1 ((splitL (txL x.b ++ txL x.a)).map strC) ∧ Ext w w'

set_option maxRecDepth 100000 in set_option maxHeartbeats 8000000 in
theorem recputr_any (x : EL) (version : Int) (r : Rl) (N g : Nat) (c : Value) (ps : List RR) (w : World) (hx : x.at 5 K.pc w) (hs : x.e.small) (hwk : x.e.wk) (hc : Ca w N g c ps) (hz : evE x.e (ps.map RR.r) = 0) (hg : getR x.e.ao x.e.av (ps.map RR.r) = some r) (hok : EvOk x.e r)
    (hb : ∀ c ∈ x.e.b, c.tw) (ha : ∀ c ∈ x.e.a, c.tw) (hat : (⟨x.e.ao, x.e.av⟩ : Rf).u32) (hv : version = 1 ∨ version = 2) :
    Calls Tryz.prog 12 #[.pointer (some ⟨g, 0, none⟩), x.agg, .int .u8 version] w (RecPost x.e r.cols version w) := by
  have HRG := Hid.mk' (fun W (h : Ext w W) => eright_any x N g c ps W (hx.ext h) hs hwk (hc.ext h))
  rw [hz] at HRG
  have HGI := Hid.mk' (fun W (h : Ext w W) => cget_is (hc.ext h) hg)
  have hfac : r.nm.size ≤ 9223372036854775807 ∧ (∀ c ∈ r.cols, c.nm.size ≤ 9223372036854775807) ∧ r.cols.length ≤ 1000 := by
    obtain ⟨p, hp, hpr⟩ := List.mem_map.1 (getR_some hg).1
    have hwb := hc.wb p hp
    have hn16 := hc.n16 hp
    rw [hpr] at hwb hn16
    exact ⟨hwb.nm, hwb.cs, by omega⟩
  obtain ⟨hnm, hs2, hlen2⟩ := hfac
  have htx := tx_ok hok
  have hpc := split_len htx.1
  have HEL := Hid.mk' (evHead_len hat)
  have HOK := Hid.mk' hok
  have HXB := Hid.mk' hx.b
  have HXA := Hid.mk' hx.a
  obtain ⟨oid, ver, nm, id, cols⟩ := r
  obtain ⟨⟨kind, ao, av, old, b, a, rs, fl⟩, ba, bc, aa, ac, ra, rc⟩ := x
  unfold EL.agg at HRG ⊢
  have hnb := hs.b
  have hna := hs.a
  have hkd := hok.kind
  clear hx hs hwk hc hz hg
  simp only at HRG HGI HXB HXA hok hb ha hat hnm hs2 hlen2 htx hpc hnb hna hkd HEL HOK ⊢
  have HBT := Hid.mk' hb
  have HAT := Hid.mk' ha
  have HTX := Hid.mk' htx
  have HPC := Hid.mk' hpc
  have HSM := Hid.mk' (And.intro hnm hs2)
  have HFB : Hid (b = [] ∨ fitsE b (⟨oid, ver, nm, id, cols⟩ : Rl) = 0) := Hid.mk' (by
    by_cases h0 : old = 0
    · exact .inl (hok.b0 h0)
    · exact .inr (hok.b h0))
  have HFA : Hid (a = [] ∨ fitsE a (⟨oid, ver, nm, id, cols⟩ : Rl) = 0) := Hid.mk' (by
    by_cases h0 : kind = 6
    · exact .inl (hok.a6 h0)
    · exact .inr (hok.a h0))
  have HTB := Hid.mk' (fun W (h : Ext w W) => texts_own b ba bc W (HXB.out.ext h) hnb)
  have HTA := Hid.mk' (fun W (h : Ext w W) => texts_own a aa ac W (HXA.out.ext h) hna)
  have HPR := Hid.mk' (fun W => putRefI_any (.slice none 0 0) [] ⟨ao, av⟩ W ⟨none, 0, rfl, .inl rfl⟩ (by simp) hat)
  simp only [List.nil_append] at HPR
  have h7 : (kind == 7) = false := by simp; omega
  have h7' : (kind != 7) = true := by simp; omega
  have HV := Hid.mk' hv
  obtain ⟨i0, hi, hz0, hz1, hz2⟩ := info_parts Tryz.infoStrS
  obtain ⟨TT, hTT⟩ : ∃ T, T = txL b ++ txL a := ⟨_, rfl⟩
  have HTT := Hid.mk' hTT
  rw [← hTT] at HTX HPC
  clear hTT
  clear hok hb ha hat hkd htx hpc hnm hs2
  have hv1 : (version < 1) = False := by rcases hv with rfl | rfl <;> simp
  have hv2 : (2 < version) = False := by rcases hv with rfl | rfl <;> simp
  have hd1 : decide (version < 1) = false := by simp [hv1]
  have hd2 : decide (2 < version) = false := by simp [hv2]
  clear hv1 hv2 hv
  go_enter Tryz.func12, Tryz.ntmps12
  go_upto_region 14 with (go_at_call 37; refine (HRG.out _ (by exact eX)).mono ?_; rintro e w1 ⟨rfl, hb1⟩; have HE1 := Hid.mk' (((Ext.refl w).alloc _).trans hb1); have HV1 := Hid.mk' ((Blk.new w #[.int .u8 kind, .int .u32 ao, .int .u32 av, .int .u8 old, .slice ba b.length bc, .slice aa a.length ac, .slice ra rs.length rc, .int .u8 fl] 50).ext hb1); have gv := HV1.out.cell; have zv := HV1.out.lt; clear hb1)
  go_cut [13] (fun p wx => ∃ X qa qc, p = .pointer (some ⟨X, 0, none⟩) ∧ Hid (Blk wx X #[.int .u32 oid, .int .u32 ver, .string nm, .int .u8 id, .slice qa cols.length qc] 112) ∧ Hid (Sl wx (.slice qa cols.length qc) 3 (cols.map Col.cells)) ∧ Hid (cols.length ≤ qc) ∧ Hid (Ext w1 wx))
  case first =>
    go_wp2_with (go_at_call 44; refine (HGI.out _ HE1.out).mono ?_; rintro e w2 ⟨⟨qr, qa, qc⟩, rfl, hqr, hqo, hb2⟩; simp only at hqr; subst hqr; have HQO := Hid.mk' hqo; have HB2 := Hid.mk' hb2; clear hqo hb2 gv zv; (try simp only))
    go_meet
    case rel =>
      exact ⟨_, qa, qc, rfl, Hid.mk' (Blk.new _ _ _), Hid.mk' (HQO.out.in.ext ((Ext.refl _).alloc _)), Hid.mk' (owns_cap HQO.out), Hid.mk' (HB2.out.alloc _)⟩
  case rest =>
  obtain ⟨X, qa, qc, rfl, HBX, HQS, HQC, HEX⟩ := hcut
  have gv := (HV1.out.ext HEX.out).cell
  have zv := (HV1.out.ext HEX.out).lt
  have HEQ := Hid.mk' (HE1.out.trans HEX.out)
  have HV2 := Hid.mk' (HV1.out.ext HEX.out)
  obtain ⟨wq, hwq⟩ : ∃ x, x = wc := ⟨_, rfl⟩
  subst hwq
  clear HE1 HV1 HEX HGI HRG
  go_upto_if 65 with (go_at_call 43; refine (HPR.out _).mono ?_; rintro e w4 ⟨v4, rfl, ho4, hb4⟩; have HO4 := Hid.mk' ho4; have HB4 := Hid.mk' hb4; have HV4 := Hid.mk' (HV2.out.ext hb4); clear ho4 hb4 gv zv; have gv := HV4.out.cell; have zv := HV4.out.lt)
  go_cut [15] (fun v wx => Hid (OB wx wq.heap.size v (evHead (⟨kind, ao, av, old, b, a, rs, fl⟩ : Ev))) ∧ Hid (Ext wq wx))
  case first =>
    by_cases h4 : kind = 4
    · have h4' : (kind != 4) = false := by simpa using h4
      have HH : Hid (OB w4 wq.heap.size v4 (evHead (⟨kind, ao, av, old, b, a, rs, fl⟩ : Ev))) := Hid.mk' (by unfold evHead; rw [if_pos h4, List.append_nil]; exact HO4.out)
      obtain ⟨a4, c4, rfl⟩ := HH.out.shape
      clear h4
      go_wp2
      go_meet
      case rel => exact ⟨HH, HB4⟩
    · have h4' : (kind != 4) = true := by simpa using h4
      have HHE : Hid (evHead (⟨kind, ao, av, old, b, a, rs, fl⟩ : Ev) = (sevens ao.toNat ++ sevens av.toNat) ++ [old]) := Hid.mk' (by unfold evHead; rw [if_neg h4])
      have HSN := Hid.mk' (Sl.new w4 #[.int .u8 old] 5 1 1 1 ([old].map bcell) rfl (by intro xs hxs; simp at hxs; subst hxs; rfl) rfl)
      clear h4
      go_wp2_with (at_builtin; refine app_bytes_at rfl _ _ rfl wq.heap.size v4 _ rfl (HO4.out.ext ((Ext.refl w4).alloc _)) _ [old] rfl HSN.out ?c1 ?c2 ?_)
      case c1 => have h1 := HEL.out; rw [HHE.out, List.length_append] at h1; simp only [List.length_cons, List.length_nil] at h1 ⊢; omega
      case c2 => have := HB4.out.size; simp; omega
      intro v5 w5 ho5 hg5 _
      have HH : Hid (OB w5 wq.heap.size v5 (evHead (⟨kind, ao, av, old, b, a, rs, fl⟩ : Ev))) := Hid.mk' (by rw [HHE.out]; first | exact ho5 | (rw [List.append_assoc]; exact ho5))
      have HB5 : Hid (Ext wq w5) := Hid.mk' (OB.grown (HB4.out.alloc _) (HO4.out.ext ((Ext.refl w4).alloc _)) hg5)
      obtain ⟨a5, c5, rfl⟩ := HH.out.shape
      clear ho5 hg5
      go_wp2
      go_meet
      case rel => exact ⟨HH, HB5⟩
  case rest =>
  obtain ⟨HO5, HB5⟩ := hcut
  obtain ⟨ab, cb, rfl⟩ := HO5.out.shape
  obtain ⟨vB, hvB⟩ : ∃ v, v = Value.slice ab (evHead (⟨kind, ao, av, old, b, a, rs, fl⟩ : Ev)).length cb := ⟨_, rfl⟩
  rw [← hvB] at HO5 ⊢
  have HVB := Hid.mk' hvB
  clear hvB gv zv HO4 HB4 HV4
  have HV5 := Hid.mk' (HV2.out.ext HB5.out)
  have HX5 := Hid.mk' (HBX.out.ext HB5.out)
  have HS : Hid (∀ w', Ext wc w' → ((∀ i, w'.cell? ⟨w.heap.size, i, none⟩ = (#[.int .u8 kind, .int .u32 ao, .int .u32 av, .int .u8 old, .slice ba b.length bc, .slice aa a.length ac, .slice ra rs.length rc, .int .u8 fl])[i]?) ∧ w.heap.size < w'.heap.size)) := Hid.mk' (fun w' h => ⟨(HV5.out.ext h).cell, (HV5.out.ext h).lt⟩)
  have hA0 : Hid ((fun w' => (∀ i, w'.cell? ⟨w.heap.size, i, none⟩ = (#[.int .u8 kind, .int .u32 ao, .int .u32 av, .int .u8 old, .slice ba b.length bc, .slice aa a.length ac, .slice ra rs.length rc, .int .u8 fl])[i]?) ∧ w.heap.size < w'.heap.size) wc.drew) := Hid.mk' (HS.out _ (Ext.refl wc).drew)
  go_upto_region 18 with (fail)
  refine wp_region_head 7 (fun w' => (∀ i, w'.cell? ⟨w.heap.size, i, none⟩ = (#[.int .u8 kind, .int .u32 ao, .int .u32 av, .int .u8 old, .slice ba b.length bc, .slice aa a.length ac, .slice ra rs.length rc, .int .u8 fl])[i]?) ∧ w.heap.size < w'.heap.size) (by kernel_rfl) (by decide) ?_
  (refine wpHd_take (i := 0) (v := ?_) rfl (by kernel_rfl) (by kernel_rfl) (by kernel_rfl) (fun _ _ _ h => h) (Or.inl ⟨by rfl, ?_⟩) hA0.out ?_; rotate_left 1; · (intro w' hS'; (try dsimp only at hS'); go_split_ands; go_simp; try with_reducible rfl))
  (refine wpHd_take (i := 1) (v := ?_) rfl (by kernel_rfl) (by kernel_rfl) (by kernel_rfl) (fun _ _ _ h => h) (Or.inl ⟨by rfl, ?_⟩) hA0.out ?_; rotate_left 1; · (intro w' hS'; (try dsimp only at hS'); go_split_ands; go_simp; try with_reducible rfl))
  (refine wpHd_take (i := 3) (v := ?_) rfl (by kernel_rfl) (by kernel_rfl) (by kernel_rfl) (fun _ _ _ h => h) (Or.inl ⟨by rfl, ?_⟩) hA0.out ?_; rotate_left 1; · (intro w' hS'; (try dsimp only at hS'); go_split_ands; go_simp; try with_reducible rfl))
  (refine wpHd_take (i := 4) (v := ?_) rfl (by kernel_rfl) (by kernel_rfl) (by kernel_rfl) (fun _ _ _ h => h) (Or.inl ⟨by rfl, ?_⟩) hA0.out ?_; rotate_left 1; · (intro w' hS'; (try dsimp only at hS'); go_split_ands; go_simp; try with_reducible rfl))
  refine wpHd_one (i := 2) rfl rfl (by kernel_rfl) (fun K hK => ?_)
  go_simp
  refine (HTB.out _ (HEQ.out.trans (HB5.out.trans (Ext.refl wc).drew))).mono ?_
  rintro e w5 ⟨a5, c5, rfl, ho5, hb5⟩
  have HO6 := Hid.mk' ho5
  have HB6 : Hid (Ext wc w5) := Hid.mk' ((Ext.refl wc).drew.trans hb5)
  refine hK.out _ _ (HS.out _ HB6.out) (fun hA => ?_)
  clear hK K hA hA0 ho5 hb5
  refine wpHd_one (i := 5) rfl rfl (by kernel_rfl) (fun K hK => ?_)
  go_simp
  refine (HTA.out _ (HEQ.out.trans (HB5.out.trans HB6.out))).mono ?_
  rintro e w6 ⟨a6, c6, rfl, ho6, hb6⟩
  have HO7 := Hid.mk' ho6
  have HX6 := Hid.mk' hb6
  have HB7 : Hid (Ext wc w6) := Hid.mk' (HB6.out.trans hb6)
  refine hK.out _ _ (HS.out _ HB7.out) (fun hA => ?_)
  clear hK K hA ho6 hb6
  refine wpHd_one (i := 6) rfl rfl (by kernel_rfl) (fun K hK => ?_)
  refine wp_app_sl _ _ 41 (by rfl) wc.heap.size 9 i0 _ 1 16 Tryz.underlying41 hi hz0 hz1 hz2 rfl (by decide) (.slice a5 (txL b).length c5) _ _ (by rfl) (owns_ext HO6.out HX6.out) (.slice a6 (txL a).length c6) ((txL a).map strC) (by rfl) (Sl.of_owns (base := w5.heap.size) (e := 9) (by rw [List.length_map]; exact HO7.out) strC_one) strC_one strC_cells ?c1 ?c2 ?c3 ?_
  case c1 => have h1 := HTX.out.2; rw [HTT.out, List.length_append] at h1; rw [List.length_map]; unfold maxLen; omega
  case c2 => have h1 := HTX.out.2; rw [HTT.out, List.length_append] at h1; rw [List.length_map]; omega
  case c3 => have := HB7.out.size; omega
  intro v7 w7 ho7 hg7 hat7
  have HO8 : Hid (w7.ownsRow wc.heap.size 9 1 v7 TT.length (TT.map strC).flatten) := Hid.mk' (by have hT := HTT.out; subst hT; rw [List.length_append, List.map_append, List.flatten_append]; rw [List.length_map] at ho7; exact ho7)
  have HB8 : Hid (Ext wc w7) := Hid.mk' (Ext.grown HB7.out (owns_ext HO6.out HX6.out) hg7)
  refine hK.out _ _ (HS.out _ HB8.out) (fun hA => ?_)
  clear hK K hA ho7 hg7 hat7
  obtain ⟨a7, c7, rfl⟩ := owns_shape HO8.out
  refine wpHd_tail (by kernel_rfl) ?_
  simp only [List.drop_succ_cons, List.drop_zero]
  have gv := (HV5.out.ext HB8.out).cell
  have zv := (HV5.out.ext HB8.out).lt
  have gx := (HX5.out.ext HB8.out).cell
  have zx := (HX5.out.ext HB8.out).lt
  have HEr := Hid.mk' (HB5.out.trans HB8.out)
  have HPW := Hid.mk' (putRows_any b a ba aa bc ac w7.heap.size vB (evHead (⟨kind, ao, av, old, b, a, rs, fl⟩ : Ev)) oid ver nm id cols qa qc version wq (w7.alloc (.cells #[.slice ba b.length bc, .slice aa a.length ac] 47)) (HEr.out.alloc _) (HO5.out.ext (HB8.out.alloc _)) (Blk.new _ _ _) (HXB.out.ext HEQ.out) (HXA.out.ext HEQ.out) HQS.out HQC.out hlen2 HSM.out.2 HSM.out.1 HFB.out HFA.out HV.out HBT.out HAT.out hnb hna (by have := HEL.out; omega))
  have HSPL := Hid.mk' (fun W (h : Sl W (.slice a7 TT.length c7) 1 (TT.map strC)) => callsIn_wide.1 (split_in Fence.wide 4 rfl trivial trivial trivial rfl (Nat.le_refl _) TT a7 c7 W h (by have := HTX.out.2; omega) (fun s hs => by have := HTX.out.1 s hs; omega) (by have := HPC.out; have := HTX.out.2; omega)))
  have HNE : Hid (∀ k, (Value.slice a7 TT.length c7).ownBlock = some k → ¬ (vB.ownBlock = some k)) := Hid.mk' (owns_neT HO8.out (HO5.out.ext HB8.out) (by decide))
  obtain ⟨L8, hL8⟩ : ∃ L, L = evHead (⟨kind, ao, av, old, b, a, rs, fl⟩ : Ev) ++ (imgPay b cols version ++ imgPay a cols version) := ⟨_, rfl⟩
  rw [← hL8] at HPW
  have HL8 := Hid.mk' hL8
  obtain ⟨TS, hTS⟩ : ∃ T, T = splitL TT := ⟨_, rfl⟩
  rw [← hTS] at HSPL
  have HTS := Hid.mk' hTS
  clear HO6 HO7 HX6 HB7 HB6 HS HTB HTA HV5 HX5 HV2 HBX HQS HQC hL8 hTS
  go_wp2_with (first
    | (go_at_call 46; refine HPW.out.mono ?_; rintro e w8 ⟨v8, rfl, ho8, hk8⟩; obtain ⟨a8, c8, rfl⟩ := OB.shape ho8; have HO9 := Hid.mk' ho8; have HK9 := Hid.mk' hk8; clear ho8 hk8 gv zv gx zx)
    | (go_at_call 47; refine (HSPL.out _ (Sl.of_owns (base := wc.heap.size) (e := 9) (by rw [List.length_map]; exact owns_kp (owns_ext HO8.out ((Ext.refl _).alloc _)) HK9.out HNE.out) strC_one)).mono ?_; rintro e w9 ⟨a9, c9, rfl, hs9, hb9⟩; have HS9 := Hid.mk' hs9; have HB9 := Hid.mk' hb9; clear hs9 hb9))
  go_ret3
  have hL := HL8.out
  have hT := HTS.out
  subst hL
  have hU := HTT.out
  subst hU
  subst hT
  exact ⟨_, a9, c9, rfl, (HO9.out.ext HB9.out).base HEQ.out.size, HS9.out, HEQ.out.trans ((Kp.ext (HEr.out.alloc _) (fun x hx _ => (HO5.out.lt x hx).1) HK9.out).trans HB9.out)⟩

end Go.Proofs.YtlobghojjfkchaaGreat

/-
The reference's Put of a cell.
-/
namespace Go.Proofs.YtlobghojjfkchaaGreat
open Go.RowKit

def RCPost (k ty n : Int) (x y : Nat) (s : ByteArray) (kind ver : Int) (w : World) (e : Ending) (w' : World) : Prop :=
  ∃ v', e = .returned (.tuple #[v', .int .i64 (errC k ty n x y s kind ver)]) ∧ (errC k ty n x y s kind ver = 0 → OB w' w.heap.size v' (putC k ty n x y s kind ver)) ∧ (errC k ty n x y s kind ver ≠ 0 → v' = .slice none 0 0) ∧ Ext w w'
theorem RCPost.ok {m : List Int} {k ty n : Int} {x y : Nat} {s : ByteArray} {kind ver : Int} {w w' : World} {v' : Value} (he : errC k ty n x y s kind ver = 0) (hm : putC k ty n x y s kind ver = m) (ho : OB w' w.heap.size v' m) (hE : Ext w w') :
    RCPost k ty n x y s kind ver w (.returned (.tuple #[v', .int .i64 0])) w' := by
  subst hm
  exact ⟨v', by rw [he], fun _ => ho, fun h => absurd he h, hE⟩
theorem RCPost.bad {k ty n : Int} {x y : Nat} {s : ByteArray} {kind ver : Int} {w w' : World} {E : Int} (he : errC k ty n x y s kind ver = E) (h0 : E ≠ 0) (hE : Ext w w') :
    RCPost k ty n x y s kind ver w (.returned (.tuple #[.slice none 0 0, .int .i64 E])) w' := by
  subst he
  exact ⟨_, rfl, fun h => absurd h h0, fun _ => rfl, hE⟩

theorem one_blk {w : World} {base : Nat} (x : Int) (h : base ≤ w.heap.size) : OB (w.alloc (.cells #[.int .u8 x] 5)) base (.slice (some ⟨w.heap.size, 0, none⟩) 1 1) [x] := OB.of_blk (l := [x]) (Blk.new w _ _) h rfl (by simp)

set_option maxRecDepth 100000 in set_option maxHeartbeats 1600000 in
theorem rcput_same (ty n : Int) (x y : Nat) (s : ByteArray) (kind ver : Int) (w : World) (hs : s.size ≤ 9223372036854775807) (hv : ver = 1 ∨ ver = 2) (hr : rightC 1 ty n x y s kind = 0) :
    Calls Tryz.prog 100 #[.agg #[.int .u8 1, .int .u8 ty, .int .i64 n, .int .u64 x, .int .u64 y, .string s], .int .u8 kind, .int .u8 ver] w (RCPost 1 ty n x y s kind ver w) := by
  have HR := Hid.mk' (fun w => rcright_any 1 ty n x y s kind w (by decide) hs)
  rw [hr] at HR
  have HE := Hid.mk' (err_mk hv hr ne_one)
  have HP : Hid (putC 1 ty n x y s kind ver = [0]) := Hid.mk' (by unfold putC; rw [if_pos rfl])
  clear hr
  rcases hv with rfl | rfl
  all_goals
    go_enter Tryz.func100, Tryz.ntmps100
    go_wp2_with (go_at_call 147; refine (HR.out _).mono ?_; rintro e w1 ⟨rfl, hb1⟩; have hE1 : Ext w w1 := (by exact eX); have hE_w1 := hb1; obtain ⟨hc_w1, hf_w1⟩ := hE_w1.cells; have hz_w1 := hE_w1.size)
    go_ret2
    exact RCPost.ok HE.out HP.out (one_blk 0 hE1.size) (by exact eX)

set_option maxRecDepth 100000 in set_option maxHeartbeats 1600000 in
theorem rcput_large (ty n : Int) (x y : Nat) (s : ByteArray) (kind ver : Int) (w : World) (hs : s.size ≤ 9223372036854775807) (hv : ver = 1 ∨ ver = 2) (hr : rightC 2 ty n x y s kind = 0) (hL : largeB 2 ty s = true) :
    Calls Tryz.prog 100 #[.agg #[.int .u8 2, .int .u8 ty, .int .i64 n, .int .u64 x, .int .u64 y, .string s], .int .u8 kind, .int .u8 ver] w (RCPost 2 ty n x y s kind ver w) := by
  have HR := Hid.mk' (fun w => rcright_any 2 ty n x y s kind w (by decide) hs)
  rw [hr] at HR
  have HE := Hid.mk' (err_mk hv hr ne_two)
  have HP := Hid.mk' (putC_large (n := n) (x := x) (y := y) (kind := kind) (ver := ver) hL)
  have HLA := Hid.mk' (fun w => rclarge_any 2 ty n x y s w)
  rw [hL] at HLA
  have HS10 := Hid.mk' (sevens_len10 (x := s.size) (by omega))
  clear hr hL
  rcases hv with rfl | rfl
  all_goals
    go_enter Tryz.func100, Tryz.ntmps100
    go_wp2_with (first
      | (go_at_call 147; refine (HR.out _).mono ?_; rintro e w1 ⟨rfl, hb1⟩; have hE1 : Ext w w1 := (by exact eX); have hE_w1 := hb1; obtain ⟨hc_w1, hf_w1⟩ := hE_w1.cells; have hz_w1 := hE_w1.size)
      | (go_at_call 101; refine (HLA.out _).mono ?_; rintro e w2 ⟨rfl, hb2⟩; have hE2 : Ext w w2 := hE1.trans hb2; have hE_w2 := hE_w1.trans hb2; obtain ⟨hc_w2, hf_w2⟩ := hE_w2.cells; have hz_w2 := hE_w2.size; clear hc_w1 hf_w1)
      | (go_at_call 64; refine (ruint_any s.size _ (by omega)).mono ?_; rintro e w3 ⟨v3, rfl, ho3, hb3⟩; have HO3 := Hid.mk' ho3; have HB3 := Hid.mk' hb3; clear ho3 hb3)
      | (at_builtin; refine app_bytes rfl _ _ rfl w.heap.size _ _ rfl ((one_blk _ hE2.size).ext HB3.out) v3 (sevens s.size) rfl (NB.of_own HO3.out) ?c1 ?c2 ?_))
    case c1 => have := HS10.out; simp; omega
    case c2 => have := HB3.out.size; have := hE2.size; simp at *; omega
    intro v4 w4 ho4 hgrow
    have hE4 := OB.grown ((hE2.alloc _).trans HB3.out) ((one_blk _ hE2.size).ext HB3.out) hgrow
    have HO4 := Hid.mk' ho4
    have HE4 := Hid.mk' hE4
    clear ho4 hgrow hE4
    go_wp2
    go_ret2
    exact RCPost.ok HE.out HP.out HO4.out HE4.out

set_option maxRecDepth 100000 in set_option maxHeartbeats 1600000 in
theorem rcput_text (ty n : Int) (x y : Nat) (s : ByteArray) (kind : Int) (w : World) (hs : s.size ≤ 9223372036854775807) (hr : rightC 2 ty n x y s kind = 0) (hL : largeB 2 ty s = false) (hk : kind = 5 ∨ kind = 6) :
    Calls Tryz.prog 100 #[.agg #[.int .u8 2, .int .u8 ty, .int .i64 n, .int .u64 x, .int .u64 y, .string s], .int .u8 kind, .int .u8 2] w (RCPost 2 ty n x y s kind 2 w) := by
  have HR := Hid.mk' (fun w => rcright_any 2 ty n x y s kind w (by decide) hs)
  rw [hr] at HR
  have HE := Hid.mk' (err_mk (.inr rfl) hr ne_two)
  have HP : Hid (putC 2 ty n x y s kind 2 = sevens (s.size + 2) ++ strL s) := Hid.mk' (by rw [putC_small hL, if_pos rfl, if_pos hk])
  have HLA := Hid.mk' (fun w => rclarge_any 2 ty n x y s w)
  rw [hL] at HLA
  have HX := Hid.mk' (fun w => rtexty_yes kind w hk)
  have hs2 : s.size ≤ 2048 := (right_zero (right_full hr).1).2.2.1
  have hw : IntKind.u64.wrap ((s.size : Int) + 2) = ((s.size + 2 : Nat) : Int) := by rw [u64_wrap]; omega
  have HS10 := Hid.mk' (sevens_len10 (x := s.size + 2) (by omega))
  clear hr hL hk
  go_enter Tryz.func100, Tryz.ntmps100
  go_upto_region 15 with (first
    | (go_at_call 147; refine (HR.out _).mono ?_; rintro e w1 ⟨rfl, hb1⟩; have hE1 : Ext w w1 := (by exact eX); have hE_w1 := hb1; obtain ⟨hc_w1, hf_w1⟩ := hE_w1.cells; have hz_w1 := hE_w1.size)
    | (go_at_call 101; refine (HLA.out _).mono ?_; rintro e w2 ⟨rfl, hb2⟩; have hE2 : Ext w w2 := hE1.trans hb2; have hE_w2 := hE_w1.trans hb2; obtain ⟨hc_w2, hf_w2⟩ := hE_w2.cells; have hz_w2 := hE_w2.size; clear hc_w1 hf_w1)
    | (go_at_call 148; refine (HX.out _).mono ?_; rintro e w9 ⟨rfl, rfl⟩))
  have HS : Hid (∀ w', Ext w2 w' → Ext w2 w' ∧ w'.cell? ⟨w.heap.size, 5, none⟩ = some (.string s)) := Hid.mk' (fun w' h => ⟨h, by rw [(hE_w2.trans h).cells.1 _ _ (by simp), (Blk.new w #[.int .u8 2, .int .u8 ty, .int .i64 n, .int .u64 x, .int .u64 y, .string s] 170).cell 5]; rfl⟩)
  have HE2 := Hid.mk' hE2
  clear hE1 hE2 hE_w1 hE_w2 hc_w2 hf_w2 hb1 hb2
  have hld : ∀ w', Ext w2 w' → w'.cell? ⟨w.heap.size, 5, none⟩ = some (.string s) := fun w' h => (HS.out w' h).2
  have HLD := Hid.mk' hld
  have l0 := hld _ ((Ext.refl w2).drew)
  clear hld HS
  have hcv := fun w => conv_str w s
  go_region_law
    (first
      | (go_simp; go_at_call 64; refine (ruint_any (s.size + 2) _ (by omega)).mono ?_; rintro e w3 ⟨v3, rfl, ho3, hb3⟩; have hb3' : Ext w2 w3 := (by (repeat (with_reducible (first | exact Ext.refl _ | assumption | apply Ext.drew | apply Ext.conv | (refine Ext.trans ?_ (by assumption)))))); have HO3 := Hid.mk' (ho3.base (Ext.size (by (repeat (with_reducible (first | exact Ext.refl _ | assumption | apply Ext.drew | apply Ext.conv | (refine Ext.trans ?_ (by assumption))))) : Ext w2 _))); have l3 := HLD.out _ hb3'; clear ho3)
      | (refine step_app_nb (by rfl) _ _ (by rfl) w2.heap.size _ _ (by rfl) (HO3.out.ext (by (repeat (with_reducible (first | exact Ext.refl _ | assumption | apply Ext.drew | apply Ext.conv | (refine Ext.trans ?_ (by assumption))))))) _ (strL s) (by rfl) (nb_conv (by (repeat (with_reducible (first | exact Ext.refl _ | assumption | apply Ext.drew | apply Ext.conv | (refine Ext.trans ?_ (by assumption))))))) (by have := HS10.out; rw [strL_len]; omega) (Ext.size (by (repeat (with_reducible (first | exact Ext.refl _ | assumption | apply Ext.drew | apply Ext.conv | (refine Ext.trans ?_ (by assumption))))) : Ext w2 _)) ?_; intro v5 w5 ho5 hgrow; have hE5 : Ext w2 w5 := OB.grown (by (repeat (with_reducible (first | exact Ext.refl _ | assumption | apply Ext.drew | apply Ext.conv | (refine Ext.trans ?_ (by assumption)))))) (HO3.out.ext (by (repeat (with_reducible (first | exact Ext.refl _ | assumption | apply Ext.drew | apply Ext.conv | (refine Ext.trans ?_ (by assumption))))))) hgrow; have HO5 := Hid.mk' ho5; have HE5 := Hid.mk' hE5; clear ho5 hgrow)
      | (refine step_app_nb (by rfl) _ _ (by rfl) w2.heap.size _ _ (by rfl) (HO3.out.ext (by (repeat (with_reducible (first | exact Ext.refl _ | assumption | apply Ext.drew | apply Ext.conv | (refine Ext.trans ?_ (by assumption))))))) _ (strL s) (by rfl) (nb_conv (w := w2.drew) (by (repeat (with_reducible (first | exact Ext.refl _ | assumption | apply Ext.drew | apply Ext.conv | (refine Ext.trans ?_ (by assumption))))))) (by have := HS10.out; rw [strL_len]; omega) (Ext.size (by (repeat (with_reducible (first | exact Ext.refl _ | assumption | apply Ext.drew | apply Ext.conv | (refine Ext.trans ?_ (by assumption))))) : Ext w2 _)) ?_; intro v5 w5 ho5 hgrow; have hE5 : Ext w2 w5 := OB.grown (by (repeat (with_reducible (first | exact Ext.refl _ | assumption | apply Ext.drew | apply Ext.conv | (refine Ext.trans ?_ (by assumption)))))) (HO3.out.ext (by (repeat (with_reducible (first | exact Ext.refl _ | assumption | apply Ext.drew | apply Ext.conv | (refine Ext.trans ?_ (by assumption))))))) hgrow; have HO5 := Hid.mk' ho5; have HE5 := Hid.mk' hE5; clear ho5 hgrow))
  all_goals
    go_wp2
    go_ret2
    exact RCPost.ok HE.out HP.out (HO5.out.base HE2.out.size) (HE2.out.trans HE5.out)

set_option maxRecDepth 100000 in set_option maxHeartbeats 1600000 in
theorem rcput_two (ty n : Int) (x y : Nat) (s : ByteArray) (kind : Int) (w : World) (hs : s.size ≤ 9223372036854775807)
    (hn : -9223372036854775808 ≤ n ∧ n < 9223372036854775808) (hx : x < 2 ^ 64) (hy : y < 2 ^ 64) (hr : rightC 2 ty n x y s kind = 0) (hL : largeB 2 ty s = false) (hk : kind ≠ 5 ∧ kind ≠ 6) :
    Calls Tryz.prog 100 #[.agg #[.int .u8 2, .int .u8 ty, .int .i64 n, .int .u64 x, .int .u64 y, .string s], .int .u8 kind, .int .u8 2] w (RCPost 2 ty n x y s kind 2 w) := by
  have HR := Hid.mk' (fun w => rcright_any 2 ty n x y s kind w (by decide) hs)
  rw [hr] at HR
  have HE := Hid.mk' (err_mk (.inr rfl) hr ne_two)
  have HP : Hid (putC 2 ty n x y s kind 2 = putL ty n x y s 2) := Hid.mk' (by rw [putC_small hL, if_pos rfl, if_neg (by omega)])
  have HLA := Hid.mk' (fun w => rclarge_any 2 ty n x y s w)
  rw [hL] at HLA
  have HX := Hid.mk' (fun w => rtexty_no kind w hk)
  have eV : errV ty n x y s 2 = 0 := by unfold errV; rw [if_pos (.inr rfl)]; exact (right_full hr).1
  have HVP := Hid.mk' (fun (w : World) => rput_ok ty n x y s 2 w eV hn hx hy hs)
  clear hr hL hk hn hx hy eV
  go_enter Tryz.func100, Tryz.ntmps100
  go_wp2_with (first
    | (go_at_call 147; refine (HR.out _).mono ?_; rintro e w1 ⟨rfl, hb1⟩; have hE1 : Ext w w1 := (by exact eX); have hE_w1 := hb1; obtain ⟨hc_w1, hf_w1⟩ := hE_w1.cells; have hz_w1 := hE_w1.size)
    | (go_at_call 101; refine (HLA.out _).mono ?_; rintro e w2 ⟨rfl, hb2⟩; have hE2 : Ext w w2 := hE1.trans hb2; have hE_w2 := hE_w1.trans hb2; obtain ⟨hc_w2, hf_w2⟩ := hE_w2.cells; have hz_w2 := hE_w2.size; clear hc_w1 hf_w1)
    | (go_at_call 148; refine (HX.out _).mono ?_; rintro e w9 ⟨rfl, rfl⟩)
    | (go_at_call 149; refine (HVP.out _).mono ?_; rintro e w3 ⟨v3, rfl, ho3, hb3⟩; have HO3 := Hid.mk' (ho3.base hE2.size); have HE3 : Hid (Ext w w3) := Hid.mk' (hE2.trans hb3); clear ho3 hb3))
  go_ret2
  exact RCPost.ok HE.out HP.out HO3.out HE3.out

set_option maxRecDepth 100000 in set_option maxHeartbeats 1600000 in
theorem rcput_one (ty n : Int) (x y : Nat) (s : ByteArray) (kind : Int) (w : World) (hs : s.size ≤ 9223372036854775807)
    (hn : -9223372036854775808 ≤ n ∧ n < 9223372036854775808) (hx : x < 2 ^ 64) (hy : y < 2 ^ 64) (hr : rightC 2 ty n x y s kind = 0) (hL : largeB 2 ty s = false) :
    Calls Tryz.prog 100 #[.agg #[.int .u8 2, .int .u8 ty, .int .i64 n, .int .u64 x, .int .u64 y, .string s], .int .u8 kind, .int .u8 1] w (RCPost 2 ty n x y s kind 1 w) := by
  have HR := Hid.mk' (fun w => rcright_any 2 ty n x y s kind w (by decide) hs)
  rw [hr] at HR
  have HE := Hid.mk' (err_mk (.inl rfl) hr ne_two)
  have HP : Hid (putC 2 ty n x y s kind 1 = [1] ++ putL ty n x y s 1) := Hid.mk' (by rw [putC_small hL, if_neg (by decide)]; rfl)
  have HLA := Hid.mk' (fun w => rclarge_any 2 ty n x y s w)
  rw [hL] at HLA
  have eV : errV ty n x y s 1 = 0 := by unfold errV; rw [if_pos (.inl rfl)]; exact (right_full hr).1
  have HVP := Hid.mk' (fun (w : World) => rput_ok ty n x y s 1 w eV hn hx hy hs)
  have HPL := Hid.mk' (putL_len eV hn)
  clear hr hL hn hx hy eV
  go_enter Tryz.func100, Tryz.ntmps100
  go_wp2_with (first
    | (go_at_call 147; refine (HR.out _).mono ?_; rintro e w1 ⟨rfl, hb1⟩; have hE1 : Ext w w1 := (by exact eX); have hE_w1 := hb1; obtain ⟨hc_w1, hf_w1⟩ := hE_w1.cells; have hz_w1 := hE_w1.size)
    | (go_at_call 101; refine (HLA.out _).mono ?_; rintro e w2 ⟨rfl, hb2⟩; have hE2 : Ext w w2 := hE1.trans hb2; have hE_w2 := hE_w1.trans hb2; obtain ⟨hc_w2, hf_w2⟩ := hE_w2.cells; have hz_w2 := hE_w2.size; clear hc_w1 hf_w1)
    | (go_at_call 149; refine (HVP.out _).mono ?_; rintro e w3 ⟨v3, rfl, ho3, hb3⟩; have HO3 := Hid.mk' ho3; have HE3 : Hid (Ext w w3) := Hid.mk' (hE2.trans hb3); clear ho3 hb3)
    | (at_builtin; refine app_bytes rfl _ _ rfl w.heap.size _ _ rfl (one_blk _ HE3.out.size) v3 _ rfl (NB.of_own (HO3.out.alloc _)) ?c1 ?c2 ?_))
  case c1 => have := HPL.out; simp; omega
  case c2 => have := HE3.out.size; simp; omega
  intro v4 w4 ho4 hgrow
  have hE4 := OB.grown (HE3.out.alloc _) (one_blk _ HE3.out.size) hgrow
  have HO4 := Hid.mk' ho4
  have HE4 := Hid.mk' hE4
  clear ho4 hgrow hE4
  go_wp2
  go_ret2
  exact RCPost.ok HE.out HP.out HO4.out HE4.out

set_option maxRecDepth 100000 in set_option maxHeartbeats 1600000 in
theorem rcput_null (ty n : Int) (x y : Nat) (s : ByteArray) (kind ver : Int) (w : World) (hs : s.size ≤ 9223372036854775807) (hv : ver = 1 ∨ ver = 2) (hr : rightC 0 ty n x y s kind = 0) :
    Calls Tryz.prog 100 #[.agg #[.int .u8 0, .int .u8 ty, .int .i64 n, .int .u64 x, .int .u64 y, .string s], .int .u8 kind, .int .u8 ver] w (RCPost 0 ty n x y s kind ver w) := by
  have HR := Hid.mk' (fun w => rcright_any 0 ty n x y s kind w (by decide) hs)
  rw [hr] at HR
  have HE : Hid (errC 0 ty n x y s kind ver = 12) := Hid.mk' (by unfold errC; rw [if_pos hv, if_neg (by simpa using hr), if_pos rfl])
  clear hr
  rcases hv with rfl | rfl
  all_goals
    go_enter Tryz.func100, Tryz.ntmps100
    go_wp2_with (go_at_call 147; refine (HR.out _).mono ?_; rintro e w1 ⟨rfl, hb1⟩; have hE1 : Ext w w1 := (by exact eX); have hE_w1 := hb1; obtain ⟨hc_w1, hf_w1⟩ := hE_w1.cells; have hz_w1 := hE_w1.size)
    go_ret2
    exact RCPost.bad HE.out (by decide) hE1

set_option maxRecDepth 100000 in set_option maxHeartbeats 1600000 in
theorem rcput_wrong (k ty n : Int) (x y : Nat) (s : ByteArray) (kind ver : Int) (w : World) (hs : s.size ≤ 9223372036854775807) (hk0 : 0 ≤ k) (hr : rightC k ty n x y s kind ≠ 0 ∨ ¬ (ver = 1 ∨ ver = 2)) :
    Calls Tryz.prog 100 #[.agg #[.int .u8 k, .int .u8 ty, .int .i64 n, .int .u64 x, .int .u64 y, .string s], .int .u8 kind, .int .u8 ver] w (RCPost k ty n x y s kind ver w) := by
  by_cases hv : ver = 1 ∨ ver = 2
  · have hr0 : rightC k ty n x y s kind ≠ 0 := hr.resolve_right (fun h => h hv)
    have HR := Hid.mk' (fun w => rcright_any k ty n x y s kind w hk0 hs)
    have HE : Hid (errC k ty n x y s kind ver = rightC k ty n x y s kind) := Hid.mk' (by unfold errC; rw [if_pos hv, if_pos hr0])
    generalize rightC k ty n x y s kind = R at *
    have hR2 : (R != 0) = true := by simpa using hr0
    have HR0 := Hid.mk' hr0
    clear hr0 hr
    rcases hv with rfl | rfl
    all_goals
      go_enter Tryz.func100, Tryz.ntmps100
      go_wp2_with (go_at_call 147; refine (HR.out _).mono ?_; rintro e w1 ⟨rfl, hb1⟩; have hE1 : Ext w w1 := (by exact eX); have hE_w1 := hb1; obtain ⟨hc_w1, hf_w1⟩ := hE_w1.cells; have hz_w1 := hE_w1.size)
      go_ret2
      exact RCPost.bad HE.out HR0.out hE1
  · have HE : Hid (errC k ty n x y s kind ver = 18) := Hid.mk' (by unfold errC; rw [if_neg hv])
    have h1 : (ver != 1) = true := by simp; omega
    have h2 : (ver != 2) = true := by simp; omega
    clear hr hv
    go_enter Tryz.func100, Tryz.ntmps100
    go_wp2
    go_ret2
    exact RCPost.bad HE.out (by decide) (by exact eX)

/-- The reference's Put of a cell. -/
theorem rcput_any (k ty n : Int) (x y : Nat) (s : ByteArray) (kind ver : Int) (w : World) (hk0 : 0 ≤ k)
    (hn : -9223372036854775808 ≤ n ∧ n < 9223372036854775808) (hx : x < 2 ^ 64) (hy : y < 2 ^ 64) (hs : s.size ≤ 9223372036854775807) :
    Calls Tryz.prog 100 #[.agg #[.int .u8 k, .int .u8 ty, .int .i64 n, .int .u64 x, .int .u64 y, .string s], .int .u8 kind, .int .u8 ver] w (RCPost k ty n x y s kind ver w) := by
  by_cases hr : rightC k ty n x y s kind = 0
  · by_cases hv : ver = 1 ∨ ver = 2
    · have hk2 : k ≤ 2 := by unfold rightC at hr; (repeat' split at hr) <;> first | omega | (exfalso; omega)
      have hk : k = 0 ∨ k = 1 ∨ k = 2 := by omega
      rcases hk with rfl | rfl | rfl
      · exact rcput_null ty n x y s kind ver w hs hv hr
      · exact rcput_same ty n x y s kind ver w hs hv hr
      · cases hL : largeB 2 ty s with
        | true => exact rcput_large ty n x y s kind ver w hs hv hr hL
        | false =>
          rcases hv with rfl | rfl
          · exact rcput_one ty n x y s kind w hs hn hx hy hr hL
          · by_cases hk : kind = 5 ∨ kind = 6
            · exact rcput_text ty n x y s kind w hs hr hL hk
            · exact rcput_two ty n x y s kind w hs hn hx hy hr hL (by omega)
    · exact rcput_wrong k ty n x y s kind ver w hs hk0 (.inr hv)
  · exact rcput_wrong k ty n x y s kind ver w hs hk0 (.inl hr)
theorem rcput_ok (k ty n : Int) (x y : Nat) (s : ByteArray) (kind ver : Int) (w : World) (h : errC k ty n x y s kind ver = 0) (hk0 : 0 ≤ k)
    (hn : -9223372036854775808 ≤ n ∧ n < 9223372036854775808) (hx : x < 2 ^ 64) (hy : y < 2 ^ 64) (hs : s.size ≤ 9223372036854775807) :
    Calls Tryz.prog 100 #[.agg #[.int .u8 k, .int .u8 ty, .int .i64 n, .int .u64 x, .int .u64 y, .string s], .int .u8 kind, .int .u8 ver] w fun e w' => ∃ v', e = .returned (.tuple #[v', .int .i64 0]) ∧ OB w' w.heap.size v' (putC k ty n x y s kind ver) ∧ Ext w w' := by
  refine (rcput_any k ty n x y s kind ver w hk0 hn hx hy hs).mono ?_
  rintro e w' ⟨v', rfl, h1, h2, h3⟩
  exact ⟨v', by rw [h], h1 h, h3⟩
end Go.Proofs.YtlobghojjfkchaaGreat

/-
A row's bytes: the reference's Pack and Encode.
-/
namespace Go.Proofs.YtlobghojjfkchaaGreat
open Go.RowKit


theorem OB.of_part {w : World} {g : Nat} {l m : List Int} {base n c : Nat} (h : Blk w g (bs m).toArray 5) (hb : base ≤ g) (hl : l = m.take n) (hn : n ≤ m.length) (hc : c = m.length) (hm : m.length ≤ 1000000) : OB w base (.slice (some ⟨g, 0, none⟩) n c) l := by
  subst hl hc
  have e : (m.take n).length = n := by rw [List.length_take]; omega
  unfold OB
  rw [e]
  refine ⟨by rw [bs_len, e, Nat.mul_one], .inr ⟨g, m.length, (bs m).toArray, rfl, hb, h, hn, by unfold maxLen; omega, by simp [bs], ?_⟩⟩
  rw [Nat.mul_one, List.toList_toArray]
  simp [bs, List.map_take]
theorem map_two {l : List Bool} (h : l.length ≤ 16) : mapL l = [((bitsN l % 256 : Nat) : Int), ((bitsN l / 256 : Nat) : Int)].take (mapSize l.length) := by
  have hb := bitsN_lt l
  have h2 : 2 ^ l.length ≤ 65536 := Nat.le_trans (Nat.pow_le_pow_right (by decide) h) (by decide)
  unfold mapL
  have hs : mapSize l.length = 0 ∨ mapSize l.length = 1 ∨ mapSize l.length = 2 := by unfold mapSize; omega
  have hd : bitsN l / 256 % 256 = bitsN l / 256 := Nat.mod_eq_of_lt (by omega)
  rcases hs with e | e | e
  · rw [e]; rfl
  · rw [e]; simp [List.range_succ]
  · rw [e]; simp [List.range_succ]
    omega

set_option maxRecDepth 100000 in set_option maxHeartbeats 4000000 in
theorem rpack_any (l : List Bool) (a : Option Addr) (cap : Nat) (w : World) (hl : Sl w (.slice a l.length cap) 1 (l.map boolC)) (h16 : l.length ≤ 16) :
    Calls Tryz.prog 99 #[.slice a l.length cap] w fun e w' => ∃ v', e = .returned (.tuple #[v', .int .i64 0]) ∧ OB w' w.heap.size v' (mapL l) ∧ Ext w w' := by
  have HZ := Hid.mk' (fun w => rmsize_any l.length w h16)
  have hs2 : mapSize l.length ≤ 2 := by unfold mapSize; omega
  have HL := Hid.mk' hl
  clear hl
  go_enter Tryz.func99, Tryz.ntmps99
  go_wp2
  go_loopw [4, 5] (fun n i wr => ∃ j : Nat, j ≤ l.length ∧ i = .int .i64 ((j : Int) - 1) ∧ n = .int .i64 (bitsN (l.drop j) : Nat) ∧ Hid (Ext w wr)) (fun _ i _ => (intOf i + 1).toNat)
  case atStart => exact ⟨l.length, Nat.le_refl _, rfl, by rw [List.drop_length]; rfl, Hid.mk' (Ext.refl _)⟩
  case round =>
    obtain ⟨j, hj, rfl, rfl, hE⟩ := hrel
    have hbd := bitsN_lt (l.drop j)
    rw [List.length_drop] at hbd
    have hp : 2 ^ (l.length - j) ≤ 65536 := Nat.le_trans (Nat.pow_le_pow_right (by decide) (show l.length - j ≤ 16 by omega)) (by decide)
    by_cases h0 : 0 < j
    · obtain ⟨k, rfl⟩ : ∃ k, j = k + 1 := ⟨j - 1, by omega⟩
      have hlt : k < l.length := by omega
      obtain ⟨b, o, rfl, hb, hx⟩ := HL.out.at_ (i := k) (by simpa using hlt)
      have f0 := boolC_at hlt hx hb hE.out
      have hbw : b < wr.heap.size := Nat.lt_of_lt_of_le hb hE.out.size
      have HD := Hid.mk' (show bitsN (l.drop k) = l[k].toNat + 2 * bitsN (l.drop (k + 1)) by rw [List.drop_eq_getElem_cons hlt, bitsN])
      obtain ⟨N, hN⟩ : ∃ N, N = bitsN (l.drop (k + 1)) := ⟨_, rfl⟩
      rw [← hN] at hbd HD ⊢
      have hN2 : N < 65536 := by omega
      have hki : ((k + 1 : Nat) : Int) - 1 = (k : Int) := by omega
      rw [hki]
      clear hx hN hp hbd
      cases hq : l[k] with
      | false =>
        rw [hq] at f0 HD
        clear hq
        go_wp2
        go_roundw
        case rel => exact ⟨k, by omega, by go_num, by first | (rw [HD.out]; done) | (rw [HD.out]; simp; done) | (rw [HD.out]; simp; omega), hE⟩
        case measure => first | (simp [intOf]; done) | (simp [intOf]; omega)
      | true =>
        rw [hq] at f0 HD
        clear hq
        go_wp2
        go_roundw
        case rel => exact ⟨k, by omega, by go_num, by first | (rw [HD.out]; done) | (rw [HD.out]; simp; done) | (rw [HD.out]; simp; omega), hE⟩
        case measure => first | (simp [intOf]; done) | (simp [intOf]; omega)
    · obtain rfl : j = 0 := by omega
      rw [List.drop_zero] at hbd ⊢
      have HM := Hid.mk' (map_two h16)
      obtain ⟨N, hN⟩ : ∃ N, N = bitsN l := ⟨_, rfl⟩
      rw [← hN] at hbd HM ⊢
      have hN2 : N < 65536 := by omega
      clear hN hp hbd
      have hw1 : IntKind.u8.wrap ((N : Int) % 256) = ((N % 256 : Nat) : Int) := by rw [u8_wrap']; omega
      have hw2 : IntKind.u8.wrap ((N : Int) / 256) = ((N / 256 : Nat) : Int) := by rw [u8_wrap']; omega
      go_wp2_with (go_at_call 119; refine (HZ.out _).mono ?_; rintro e w1 ⟨rfl, rfl⟩)
      go_ret2
      exact ⟨_, rfl, OB.of_part (m := [((N % 256 : Nat) : Int), ((N / 256 : Nat) : Int)]) (Blk.new _ _ _) hE.out.size HM.out (by simpa using hs2) rfl (by simp), hE.out.alloc _⟩

set_option maxRecDepth 100000 in set_option maxHeartbeats 4000000 in
theorem rencode_any (l : List K) (a : Option Addr) (cap : Nat) (oid ver : Int) (nm : ByteArray) (id : Int) (cols : List Col) (a2 : Option Addr) (cap2 : Nat) (version : Int) (w : World) (hl : Sl w (.slice a l.length cap) 6 (l.map K.rc)) (hl2 : Sl w (.slice a2 cols.length cap2) 3 (cols.map Col.cells))
    (hlen : l.length ≤ 1000) (hlen2 : cols.length ≤ 1000) (hs : ∀ c ∈ l, c.tw) (hs2 : ∀ c ∈ cols, c.nm.size ≤ 9223372036854775807) (hnm : nm.size ≤ 9223372036854775807) :
    Calls Tryz.prog 53 #[.slice a l.length cap, .agg #[.int .u32 oid, .int .u32 ver, .string nm, .int .u8 id, .slice a2 cols.length cap2], .int .u8 version] w (EncPost l (⟨oid, ver, nm, id, cols⟩ : Rl) version w) := by
  obtain ⟨i0, hi, hz0, hz1, hz2⟩ := info_parts Tryz.infoBool
  have HF := Hid.mk' (fun W (h : Ext w W) => rfits_any l a cap oid ver nm id cols a2 cap2 W (hl.ext h) (hl2.ext h) hlen hlen2 (fun c hc => (hs c hc).towk) hs2 hnm)
  have HOK := Hid.mk' (fun h hv => RowOk.of (l := l) (r := (⟨oid, ver, nm, id, cols⟩ : Rl)) (ver := version) h hv hs)
  have HEE : Hid (encE l (⟨oid, ver, nm, id, cols⟩ : Rl) version = if version = 1 ∨ version = 2 then fitsE l (⟨oid, ver, nm, id, cols⟩ : Rl) else 18) := Hid.mk' rfl
  have HL := Hid.mk' hl
  have HL2 := Hid.mk' hl2
  have HS := Hid.mk' hs
  clear hl hl2 hs hs2 hnm
  by_cases hv : version = 1 ∨ version = 2
  case neg =>
    have HE := Hid.mk' (HEE.out.trans (if_neg hv))
    have hv1 : (version != 1) = true := by simp; omega
    have hv2 : (version != 2) = true := by simp; omega
    clear hv HEE
    go_enter Tryz.func53, Tryz.ntmps53
    go_wp2
    go_ret2
    exact EncPost.bad HE.out (by decide) (by exact eX)
  have HE := Hid.mk' (HEE.out.trans (if_pos hv))
  have HV := Hid.mk' hv
  clear HEE
  obtain ⟨E, hE0⟩ : ∃ E, E = fitsE l (⟨oid, ver, nm, id, cols⟩ : Rl) := ⟨_, rfl⟩
  rw [← hE0] at HF HE HOK
  by_cases h0 : E = 0
  case neg =>
    have h0' : (E != 0) = true := by simpa using h0
    have H0 := Hid.mk' h0
    clear h0 hE0 HOK
    rcases hv with rfl | rfl
    all_goals
      go_enter Tryz.func53, Tryz.ntmps53
      go_wp2_with (go_at_call 98; refine (HF.out _ (by exact eX)).mono ?_; rintro e w1 ⟨rfl, hb1⟩; have hE1 : Ext w w1 := (by exact eX))
      go_ret2
      exact EncPost.bad HE.out H0.out hE1
  subst h0
  have hok := HOK.out rfl HV.out
  have hn16 := hok.n16
  have hnl : l.length = cols.length := hok.len
  have HK := Hid.mk' hok
  have HP := Hid.mk' (fun W a c h => rpack_any (nullsL l) a c W h (by rw [nullsL_len]; exact hn16))
  rw [nullsL_len] at HP
  have hlt0 : l.length ≤ cols.length := by omega
  have HNL := Hid.mk' hnl
  clear hok hnl HOK hE0
  rcases hv with rfl | rfl
  · go_enter Tryz.func53, Tryz.ntmps53
    go_wp2_with (go_at_call 98; refine (HF.out _ (by exact eX)).mono ?_; rintro e w1 ⟨rfl, hb1⟩; have hE1 := Hid.mk' (show Ext (w.alloc (.cells #[.int .u32 oid, .int .u32 ver, .string nm, .int .u8 id, .slice a2 cols.length cap2] 101)) w1 by exact eX); have hEw1 : Ext w w1 := (by exact eX); clear hb1)
    go_loopw [9, 10] (fun v i wr => ∃ k : Nat, k ≤ l.length ∧ i = .int .i64 k ∧ Hid (wr.ownsRow (w.heap.size + 1) 4 1 v k (((nullsL l).map boolC).take k).flatten) ∧ Hid (Ext (w.alloc (.cells #[.int .u32 oid, .int .u32 ver, .string nm, .int .u8 id, .slice a2 cols.length cap2] 101)) wr)) (fun _ i _ => l.length - (intOf i).toNat)
    case atStart => exact ⟨0, Nat.zero_le _, rfl, World.ownsRow_nil _ _ _ _, hE1⟩
    case round =>
      obtain ⟨k, hk, rfl, hown, hE⟩ := hrel
      have hEw : Ext w wr := ((Ext.refl w).alloc _).trans hE.out
      by_cases hlt : k < l.length
      · obtain ⟨b, o, rfl, hb, hx⟩ := HL.out.at_ (i := k) (by simpa using hlt)
        obtain ⟨f0, -⟩ := K.rcAt hlt hx hb hEw
        have hbw : b < wr.heap.size := Nat.lt_of_lt_of_le hb hEw.size
        have HT := Hid.mk' (flat_snoc (f := boolC) (l := nullsL l) (k := k) (by rw [nullsL_len]; exact hlt))
        have hnk : (nullsL l)[k]'(by rw [nullsL_len]; exact hlt) = decide (l[k].k = 0) := by simp [nullsL]
        rw [hnk] at HT
        obtain ⟨c, hc⟩ : ∃ c, c = l[k].k := ⟨_, rfl⟩
        rw [← hc] at f0 HT
        have hdk : (c == 0) = decide (c = 0) := by by_cases h : c = 0 <;> simp [h]
        obtain ⟨q, hq⟩ : ∃ q, q = decide (c = 0) := ⟨_, rfl⟩
        rw [← hq] at HT hdk
        clear hc hx hnk hq
        go_wp2_with (at_builtin; refine wpList_append_own _ rfl _ _ 200 rfl (w.heap.size + 1) 4 i0 _ 1 1 Tryz.underlying200 hi hz0 hz1 hz2 rfl (by decide) _ _ _ rfl (hown.out.alloc _) ⟨_, 0, none⟩ 1 1 (boolC q) rfl rfl ?c1 ?c2 ?c3 ?c4 ?c5 ?_)
        case c1 => exact cells_new _ #[.bool q] _
        case c2 => intro u hu; simp [boolC] at hu; subst hu; rfl
        case c3 => unfold maxLen; omega
        case c4 => omega
        case c5 => have := hE.out.size; simp at this; simp; omega
        intro v' w2 hown' hgrow _
        have HE2 : Hid (Ext (w.alloc (.cells #[.int .u32 oid, .int .u32 ver, .string nm, .int .u8 id, .slice a2 cols.length cap2] 101)) w2) := Hid.mk' (Below.grown (hE.out.alloc _) hgrow (by have := hE.out.size; simp at this; simp; omega) (fun g hg => by have := (hown.out.lt g hg).1; simpa using this))
        have HO2 := Hid.mk' hown'
        clear hown' hgrow
        go_wp2
        go_roundw
        case rel => exact ⟨k + 1, by omega, by go_num, Hid.mk' (by rw [HT.out]; exact HO2.out), HE2⟩
        case measure => simp [intOf]; omega
      · have hkk : k = l.length := by omega
        subst hkk
        have hml : ((nullsL l).map boolC).length = l.length := by rw [List.length_map, nullsL_len]
        rw [← hml, List.take_length, hml] at hown
        obtain ⟨an, cn, rfl⟩ := owns_shape hown.out
        have HN2 := Hid.mk' (Sl.of_owns (base := w.heap.size + 1) (e := 4) (xss := (nullsL l).map boolC) (by rw [hml]; exact hown.out) (by intro xs hxs; simp at hxs; rcases hxs with ⟨_, rfl⟩ | ⟨_, rfl⟩ <;> rfl))
        clear hown hml
        have hz1 : w.heap.size + 1 ≤ wr.heap.size := by have := hE.out.size; simpa using this
        go_wp2_with (go_at_call 99; refine (HP.out _ _ _ HN2.out).mono ?_; rintro e w3 ⟨v3, rfl, ho3, hb3⟩; have HO3 := Hid.mk' (ho3.base (base := w.heap.size + 1) hz1); have HE3 := Hid.mk' (hE.out.trans hb3); clear ho3 hb3)
        rename World => wo
        go_loopw [11, 13] (fun v i wr => ∃ k : Nat, k ≤ l.length ∧ i = .int .i64 k ∧ Hid (OB wr (w.heap.size + 1) v (mapL (nullsL l) ++ cellsPut 1 (l.take k) (cols.take k))) ∧ Hid (Ext (w.alloc (.cells #[.int .u32 oid, .int .u32 ver, .string nm, .int .u8 id, .slice a2 cols.length cap2] 101)) wr)) (fun _ i _ => l.length - (intOf i).toNat)
        case atStart => exact ⟨0, Nat.zero_le _, rfl, Hid.mk' (by simp only [List.take_zero, cellsPut, List.append_nil]; exact HO3.out), HE3⟩
        case round =>
          obtain ⟨k, hk, rfl, hown, hE⟩ := hrel
          have hEw : Ext w wr := ((Ext.refl w).alloc _).trans hE.out
          have hBx := (Blk.new w #[.int .u32 oid, .int .u32 ver, .string nm, .int .u8 id, .slice a2 cols.length cap2] 101).ext hE.out
          have g0 := hBx.cell
          have z0 := hBx.lt
          clear hBx
          by_cases hlt : k < l.length
          · have hlt2 : k < cols.length := by omega
            obtain ⟨b, o, rfl, hb, hx⟩ := HL.out.at_ (i := k) (by simpa using hlt)
            obtain ⟨f0, f1, f2, f3, f4, f5⟩ := K.rcAt hlt hx hb hEw
            obtain ⟨b2, o2, rfl, hb2', hx2⟩ := HL2.out.at_ (i := k) (by simpa using hlt2)
            obtain ⟨p0, p1, p2⟩ := Col.at_ hlt2 hx2 hb2' hEw
            have hbw : b < wr.heap.size := Nat.lt_of_lt_of_le hb hEw.size
            have hbw2 : b2 < wr.heap.size := Nat.lt_of_lt_of_le hb2' hEw.size
            have htw := HS.out _ (List.getElem_mem hlt)
            have HSN := Hid.mk' (cellsPut_snoc 1 l cols k hlt hlt2)
            have hpl := cellsPut_len HK.out.put k (by omega) (by omega)
            have hml := mapL_len (nullsL l)
            rw [nullsL_len] at hml
            have hms : mapSize l.length ≤ 2 := by unfold mapSize; omega
            have HLN : Hid (l[k].k ≠ 0 → (l[k].put cols[k].ty 1).length ≤ 4000) := Hid.mk' (HK.out.put k hlt hlt2)
            have hpre0 : (mapL (nullsL l) ++ cellsPut 1 (l.take k) (cols.take k)).length ≤ 100000 := by rw [List.length_append]; omega
            have HCP := Hid.mk' (fun (hk0 : l[k].k ≠ 0) W => rcput_ok l[k].k l[k].v.ty l[k].v.n l[k].v.x l[k].v.y l[k].v.s cols[k].ty 1 W (HK.out.err k hlt hlt2 hk0) htw.k htw.n htw.x htw.y htw.s)
            obtain ⟨c, hc⟩ : ∃ c, c = l[k] := ⟨_, rfl⟩
            obtain ⟨d, hd⟩ : ∃ d, d = cols[k] := ⟨_, rfl⟩
            rw [← hc] at f0 f1 f2 f3 f4 f5 HSN HCP HLN
            rw [← hd] at p0 p1 p2 HSN HCP HLN
            obtain ⟨pre, hpre⟩ : ∃ pre, pre = mapL (nullsL l) ++ cellsPut 1 (l.take k) (cols.take k) := ⟨_, rfl⟩
            rw [← hpre] at hown hpre0
            have HPRE := Hid.mk' hpre
            clear hc hd hx hx2 htw hpl hml hms hpre
            by_cases hk0 : c.k = 0
            · have hk0' : (c.k != 0) = false := by simpa using hk0
              have HS2 := Hid.mk' (HSN.out.trans (by rw [if_pos hk0, List.append_nil]))
              clear hk0 HSN HCP HLN
              go_wp2
              go_roundw
              case rel => exact ⟨k + 1, by omega, by go_num, Hid.mk' (by rw [HS2.out, ← HPRE.out]; exact hown.out), hE⟩
              case measure => simp [intOf]; omega
            · have hk0' : (c.k != 0) = true := by simpa using hk0
              have HC := Hid.mk' (HCP.out hk0)
              have hpl2 := HLN.out hk0
              unfold K.put at hpl2
              have HS2 := Hid.mk' (HSN.out.trans (by rw [if_neg hk0]))
              clear hk0 HSN HCP HLN
              go_wp2
              go_region_held3 (fun w' => Ext (wr) w' ∧ (∀ b o, b < (wr).heap.size → w'.cell? ⟨b, o, none⟩ = (wr).cell? ⟨b, o, none⟩) ∧ (∀ b o, b < (wr).heap.size → w'.frozen? ⟨b, o, none⟩ = (wr).frozen? ⟨b, o, none⟩)) ((exact held_of (by exact eX)))
                (first
                  | (go_at_call 100; refine (HC.out _).mono ?_; rintro e w2 ⟨v2, rfl, ho2, hb2⟩; have HO2 := Hid.mk' ho2; clear ho2))
              go_wp2_with (at_builtin; refine app_bytes rfl _ _ rfl (w.heap.size + 1) _ _ rfl (hown.out.ext (by exact eX)) v2 (putC c.k c.v.ty c.v.n c.v.x c.v.y c.v.s d.ty 1) rfl (NB.of_own (HO2.out.ext (by exact eX))) ?c1 ?c2 ?_)
              case c1 => omega
              case c2 => exact Nat.le_trans (show w.heap.size + 1 ≤ wr.heap.size from z0) (Ext.size (by exact eX))
              intro v4 w4 ho4 hgrow
              have HE4 := Hid.mk' (Below.grown (hE.out.trans (by exact eX : Ext wr _)) hgrow (Ext.size (hE.out.trans (by exact eX : Ext wr _))) (fun g hg => by have := (World.ownsRow.lt hown.out g hg).1; simpa using this))
              have HO4 := Hid.mk' ho4
              clear ho4 hgrow
              go_wp2
              go_roundw
              case rel => exact ⟨k + 1, by omega, by go_num, Hid.mk' (by rw [HS2.out, ← List.append_assoc, ← HPRE.out]; exact HO4.out), Hid.mk' HE4.out⟩
              case measure => simp [intOf]; omega
          · have hkk : k = l.length := by omega
            subst hkk
            rw [cellsPut_all HNL.out] at hown
            go_wp2
            go_ret2
            exact EncPost.ok HE.out rfl (hown.out.base (by omega)) hEw

  · go_enter Tryz.func53, Tryz.ntmps53
    go_wp2_with (go_at_call 98; refine (HF.out _ (by exact eX)).mono ?_; rintro e w1 ⟨rfl, hb1⟩; have hE1 := Hid.mk' (show Ext (w.alloc (.cells #[.int .u32 oid, .int .u32 ver, .string nm, .int .u8 id, .slice a2 cols.length cap2] 101)) w1 by exact eX); have hEw1 : Ext w w1 := (by exact eX); clear hb1)
    go_loopw [9, 10] (fun v i wr => ∃ k : Nat, k ≤ l.length ∧ i = .int .i64 k ∧ Hid (wr.ownsRow (w.heap.size + 1) 4 1 v k (((nullsL l).map boolC).take k).flatten) ∧ Hid (Ext (w.alloc (.cells #[.int .u32 oid, .int .u32 ver, .string nm, .int .u8 id, .slice a2 cols.length cap2] 101)) wr)) (fun _ i _ => l.length - (intOf i).toNat)
    case atStart => exact ⟨0, Nat.zero_le _, rfl, World.ownsRow_nil _ _ _ _, hE1⟩
    case round =>
      obtain ⟨k, hk, rfl, hown, hE⟩ := hrel
      have hEw : Ext w wr := ((Ext.refl w).alloc _).trans hE.out
      by_cases hlt : k < l.length
      · obtain ⟨b, o, rfl, hb, hx⟩ := HL.out.at_ (i := k) (by simpa using hlt)
        obtain ⟨f0, -⟩ := K.rcAt hlt hx hb hEw
        have hbw : b < wr.heap.size := Nat.lt_of_lt_of_le hb hEw.size
        have HT := Hid.mk' (flat_snoc (f := boolC) (l := nullsL l) (k := k) (by rw [nullsL_len]; exact hlt))
        have hnk : (nullsL l)[k]'(by rw [nullsL_len]; exact hlt) = decide (l[k].k = 0) := by simp [nullsL]
        rw [hnk] at HT
        obtain ⟨c, hc⟩ : ∃ c, c = l[k].k := ⟨_, rfl⟩
        rw [← hc] at f0 HT
        have hdk : (c == 0) = decide (c = 0) := by by_cases h : c = 0 <;> simp [h]
        obtain ⟨q, hq⟩ : ∃ q, q = decide (c = 0) := ⟨_, rfl⟩
        rw [← hq] at HT hdk
        clear hc hx hnk hq
        go_wp2_with (at_builtin; refine wpList_append_own _ rfl _ _ 200 rfl (w.heap.size + 1) 4 i0 _ 1 1 Tryz.underlying200 hi hz0 hz1 hz2 rfl (by decide) _ _ _ rfl (hown.out.alloc _) ⟨_, 0, none⟩ 1 1 (boolC q) rfl rfl ?c1 ?c2 ?c3 ?c4 ?c5 ?_)
        case c1 => exact cells_new _ #[.bool q] _
        case c2 => intro u hu; simp [boolC] at hu; subst hu; rfl
        case c3 => unfold maxLen; omega
        case c4 => omega
        case c5 => have := hE.out.size; simp at this; simp; omega
        intro v' w2 hown' hgrow _
        have HE2 : Hid (Ext (w.alloc (.cells #[.int .u32 oid, .int .u32 ver, .string nm, .int .u8 id, .slice a2 cols.length cap2] 101)) w2) := Hid.mk' (Below.grown (hE.out.alloc _) hgrow (by have := hE.out.size; simp at this; simp; omega) (fun g hg => by have := (hown.out.lt g hg).1; simpa using this))
        have HO2 := Hid.mk' hown'
        clear hown' hgrow
        go_wp2
        go_roundw
        case rel => exact ⟨k + 1, by omega, by go_num, Hid.mk' (by rw [HT.out]; exact HO2.out), HE2⟩
        case measure => simp [intOf]; omega
      · have hkk : k = l.length := by omega
        subst hkk
        have hml : ((nullsL l).map boolC).length = l.length := by rw [List.length_map, nullsL_len]
        rw [← hml, List.take_length, hml] at hown
        obtain ⟨an, cn, rfl⟩ := owns_shape hown.out
        have HN2 := Hid.mk' (Sl.of_owns (base := w.heap.size + 1) (e := 4) (xss := (nullsL l).map boolC) (by rw [hml]; exact hown.out) (by intro xs hxs; simp at hxs; rcases hxs with ⟨_, rfl⟩ | ⟨_, rfl⟩ <;> rfl))
        clear hown hml
        have hz1 : w.heap.size + 1 ≤ wr.heap.size := by have := hE.out.size; simpa using this
        go_wp2_with (go_at_call 99; refine (HP.out _ _ _ HN2.out).mono ?_; rintro e w3 ⟨v3, rfl, ho3, hb3⟩; have HO3 := Hid.mk' (ho3.base (base := w.heap.size + 1) hz1); have HE3 := Hid.mk' (hE.out.trans hb3); clear ho3 hb3)
        rename World => wo
        go_loopw [11, 13] (fun v i wr => ∃ k : Nat, k ≤ l.length ∧ i = .int .i64 k ∧ Hid (OB wr (w.heap.size + 1) v (mapL (nullsL l) ++ cellsPut 2 (l.take k) (cols.take k))) ∧ Hid (Ext (w.alloc (.cells #[.int .u32 oid, .int .u32 ver, .string nm, .int .u8 id, .slice a2 cols.length cap2] 101)) wr)) (fun _ i _ => l.length - (intOf i).toNat)
        case atStart => exact ⟨0, Nat.zero_le _, rfl, Hid.mk' (by simp only [List.take_zero, cellsPut, List.append_nil]; exact HO3.out), HE3⟩
        case round =>
          obtain ⟨k, hk, rfl, hown, hE⟩ := hrel
          have hEw : Ext w wr := ((Ext.refl w).alloc _).trans hE.out
          have hBx := (Blk.new w #[.int .u32 oid, .int .u32 ver, .string nm, .int .u8 id, .slice a2 cols.length cap2] 101).ext hE.out
          have g0 := hBx.cell
          have z0 := hBx.lt
          clear hBx
          by_cases hlt : k < l.length
          · have hlt2 : k < cols.length := by omega
            obtain ⟨b, o, rfl, hb, hx⟩ := HL.out.at_ (i := k) (by simpa using hlt)
            obtain ⟨f0, f1, f2, f3, f4, f5⟩ := K.rcAt hlt hx hb hEw
            obtain ⟨b2, o2, rfl, hb2', hx2⟩ := HL2.out.at_ (i := k) (by simpa using hlt2)
            obtain ⟨p0, p1, p2⟩ := Col.at_ hlt2 hx2 hb2' hEw
            have hbw : b < wr.heap.size := Nat.lt_of_lt_of_le hb hEw.size
            have hbw2 : b2 < wr.heap.size := Nat.lt_of_lt_of_le hb2' hEw.size
            have htw := HS.out _ (List.getElem_mem hlt)
            have HSN := Hid.mk' (cellsPut_snoc 2 l cols k hlt hlt2)
            have hpl := cellsPut_len HK.out.put k (by omega) (by omega)
            have hml := mapL_len (nullsL l)
            rw [nullsL_len] at hml
            have hms : mapSize l.length ≤ 2 := by unfold mapSize; omega
            have HLN : Hid (l[k].k ≠ 0 → (l[k].put cols[k].ty 2).length ≤ 4000) := Hid.mk' (HK.out.put k hlt hlt2)
            have hpre0 : (mapL (nullsL l) ++ cellsPut 2 (l.take k) (cols.take k)).length ≤ 100000 := by rw [List.length_append]; omega
            have HCP := Hid.mk' (fun (hk0 : l[k].k ≠ 0) W => rcput_ok l[k].k l[k].v.ty l[k].v.n l[k].v.x l[k].v.y l[k].v.s cols[k].ty 2 W (HK.out.err k hlt hlt2 hk0) htw.k htw.n htw.x htw.y htw.s)
            obtain ⟨c, hc⟩ : ∃ c, c = l[k] := ⟨_, rfl⟩
            obtain ⟨d, hd⟩ : ∃ d, d = cols[k] := ⟨_, rfl⟩
            rw [← hc] at f0 f1 f2 f3 f4 f5 HSN HCP HLN
            rw [← hd] at p0 p1 p2 HSN HCP HLN
            obtain ⟨pre, hpre⟩ : ∃ pre, pre = mapL (nullsL l) ++ cellsPut 2 (l.take k) (cols.take k) := ⟨_, rfl⟩
            rw [← hpre] at hown hpre0
            have HPRE := Hid.mk' hpre
            clear hc hd hx hx2 htw hpl hml hms hpre
            by_cases hk0 : c.k = 0
            · have hk0' : (c.k != 0) = false := by simpa using hk0
              have HS2 := Hid.mk' (HSN.out.trans (by rw [if_pos hk0, List.append_nil]))
              clear hk0 HSN HCP HLN
              go_wp2
              go_roundw
              case rel => exact ⟨k + 1, by omega, by go_num, Hid.mk' (by rw [HS2.out, ← HPRE.out]; exact hown.out), hE⟩
              case measure => simp [intOf]; omega
            · have hk0' : (c.k != 0) = true := by simpa using hk0
              have HC := Hid.mk' (HCP.out hk0)
              have hpl2 := HLN.out hk0
              unfold K.put at hpl2
              have HS2 := Hid.mk' (HSN.out.trans (by rw [if_neg hk0]))
              clear hk0 HSN HCP HLN
              go_wp2
              go_region_held3 (fun w' => Ext (wr) w' ∧ (∀ b o, b < (wr).heap.size → w'.cell? ⟨b, o, none⟩ = (wr).cell? ⟨b, o, none⟩) ∧ (∀ b o, b < (wr).heap.size → w'.frozen? ⟨b, o, none⟩ = (wr).frozen? ⟨b, o, none⟩)) ((exact held_of (by exact eX)))
                (first
                  | (go_at_call 100; refine (HC.out _).mono ?_; rintro e w2 ⟨v2, rfl, ho2, hb2⟩; have HO2 := Hid.mk' ho2; clear ho2))
              go_wp2_with (at_builtin; refine app_bytes rfl _ _ rfl (w.heap.size + 1) _ _ rfl (hown.out.ext (by exact eX)) v2 (putC c.k c.v.ty c.v.n c.v.x c.v.y c.v.s d.ty 2) rfl (NB.of_own (HO2.out.ext (by exact eX))) ?c1 ?c2 ?_)
              case c1 => omega
              case c2 => exact Nat.le_trans (show w.heap.size + 1 ≤ wr.heap.size from z0) (Ext.size (by exact eX))
              intro v4 w4 ho4 hgrow
              have HE4 := Hid.mk' (Below.grown (hE.out.trans (by exact eX : Ext wr _)) hgrow (Ext.size (hE.out.trans (by exact eX : Ext wr _))) (fun g hg => by have := (World.ownsRow.lt hown.out g hg).1; simpa using this))
              have HO4 := Hid.mk' ho4
              clear ho4 hgrow
              go_wp2
              go_roundw
              case rel => exact ⟨k + 1, by omega, by go_num, Hid.mk' (by rw [HS2.out, ← List.append_assoc, ← HPRE.out]; exact HO4.out), Hid.mk' HE4.out⟩
              case measure => simp [intOf]; omega
          · have hkk : k = l.length := by omega
            subst hkk
            rw [cellsPut_all HNL.out] at hown
            go_wp2
            go_ret2
            exact EncPost.ok HE.out rfl (hown.out.base (by omega)) hEw

end Go.Proofs.YtlobghojjfkchaaGreat

/-
The reference's record of an event.
-/
namespace Go.Proofs.YtlobghojjfkchaaGreat
open Go.RowKit

set_option maxRecDepth 100000 in set_option maxHeartbeats 2000000 in
theorem rref_any (r : Rf) (w : World) (hr : r.u32) :
    Calls Tryz.prog 51 #[.agg #[.int .u32 r.o, .int .u32 r.v]] w fun e w' => ∃ v', e = .returned v' ∧ OB w' w.heap.size v' (sevens r.o.toNat ++ sevens r.v.toNat) ∧ Ext w w' := by
  obtain ⟨o, v⟩ := r
  obtain ⟨⟨ho1, ho2⟩, ⟨hv1, hv2⟩⟩ := hr
  simp only at ho1 ho2 hv1 hv2 ⊢
  obtain ⟨x, rfl⟩ := Int.eq_ofNat_of_zero_le ho1
  obtain ⟨y, rfl⟩ := Int.eq_ofNat_of_zero_le hv1
  rw [Int.toNat_natCast, Int.toNat_natCast]
  have e64 : (2 : Nat) ^ 64 = 18446744073709551616 := by decide
  have HX := Hid.mk' (fun W => ruint_any x W (by omega))
  have HY := Hid.mk' (fun W => ruint_any y W (by omega))
  have HL := Hid.mk' (And.intro (sevens_len10 (x := x) (by omega)) (sevens_len10 (x := y) (by omega)))
  have hx' : (x : Int) < 18446744073709551616 := by omega
  have hy' : (y : Int) < 18446744073709551616 := by omega
  have hwx : IntKind.u64.wrap (x : Int) = (x : Int) := by simp [IntKind.wrap, IntKind.signed, IntKind.bits]; omega
  have hwy : IntKind.u64.wrap (y : Int) = (y : Int) := by simp [IntKind.wrap, IntKind.signed, IntKind.bits]; omega
  obtain ⟨i0, hi, hz0, hz1, hz2⟩ := info_parts Tryz.infoU8
  clear ho1 ho2 hv1 hv2 e64
  go_enter Tryz.func51, Tryz.ntmps51
  go_upto_region 1 with (fail)
  have HB := Hid.mk' (Blk.new w #[.int .u32 x, .int .u32 y] 25)
  have HE0 : Hid (Ext w (w.alloc (.cells #[.int .u32 x, .int .u32 y] 25))) := Hid.mk' ((Ext.refl w).alloc _)
  obtain ⟨W1, hW1⟩ : ∃ W1, W1 = w.alloc (.cells #[.int .u32 x, .int .u32 y] 25) := ⟨_, rfl⟩
  rw [← hW1] at HB HE0 ⊢
  clear hW1
  have HS : Hid (∀ w', Ext W1 w' → (w'.cell? ⟨w.heap.size, 0, none⟩ = some (.int .u32 x) ∧ w'.cell? ⟨w.heap.size, 1, none⟩ = some (.int .u32 y) ∧ w.heap.size < w'.heap.size)) := Hid.mk' (fun w' h => ⟨(HB.out.ext h).cell 0, (HB.out.ext h).cell 1, (HB.out.ext h).lt⟩)
  have hA0 : Hid ((fun w' => w'.cell? ⟨w.heap.size, 0, none⟩ = some (.int .u32 x) ∧ w'.cell? ⟨w.heap.size, 1, none⟩ = some (.int .u32 y) ∧ w.heap.size < w'.heap.size) W1.drew) := Hid.mk' (HS.out _ (Ext.refl W1).drew)
  refine wp_region_head 9 (fun w' => w'.cell? ⟨w.heap.size, 0, none⟩ = some (.int .u32 x) ∧ w'.cell? ⟨w.heap.size, 1, none⟩ = some (.int .u32 y) ∧ w.heap.size < w'.heap.size) (by kernel_rfl) (by decide) ?_
  (refine wpHd_take (i := 0) (v := ?_) rfl (by kernel_rfl) (by kernel_rfl) (by kernel_rfl) (fun _ _ _ h => h) (Or.inl ⟨by rfl, ?_⟩) hA0.out ?_; rotate_left 1; · (intro w' hS'; (try dsimp only at hS'); go_split_ands; go_simp; try with_reducible rfl))
  (refine wpHd_take (i := 1) (v := ?_) rfl (by kernel_rfl) (by kernel_rfl) (by kernel_rfl) (fun _ _ _ h => h) (Or.inl ⟨by rfl, ?_⟩) hA0.out ?_; rotate_left 1; · (intro w' hS'; (try dsimp only at hS'); go_split_ands; go_simp; try with_reducible rfl))
  (refine wpHd_take (i := 2) (v := ?_) rfl (by kernel_rfl) (by kernel_rfl) (by kernel_rfl) (fun _ _ _ h => h) (Or.inl ⟨by rfl, ?_⟩) hA0.out ?_; rotate_left 1; · (intro w' hS'; (try dsimp only at hS'); go_split_ands; go_simp; try with_reducible rfl))
  (refine wpHd_take (i := 4) (v := ?_) rfl (by kernel_rfl) (by kernel_rfl) (by kernel_rfl) (fun _ _ _ h => h) (Or.inl ⟨by rfl, ?_⟩) hA0.out ?_; rotate_left 1; · (intro w' hS'; (try dsimp only at hS'); go_split_ands; go_simp; try with_reducible rfl))
  (refine wpHd_take (i := 5) (v := ?_) rfl (by kernel_rfl) (by kernel_rfl) (by kernel_rfl) (fun _ _ _ h => h) (Or.inl ⟨by rfl, ?_⟩) hA0.out ?_; rotate_left 1; · (intro w' hS'; (try dsimp only at hS'); go_split_ands; go_simp; try with_reducible rfl))
  (refine wpHd_take (i := 6) (v := ?_) rfl (by kernel_rfl) (by kernel_rfl) (by kernel_rfl) (fun _ _ _ h => h) (Or.inl ⟨by rfl, ?_⟩) hA0.out ?_; rotate_left 1; · (intro w' hS'; (try dsimp only at hS'); go_split_ands; go_simp; try with_reducible rfl))
  refine wpHd_one (i := 3) rfl rfl (by kernel_rfl) (fun K hK => ?_)
  go_simp
  refine (HX.out _).mono ?_
  rintro e w1 ⟨v1, rfl, ho1, hb1⟩
  have HO1 := Hid.mk' ho1
  have HB1 : Hid (Ext W1 w1) := Hid.mk' ((Ext.refl W1).drew.trans hb1)
  refine hK.out _ _ (HS.out _ HB1.out) (fun hA => ?_)
  clear hK K hA hA0 ho1 hb1
  refine wpHd_one (i := 7) rfl rfl (by kernel_rfl) (fun K hK => ?_)
  go_simp
  refine (HY.out _).mono ?_
  rintro e w2 ⟨v2, rfl, ho2, hb2⟩
  have HO2 := Hid.mk' ho2
  have HX2 := Hid.mk' hb2
  have HB2 : Hid (Ext W1 w2) := Hid.mk' (HB1.out.trans hb2)
  refine hK.out _ _ (HS.out _ HB2.out) (fun hA => ?_)
  clear hK K hA ho2 hb2
  refine wpHd_one (i := 8) rfl rfl (by kernel_rfl) (fun K hK => ?_)
  refine wp_app_sl _ _ 40 (by rfl) W1.heap.size 5 i0 _ 1 1 Tryz.underlying40 hi hz0 hz1 hz2 rfl (by decide) v1 _ _ (by rfl) (HO1.out.ext HX2.out) v2 ((sevens y).map bcell) (by rfl) HO2.out.sl (by intro ys hys; simp at hys; obtain ⟨_, _, rfl⟩ := hys; rfl) (by rw [bcell_flat]; exact bs_one _) ?c1 ?c2 ?c3 ?_
  case c1 => have := HL.out; rw [List.length_map]; unfold maxLen; omega
  case c2 => have := HL.out; rw [List.length_map]; omega
  case c3 => have := HB2.out.size; omega
  intro v3 w3 ho3 hg3 _
  have HO3 : Hid (OB w3 W1.heap.size v3 (sevens x ++ sevens y)) := Hid.mk' (by rw [List.length_map, bcell_flat] at ho3; exact OB.push ho3 rfl)
  have HB3 : Hid (Ext W1 w3) := Hid.mk' (Ext.grown HB2.out (HO1.out.ext HX2.out) hg3)
  refine hK.out _ _ (HS.out _ HB3.out) (fun hA => ?_)
  clear hK K hA ho3 hg3
  obtain ⟨a3, c3, rfl⟩ := HO3.out.shape
  refine wpHd_tail (by kernel_rfl) ?_
  simp only [List.drop_succ_cons, List.drop_zero]
  go_wp2
  go_ret
  have h := HO3.out.base HE0.out.size
  rw [List.length_append] at h
  exact ⟨_, rfl, h, HE0.out.trans HB3.out⟩

end Go.Proofs.YtlobghojjfkchaaGreat

/-
What is known of an event of the arguments.
-/
namespace Go.Proofs.YtlobghojjfkchaaGreat
open Go.RowKit

/-- What is known of an event of the arguments. -/
structure Ev.tw (e : Ev) : Prop where
  b : ∀ c ∈ e.b, c.tw
  a : ∀ c ∈ e.a, c.tw
  r : ∀ r ∈ e.rs, r.u32
  at_ : (⟨e.ao, e.av⟩ : Rf).u32

end Go.Proofs.YtlobghojjfkchaaGreat
