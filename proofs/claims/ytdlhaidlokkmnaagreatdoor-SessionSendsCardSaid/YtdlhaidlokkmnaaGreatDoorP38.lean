/-
strconv.Itoa and strings.Join, laid in plain words.
-/
import Derived.Shelf.Strings.OnBuilder
import Derived.Shelf.LaysM
import Derived.Shelf.Strconv.Itoa3
import Derived.Test.YtdlhaidlokkmnaaGreatDoorP1
import Derived.Test.YtdlhaidlokkmnaaGreatDoorP37
import Derived.Test.YtdlhaidlokkmnaaGreatDoorP26
set_option maxRecDepth 100000
set_option maxHeartbeats 16000000
namespace Go.Proofs.YtdlhaidlokkmnaaGreatDoor
open Go.Shelf
end Go.Proofs.YtdlhaidlokkmnaaGreatDoor
namespace Go.Proofs.YtdlhaidlokkmnaaGreatDoor
open Go.RowKit Go.Shelf Go.Sort
end Go.Proofs.YtdlhaidlokkmnaaGreatDoor
namespace Go.Proofs.YtdlhaidlokkmnaaGreatDoor
open Go.RowKit
def Non (w : World) : Prop := (w.cell? ⟨1, 0, none⟩ = some (.int .i64 (-1)) ∧ w.cell? ⟨1, 1, none⟩ = some (.int .i64 (-1)) ∧ w.cell? ⟨1, 2, none⟩ = some (.int .i64 0)) ∧ 1 < w.heap.size
theorem Non.ext {w w' : World} (h : Non w) (he : Ext w w') : Non w' :=
  ⟨⟨(he.cells.1 _ _ h.2).trans h.1.1, (he.cells.1 _ _ h.2).trans h.1.2.1, (he.cells.1 _ _ h.2).trans h.1.2.2⟩, Nat.lt_of_lt_of_le h.2 he.size⟩
noncomputable def chE (xs : List Tx) (l : List Rl) (k : Nat) : Int := if h : k < xs.length then (if 0 < k ∧ xs[k].xid ≤ (xs.map Tx.xid).getD (k - 1) 0 then 15 else rtE xs[k] l) else 0
noncomputable def chP (xs : List Tx) (l : List Rl) (k : Nat) : Int := if h : k < xs.length then (if 0 < k ∧ xs[k].xid ≤ (xs.map Tx.xid).getD (k - 1) 0 then -1 else rtP xs[k] l) else -1
noncomputable def ckE (xs : List Tx) (l : List Rl) : Int := firstE (chE xs l) xs.length
noncomputable def ckT (xs : List Tx) (l : List Rl) : Int := if ckE xs l = 0 then -1 else (plE (chE xs l) xs.length : Nat)
noncomputable def ckP (xs : List Tx) (l : List Rl) : Int := if ckE xs l = 0 then -1 else chP xs l (plE (chE xs l) xs.length)
theorem ck_ok {xs : List Tx} {l : List Rl} (h : ∀ j, j < xs.length → chE xs l j = 0) : ckT xs l = -1 ∧ ckP xs l = -1 ∧ ckE xs l = 0 := by
  have e : ckE xs l = 0 := firstE_zero h
  unfold ckT ckP
  rw [if_pos e, if_pos e]
  exact ⟨rfl, rfl, e⟩
theorem ck_bad {xs : List Tx} {l : List Rl} {k : Nat} (hk : k < xs.length) (h : ∀ j, j < k → chE xs l j = 0) (hn : chE xs l k ≠ 0) : ckT xs l = k ∧ ckP xs l = chP xs l k ∧ ckE xs l = chE xs l k := by
  have e : ckE xs l = chE xs l k := firstE_at h hk hn
  have p := plE_at h hn hk
  unfold ckT ckP
  rw [if_neg (by rw [e]; exact hn), if_neg (by rw [e]; exact hn), p]
  exact ⟨rfl, rfl, e⟩
theorem ch_pre {ts : List TL} {l : List Rl} {k : Nat} (hk : k < ts.length) (h : 0 < k) (hp : ts[k].xid ≤ (ts.map TL.xid).getD (k - 1) 0) : chE (ts.map TL.t) l k = 15 ∧ chP (ts.map TL.t) l k = -1 := by
  unfold chE chP
  have hk' : k < (ts.map TL.t).length := by simpa using hk
  have e : ((ts.map TL.t).map Tx.xid) = ts.map TL.xid := by rw [List.map_map]; rfl
  have hc : 0 < k ∧ (ts.map TL.t)[k].xid ≤ ((ts.map TL.t).map Tx.xid).getD (k - 1) 0 := ⟨h, by rw [e, List.getElem_map]; exact hp⟩
  rw [dif_pos hk', dif_pos hk', if_pos hc, if_pos hc]
  exact ⟨rfl, rfl⟩
theorem ch_own {ts : List TL} {l : List Rl} {k : Nat} (hk : k < ts.length) (h : ¬ (0 < k ∧ ts[k].xid ≤ (ts.map TL.xid).getD (k - 1) 0)) : chE (ts.map TL.t) l k = rtE ts[k].t l ∧ chP (ts.map TL.t) l k = rtP ts[k].t l := by
  unfold chE chP
  have hk' : k < (ts.map TL.t).length := by simpa using hk
  have e : ((ts.map TL.t).map Tx.xid) = ts.map TL.xid := by rw [List.map_map]; rfl
  have hc : ¬ (0 < k ∧ (ts.map TL.t)[k].xid ≤ ((ts.map TL.t).map Tx.xid).getD (k - 1) 0) := by rw [e, List.getElem_map]; exact h
  rw [dif_pos hk', dif_pos hk', if_neg hc, if_neg hc, List.getElem_map]
  exact ⟨rfl, rfl⟩
theorem xid_at {ts : List TL} {k : Nat} (hk : k < ts.length) : (ts.map TL.xid).getD k 0 = ts[k].xid := by
  rw [List.getD_eq_getElem?_getD, List.getElem?_map, List.getElem?_eq_getElem hk]; rfl
theorem check_any (ts : List TL) (a : Option Addr) (cap : Nat) (N g : Nat) (c : Value) (ps : List RR) (w : World) (ht : TS 5 K.pc w (.slice a ts.length cap) ts) (hlen : ts.length ≤ 1000) (hn : ∀ t ∈ ts, t.es.length ≤ 1000) (hs : ∀ t ∈ ts, ∀ e ∈ t.es, e.e.small) (hwk : ∀ t ∈ ts, ∀ e ∈ t.es, e.e.wk) (hc : Ca w N g c ps) (hN : Non w) :
    Calls Tryz.prog 16 #[.pointer (some ⟨g, 0, none⟩), .slice a ts.length cap] w fun e w' => e = .returned (.agg #[.int .i64 (ckT (ts.map TL.t) (ps.map RR.r)), .int .i64 (ckP (ts.map TL.t) (ps.map RR.r)), .int .i64 (ckE (ts.map TL.t) (ps.map RR.r))]) ∧ Ext w w' := by
  have HT := Hm ht
  have HTR := Hm (fun t (h1 : t ∈ ts) W (h : Ext w W) => txright_any t N g c ps W ((ht.sl t h1).ext h) (hn t h1) (hs t h1) (hwk t h1) (hc.ext h))
  have HN := Hm hN
  obtain ⟨LC, hLC⟩ : ∃ LC, LC = ps.map RR.r := ⟨_, rfl⟩
  rw [← hLC] at HTR ⊢
  clear ht hn hs hwk hc hN hLC
  go_enter Tryz.func16, Tryz.ntmps16
  go_wp2
  go_loopg [5, 12] ts.length (fun z l i wr => ∃ (k : Nat) (p : Int), z + k = ts.length ∧ l = .int .u32 p ∧ i = .int .i64 k ∧ Hid (0 < k → p = (ts.map TL.xid).getD (k - 1) 0) ∧ Hid (∀ j, j < k → chE (ts.map TL.t) LC j = 0) ∧ Hid (Blk wr w.heap.size #[.int .i64 0, .int .i64 0, .int .i64 0] 33) ∧ Hid (Ext w wr))
  case atStart => exact ⟨0, 0, by omega, rfl, rfl, Hm (fun h => absurd h (by omega)), Hm (fun j h => by omega), Hm (Blk.new _ _ _), Hm (by exact eX)⟩
  case round =>
    obtain ⟨k, p, hzk, rfl, rfl, hpv, hz, hX, hE⟩ := hrel
    by_cases hlt : k < ts.length
    · obtain ⟨b, o, rfl, hb, hx⟩ := HT.out.row.at_ (i := k) (by simpa using hlt)
      obtain ⟨f0, f1, f2⟩ := TL.at_ hlt hx hb hE.out
      have hbw : b < wr.heap.size := Nat.lt_of_lt_of_le hb hE.out.size
      have HTK := Hm (fun W (h : Ext wr W) => HTR.out _ (List.getElem_mem hlt) W (hE.out.trans h))
      have HXA := Hm (xid_at hlt)
      have HPR := Hm (fun h h2 => ch_pre (l := LC) hlt h h2)
      have HOW := Hm (fun h => ch_own (l := LC) hlt h)
      have HBD := Hm (fun h => ck_bad (xs := ts.map TL.t) (l := LC) (by simpa using hlt) hz.out h)
      obtain ⟨x, hxx⟩ : ∃ x, x = ts[k] := ⟨_, rfl⟩
      rw [← hxx] at f0 f1 f2 HTK HXA HPR HOW
      clear hxx hx hb
      have HLT := Hm hlt
      obtain ⟨E, hEE⟩ : ∃ E, E = rtE x.t LC := ⟨_, rfl⟩
      obtain ⟨P, hPP⟩ : ∃ P, P = rtP x.t LC := ⟨_, rfl⟩
      rw [← hEE, ← hPP] at HTK HOW
      clear hEE hPP
      obtain ⟨xid, st, es, ta, tc⟩ := x
      unfold TL.agg at HTK
      simp only at f0 f1 f2 HTK HXA HPR HOW
      by_cases hk0 : k = 0
      · subst hk0
        simp only [Nat.zero_mul, Nat.add_zero] at f0 f1 f2
        obtain ⟨hce, hcp⟩ := HOW.out (fun h => absurd h.1 (by omega))
        by_cases hE0 : E = 0
        · subst hE0
          have HCE := Hm hce
          clear hce hcp hpv
          go_wp2_with (go_at_call 30; refine (HTK.out _ (by exact eX)).mono ?_; rintro e w1 ⟨rfl, hb1⟩; have HE1 := Hm (show Ext wr w1 by exact eX); clear hb1)
          go_roundg (ts.length - 1)
          case measure => have := HLT.out; omega
          case rel =>
            exact ⟨1, _, Nat.sub_add_cancel HLT.out, rfl, by go_num, Hm (fun _ => HXA.out.symm), Hm (fun j hj => by
              obtain rfl : j = 0 := by omega
              exact HCE.out), Hm (hX.out.ext HE1.out), Hm (hE.out.trans HE1.out)⟩
        · have hE1 : (E != 0) = true := by simpa using hE0
          have h := HBD.out (by rw [hce]; exact hE0)
          rw [hce, hcp] at h
          have HR := Hm h
          clear h hce hcp hpv hE0
          go_wp2_with (go_at_call 30; refine (HTK.out _ (by exact eX)).mono ?_; rintro e w1 ⟨rfl, hb1⟩; have HE1 := Hm (show Ext wr w1 by exact eX); have gx := (hX.out.ext HE1.out).cell; have gxf := (hX.out.ext HE1.out).frozen; have zx := (hX.out.ext HE1.out).lt; clear hb1)
          (have eT := HR.out.1; have eP := HR.out.2.1; have eE := HR.out.2.2; simp [bodyPost, results, Tryz.results16, go_sem, *]; have := hE.out.trans HE1.out; exact eX)
      · have hkp : 0 < k := by omega
        have hd : decide ((0 : Int) < (k : Int)) = true := decide_eq_true (by omega)
        obtain rfl := hpv.out hkp
        obtain ⟨p, hp⟩ : ∃ p, p = (ts.map TL.xid).getD (k - 1) 0 := ⟨_, rfl⟩
        rw [← hp] at HPR HOW ⊢
        clear hpv hp
        by_cases hle : xid ≤ p
        · obtain ⟨hce, hcp⟩ := HPR.out hkp hle
          have h := HBD.out (by rw [hce]; decide)
          rw [hce, hcp] at h
          have HR := Hm h
          have HE1 : Hid (Ext wr wr) := Hm (Ext.refl _)
          have gx := hX.out.cell
          have gxf := hX.out.frozen
          have zx := hX.out.lt
          clear h hce hcp
          go_wp2
          have eT := HR.out.1
          have eP := HR.out.2.1
          have eE := HR.out.2.2
          simp [bodyPost, results, Tryz.results16, go_sem, *]
          have := hE.out
          exact eX
        · have hle2 : decide (xid ≤ p) = false := decide_eq_false hle
          obtain ⟨hce, hcp⟩ := HOW.out (fun h => hle h.2)
          by_cases hE0 : E = 0
          · subst hE0
            have HCE := Hm hce
            clear hce hcp
            go_wp2_with (go_at_call 30; refine (HTK.out _ (by exact eX)).mono ?_; rintro e w1 ⟨rfl, hb1⟩; have HE1 := Hm (show Ext wr w1 by exact eX); clear hb1)
            go_roundg (ts.length - (k + 1))
            case measure => have := HLT.out; omega
            case rel =>
              exact ⟨k + 1, _, Nat.sub_add_cancel HLT.out, rfl, by go_num, Hm (fun _ => by rw [Nat.add_sub_cancel]; exact HXA.out.symm), Hm (fun j hj => if e : j = k then (by subst e; exact HCE.out) else hz.out j (by omega)), Hm (hX.out.ext HE1.out), Hm (hE.out.trans HE1.out)⟩
          · have hE1 : (E != 0) = true := by simpa using hE0
            have h := HBD.out (by rw [hce]; exact hE0)
            rw [hce, hcp] at h
            have HR := Hm h
            clear h hce hcp hE0
            go_wp2_with (go_at_call 30; refine (HTK.out _ (by exact eX)).mono ?_; rintro e w1 ⟨rfl, hb1⟩; have HE1 := Hm (show Ext wr w1 by exact eX); have gx := (hX.out.ext HE1.out).cell; have gxf := (hX.out.ext HE1.out).frozen; have zx := (hX.out.ext HE1.out).lt; clear hb1)
            (have eT := HR.out.1; have eP := HR.out.2.1; have eE := HR.out.2.2; simp [bodyPost, results, Tryz.results16, go_sem, *]; have := hE.out.trans HE1.out; exact eX)
    · obtain rfl : k = ts.length := by omega
      have HR := Hm (ck_ok (xs := ts.map TL.t) (l := LC) (fun j hj => hz.out j (by simpa using hj)))
      have gx := hX.out.cell
      have gxf := hX.out.frozen
      have zx := hX.out.lt
      obtain ⟨n0, n1, n2⟩ := (HN.out.ext hE.out).1
      have nz := (HN.out.ext hE.out).2
      go_wp2
      have eT := HR.out.1
      have eP := HR.out.2.1
      have eE := HR.out.2.2
      simp [bodyPost, results, Tryz.results16, go_sem, *]
      have := hE.out
      exact eX
end Go.Proofs.YtdlhaidlokkmnaaGreatDoor
