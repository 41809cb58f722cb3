/-
Transactions that lie somewhere; the laws' Great.
-/
import Derived.Maps.AppendAt
import Derived.Orders
import Derived.Test.YtihldginolbooaaGreatDoorP8
import Derived.Test.YtihldginolbooaaGreatDoorP22
import Derived.Test.YtihldginolbooaaGreatDoorP16
import Derived.Test.YtihldginolbooaaGreatDoorP3
import Derived.Test.YtihldginolbooaaGreatDoorP1
namespace Go.Proofs.YtihldginolbooaaGreatDoor
open Go.RowKit

/-- A transaction that lies somewhere. -/
structure TL where
  xid : Int
  st : Int
  es : List EL
  a : Option Addr
  c : Nat
def TL.vals (x : TL) : List Value := [.int .u32 x.xid, .int .u64 x.st, .slice x.a x.es.length x.c]
def TL.agg (x : TL) : Value := .agg #[.int .u32 x.xid, .int .u64 x.st, .slice x.a x.es.length x.c]
def TL.at (n : Nat) (f : K → List Value) (W : World) (x : TL) : Prop := ES n f W (.slice x.a x.es.length x.c) x.es
theorem TL.at.ext {n : Nat} {f : K → List Value} {W W' : World} {x : TL} (h : x.at n f W) (he : Ext W W') : x.at n f W' := ES.ext h he
theorem TL.at_ {w wr : World} {b o : Nat} {l : List TL} {k : Nat} (hk : k < l.length) (hc : ∀ j, j < 3 → w.cell? ⟨b, o + k * 3 + j, none⟩ = ((l.map TL.vals).getD k [])[j]?) (hb : b < w.heap.size) (hE : Ext w wr) :
    wr.cell? ⟨b, o + k * 3, none⟩ = some (.int .u32 l[k].xid) ∧ wr.cell? ⟨b, o + k * 3 + 1, none⟩ = some (.int .u64 l[k].st) ∧ wr.cell? ⟨b, o + k * 3 + 2, none⟩ = some (.slice l[k].a l[k].es.length l[k].c) := by
  rw [getD_map TL.vals l hk] at hc
  have c := hE.cells.1 b
  exact ⟨(c _ hb).trans (hc 0 (by omega)), (c _ hb).trans (hc 1 (by omega)), (c _ hb).trans (hc 2 (by omega))⟩
/-- Transactions in a row. -/
structure TS (n : Nat) (f : K → List Value) (W : World) (v : Value) (xs : List TL) : Prop where
  row : Sl W v 3 (xs.map TL.vals)
  sl : ∀ x ∈ xs, x.at n f W
theorem TS.ext {n : Nat} {f : K → List Value} {W W' : World} {v : Value} {xs : List TL} (h : TS n f W v xs) (he : Ext W W') : TS n f W' v xs := ⟨h.row.ext he, fun x hx => (h.sl x hx).ext he⟩
/-- What is known of the sizes of an event, of a transaction, of the arguments. -/
structure Ev.sz (e : Ev) : Prop where
  b : e.b.length ≤ 9223372036854775807
  a : e.a.length ≤ 9223372036854775807
  r : e.rs.length ≤ 9223372036854775807
  sb : ∀ c ∈ e.b, c.wk
  sa : ∀ c ∈ e.a, c.wk
  kind : 0 ≤ e.kind ∧ e.kind < 256
  old : 0 ≤ e.old ∧ e.old < 256
  fl : 0 ≤ e.fl ∧ e.fl < 256
structure TL.sz (x : TL) : Prop where
  n : x.es.length ≤ 1500000000000
  e : ∀ e ∈ x.es, e.e.sz
  xid : 0 ≤ x.xid
/-- Not great. -/
structure Ev.lit (e : Ev) : Prop where
  b : e.b.length ≤ 20
  a : e.a.length ≤ 20
  r : e.rs.length ≤ 30
  sb : ∀ c ∈ e.b, c.v.s.size ≤ 3000
  sa : ∀ c ∈ e.a, c.v.s.size ≤ 3000
def manyT (ts : List TL) (k : Nat) : Nat := ((ts.take k).map fun t => t.es.length).sum
structure Lit (ps : List RR) (ts : List TL) : Prop where
  n : ps.length ≤ 70
  t : ts.length ≤ 60
  es : manyT ts ts.length ≤ 600
  e : ∀ t ∈ ts, ∀ e ∈ t.es, e.e.lit
  r : ∀ p ∈ ps, p.r.cols.length ≤ 20
def GreatT (ps : List RR) (ts : List TL) (w : World) (e : Ending) (w' : World) : Prop := ∃ g : Bool, e = .returned (.bool g) ∧ (g = false → Lit ps ts) ∧ Ext w w'
theorem manyT_succ {ts : List TL} {k : Nat} (hk : k < ts.length) : manyT ts (k + 1) = manyT ts k + ts[k].es.length := by
  unfold manyT
  rw [List.take_succ_eq_append_getElem hk, List.map_append, List.sum_append]; simp
theorem manyT_bd {ts : List TL} (h : ∀ t ∈ ts, t.sz) (k : Nat) : manyT ts k ≤ k * 1500000000000 := by
  induction k with
  | zero => exact Nat.le_of_eq (by unfold manyT; rw [Nat.zero_mul]; rfl)
  | succ k ih =>
    by_cases hk : k < ts.length
    · rw [manyT_succ hk, Nat.succ_mul]; exact Nat.add_le_add ih (h _ (List.getElem_mem hk)).n
    · have e : manyT ts (k + 1) = manyT ts k := by unfold manyT; rw [List.take_of_length_le (by omega), List.take_of_length_le (by omega)]
      rw [e]; exact Nat.le_trans ih (Nat.mul_le_mul_right _ (by omega))

/-- What is known when k transactions were looked at. -/
structure GrI (ts : List TL) (m : Int) (k : Nat) : Prop where
  mm : ts.length ≤ 60 → m = manyT ts k
  e : ts.length ≤ 60 → m ≤ 600 → ∀ j (h : j < ts.length), j < k → ∀ e ∈ ts[j].es, e.e.lit
theorem GrI.zero (ts : List TL) : GrI ts 0 0 := ⟨fun _ => rfl, fun _ _ j _ h => by omega⟩
theorem GrI.succ {ts : List TL} {m : Int} {k : Nat} (h : GrI ts m k) (hs : ∀ t ∈ ts, t.sz) (hk : k < ts.length) (he : wrap64 (m + (ts[k].es.length : Nat)) ≤ 600 → ∀ e ∈ ts[k].es, e.e.lit) : GrI ts (wrap64 (m + (ts[k].es.length : Nat))) (k + 1) := by
  have hw : ts.length ≤ 60 → wrap64 (m + (ts[k].es.length : Nat)) = manyT ts (k + 1) := fun h60 => by
    have h1 := h.mm h60
    have h2 := manyT_bd hs k
    have h3 := (hs _ (List.getElem_mem hk)).n
    have h4 : k * 1500000000000 ≤ 60 * 1500000000000 := Nat.mul_le_mul_right _ (by omega)
    rw [manyT_succ hk, h1]
    have e : ((manyT ts k : Nat) : Int) + ((ts[k].es.length : Nat) : Int) = ((manyT ts k + ts[k].es.length : Nat) : Int) := by omega
    rw [e]
    exact IntWalk.wrap64_in _ (by omega)
  refine ⟨hw, fun h60 hm j hj hjk => ?_⟩
  by_cases e : j = k
  · subst e; exact he hm
  · refine h.e h60 ?_ j hj (by omega)
    rw [h.mm h60]
    rw [hw h60, manyT_succ hk] at hm
    omega

set_option maxRecDepth 100000 in set_option maxHeartbeats 4000000 in
theorem greatT_any (ps : List RR) (ts : List TL) (a a2 : Option Addr) (c c2 : Nat) (w : World) (hp : RL w (.slice a ps.length c) ps) (ht : TS 6 K.rc w (.slice a2 ts.length c2) ts) (hn : ps.length ≤ 9223372036854775807) (hm : ts.length ≤ 9223372036854775807) (hw : ∀ p ∈ ps, p.r.wb) (hs : ∀ t ∈ ts, t.sz) :
    Calls Tryz.prog 19 #[.slice a ps.length c, .slice a2 ts.length c2] w (GreatT ps ts w) := by
  have HP := Hid.mk' hp
  have HT := Hid.mk' ht
  have HW := Hid.mk' hw
  have HS := Hid.mk' hs
  have HGR := Hid.mk' (fun W p (h : Ext w W) (hp' : p ∈ ps) => (show Calls Tryz.prog 47 #[.slice none 0 0, p.agg] W (GreatK [] p.r.cols p.r.nm W) from greatK_any [] none 0 p.r.oid p.r.ver p.r.nm p.r.id p.r.cols p.a p.c W ⟨none, 0, rfl, .inl rfl⟩ ((hp.sl p hp').ext h) (by simp) (by have := (hw p hp').n; omega) (by intro c hc; cases hc) (hw p hp').cs (hw p hp').nm))
  have HGK := Hid.mk' (fun W (l : List K) (ab : Option Addr) (cb : Nat) (h : Sl W (.slice ab l.length cb) 6 (l.map K.rc)) (h1 : l.length ≤ 9223372036854775807) (h2 : ∀ c ∈ l, K.wk c) => (show Calls Tryz.prog 47 #[.slice ab l.length cb, .agg #[.int .u32 0, .int .u32 0, .string ⟨#[]⟩, .int .u8 0, .slice none 0 0]] W (GreatK l [] ⟨#[]⟩ W) from greatK_any l ab cb 0 0 ⟨#[]⟩ 0 [] none 0 W h ⟨none, 0, rfl, .inl rfl⟩ h1 (by simp) (fun c hc => (h2 c hc).s) (by intro c hc; cases hc) (by show 0 ≤ 9223372036854775807; omega)))
  clear hp ht hw hs
  go_enter Tryz.func19, Tryz.ntmps19
  go_wp2
  go_loopg [5, 6] ts.length (fun z mv i wr => ∃ (m : Int) (k : Nat), z + k = ts.length ∧ i = .int .i64 k ∧ mv = .int .i64 m ∧ Hid (GrI ts m k) ∧ Hid (Ext w wr))
  case atStart => exact ⟨0, 0, by omega, rfl, rfl, Hid.mk' (GrI.zero ts), Hid.mk' (Ext.refl _)⟩
  case round =>
    obtain ⟨m, k, hzk, rfl, rfl, hG, hE⟩ := hrel
    by_cases hlt : k < ts.length
    · obtain ⟨b, o, rfl, hb, hx⟩ := HT.out.row.at_ (i := k) (by simpa using hlt)
      have HF := Hid.mk' (fun W (h : Ext w W) => TL.at_ hlt hx hb h)
      obtain ⟨f0, f1, f2⟩ := HF.out wr hE.out
      have hbw : b < wr.heap.size := Nat.lt_of_lt_of_le hb hE.out.size
      have HES := Hid.mk' (HT.out.sl _ (List.getElem_mem hlt))
      have HSZ := Hid.mk' (HS.out _ (List.getElem_mem hlt))
      have HNX := Hid.mk' (fun he => GrI.succ hG.out HS.out hlt he)
      obtain ⟨t, ht⟩ : ∃ t, t = ts[k] := ⟨_, rfl⟩
      rw [← ht] at HF f0 f1 f2 HES HSZ HNX
      clear ht hx
      obtain ⟨xid, st, es, ta, tc⟩ := t
      simp only at HF f0 f1 f2 HSZ HNX
      have HES2 : Hid (ES 6 K.rc w (.slice ta es.length tc) es) := HES
      clear HES
      obtain ⟨X, hX⟩ : ∃ X, X = wrap64 (m + (es.length : Nat)) := ⟨_, rfl⟩
      rw [← hX] at HNX
      have HX := Hid.mk' hX
      clear hX
      obtain ⟨wo, hwo⟩ : ∃ x, x = wr := ⟨_, rfl⟩
      subst hwo
      have HEo := Hid.mk' hE.out
      clear hE
      go_wp2
      rw [show wrap64 (m + (es.length : Int)) = X from HX.out.symm]
      go_loopg [7] es.length (fun z2 i wr => ∃ (n : Nat), z2 + n = es.length ∧ i = .int .i64 n ∧ Hid (∀ j (h : j < es.length), j < n → es[j].e.lit) ∧ Hid (Ext wo wr))
      case atStart => exact ⟨0, by omega, rfl, Hid.mk' (fun j _ h => by omega), Hid.mk' (Ext.refl _)⟩
      case round =>
        obtain ⟨n, hzn, rfl, hL, hE⟩ := hrel
        have HEr := Hid.mk' (HEo.out.trans hE.out)
        clear f0 f1 f2
        obtain ⟨f0, f1, f2⟩ := HF.out wr HEr.out
        have hbw2 : b < wr.heap.size := Nat.lt_of_lt_of_le hbw hE.out.size
        by_cases hlt2 : n < es.length
        · by_cases hX6 : X ≤ 600
          · obtain ⟨b2, o2, rfl, hb2, hx2⟩ := HES2.out.row.at_ (i := n) (by simpa using hlt2)
            have hbw3 : b2 < wr.heap.size := Nat.lt_of_lt_of_le hb2 HEr.out.size
            obtain ⟨g0, g1, g2, g3, g4, g5, g6, g7⟩ := EL.at_ hlt2 hx2 hb2 HEr.out
            have hxa := HES2.out.sl _ (List.getElem_mem hlt2)
            have hxs := HSZ.out.e _ (List.getElem_mem hlt2)
            obtain ⟨x, hxx⟩ : ∃ x, x = es[n] := ⟨_, rfl⟩
            rw [← hxx] at g0 g1 g2 g3 g4 g5 g6 g7 hxa hxs
            have HXX := Hid.mk' hxx
            have HKB := Hid.mk' (fun W (h : Ext w W) => HGK.out W x.e.b x.ba x.bc (hxa.b.ext h) hxs.b hxs.sb)
            have HKA := Hid.mk' (fun W (h : Ext w W) => HGK.out W x.e.a x.aa x.ac (hxa.a.ext h) hxs.a hxs.sa)
            have hxr := hxs.r
            have hlen := HSZ.out.n
            obtain ⟨⟨k1, ao1, av1, old1, b1, a1, r1, fl1⟩, ba1, bc1, aa1, ac1, ra1, rc1⟩ := x
            simp only at g0 g1 g2 g3 g4 g5 g6 g7 HKB HKA hxr
            clear hxa hxs hxx hx2
            go_wp2_with (first
              | (go_at_call_of 47 (Value.slice ba1 b1.length bc1); (with_reducible refine (HKB.out _ (by have := HEr.out; exact eX)).mono ?_); rintro e w2 ⟨g, rfl, hg, hb2⟩; (have hE_w2 : Ext (wr.alloc (.cells #[.int .u8 k1, .int .u32 ao1, .int .u32 av1, .int .u8 old1, .slice ba1 b1.length bc1, .slice aa1 a1.length ac1, .slice ra1 r1.length rc1, .int .u8 fl1] 33)) w2 := (by exact eX); obtain ⟨hc_w2, hf_w2⟩ := hE_w2.cells; have hz_w2 := hE_w2.size); have HGB := Hid.mk' hg; clear hg; cases g)
              | (go_at_call_of 47 (Value.slice aa1 a1.length ac1); (with_reducible refine (HKA.out _ (by have := HEr.out; exact eX)).mono ?_); rintro e w3 ⟨g, rfl, hg, hb3⟩; (have hE_w3 : Ext (wr.alloc (.cells #[.int .u8 k1, .int .u32 ao1, .int .u32 av1, .int .u8 old1, .slice ba1 b1.length bc1, .slice aa1 a1.length ac1, .slice ra1 r1.length rc1, .int .u8 fl1] 33)) w3 := (by exact eX); obtain ⟨hc_w3, hf_w3⟩ := hE_w3.cells; have hz_w3 := hE_w3.size); have HGA := Hid.mk' hg; clear hg; cases g))
            all_goals first
              | (go_ret; exact ⟨true, rfl, (fun h => by cases h), HEr.out.trans (by exact eX)⟩)
              | skip
            have HXL : Hid (es[n].e.lit) := Hid.mk' (by
              rw [← HXX.out]
              have hb := HGB.out (by first | exact rfl | exact trivial)
              have ha := HGA.out (by first | exact rfl | exact trivial)
              exact ⟨hb.2.2.1, ha.2.2.1, by show r1.length ≤ 30; omega, hb.1, ha.1⟩)
            go_roundg (es.length - (n + 1))
            case measure => omega
            case rel => exact ⟨n + 1, by omega, by go_num, Hid.mk' (fun j hj hjn => by
              by_cases e : j = n
              · subst e; exact HXL.out
              · exact hL.out j hj (by omega)), Hid.mk' (hE.out.trans (by exact eX))⟩
          · go_wp2
            go_roundg (ts.length - (k + 1))
            case measure => omega
            case rel => exact ⟨X, k + 1, by omega, by go_num, rfl, Hid.mk' (HNX.out (fun h => by omega)), HEr⟩
        · obtain rfl : n = es.length := by omega
          have HNX2 := Hid.mk' (HNX.out (fun _ e he => by
            obtain ⟨j, hj, rfl⟩ := List.getElem_of_mem he
            exact hL.out j hj hj))
          go_wp2
          go_roundg (ts.length - (k + 1))
          case measure => omega
          case rel => exact ⟨X, k + 1, by omega, by go_num, rfl, HNX2, HEr⟩
    · obtain rfl : k = ts.length := by omega
      obtain ⟨wo, hwo⟩ : ∃ x, x = wr := ⟨_, rfl⟩
      subst hwo
      go_wp2
      go_loopg [9] ps.length (fun z i wr => ∃ (n : Nat), z + n = ps.length ∧ i = .int .i64 n ∧ Hid (∀ j (h : j < ps.length), j < n → ps[j].r.cols.length ≤ 20) ∧ Hid (Ext wo wr))
      case atStart => exact ⟨0, by omega, rfl, Hid.mk' (fun j _ h => by omega), Hid.mk' (Ext.refl _)⟩
      case round =>
        obtain ⟨n, hzn, rfl, hL, hF⟩ := hrel
        by_cases hlt2 : n < ps.length
        · obtain ⟨b, o, rfl, hb, hx⟩ := HP.out.row.at_ (i := n) (by simpa using hlt2)
          obtain ⟨f0, f1, f2, f3, f4⟩ := RR.at_ hlt2 hx hb (hE.out.trans hF.out)
          have hbw : b < wr.heap.size := Nat.lt_of_lt_of_le hb (hE.out.trans hF.out).size
          have HPM := Hid.mk' (List.getElem_mem hlt2)
          obtain ⟨p, hp⟩ : ∃ p, p = ps[n] := ⟨_, rfl⟩
          rw [← hp] at f0 f1 f2 f3 f4 HPM
          have HPP := Hid.mk' hp
          have HGP := Hid.mk' (fun W (h : Ext w W) => HGR.out W p h HPM.out)
          unfold RR.agg at HGP
          clear hp hx
          go_wp2_with (go_at_call 47; refine (HGP.out _ (hE.out.trans hF.out)).mono ?_; rintro e w2 ⟨g, rfl, hg, hb2⟩; have HGB := Hid.mk' hg; clear hg; cases g)
          all_goals first
            | (go_ret; exact ⟨true, rfl, (fun h => by cases h), (hE.out.trans hF.out).trans (by exact eX)⟩)
            | skip
          go_roundg (ps.length - (n + 1))
          case measure => omega
          case rel => exact ⟨n + 1, by omega, by go_num, Hid.mk' (fun j hj hjn => by
            by_cases e : j = n
            · subst e; rw [← HPP.out]; exact (HGB.out (by first | exact rfl | exact trivial)).2.2.2.1
            · exact hL.out j hj (by omega)), Hid.mk' (hF.out.trans (by exact eX))⟩
        · obtain rfl : n = ps.length := by omega
          by_cases h6 : 600 < m
          · go_wp2
            go_ret
            exact ⟨true, rfl, (fun h => by cases h), hE.out.trans hF.out⟩
          by_cases h60 : 60 < ts.length
          · go_wp2
            go_ret
            exact ⟨true, ret_bool (by first | (simp; done) | (simp; omega)), (fun h => by cases h), hE.out.trans hF.out⟩
          by_cases h70 : 70 < ps.length
          · go_wp2
            go_ret
            exact ⟨true, ret_bool (by first | (simp; done) | (simp; omega)), (fun h => by cases h), hE.out.trans hF.out⟩
          have HLIT : Hid (Lit ps ts) := Hid.mk' (by
            have e1 := hG.out.mm (by omega)
            have e2 := hG.out.e (by omega) (by omega)
            refine ⟨by omega, by omega, by omega, fun t ht e he => ?_, fun p hp => ?_⟩
            · obtain ⟨j, hj, rfl⟩ := List.getElem_of_mem ht
              exact e2 j hj hj e he
            · obtain ⟨j, hj, rfl⟩ := List.getElem_of_mem hp
              exact hL.out j hj hj)
          go_wp2
          go_ret
          exact ⟨false, ret_bool (by first | (simp; done) | (simp; omega)), fun _ => HLIT.out, hE.out.trans hF.out⟩

end Go.Proofs.YtihldginolbooaaGreatDoor

/-
Append of any row, nil or not, to what a call owns.
-/
namespace Go.Proofs.YtihldginolbooaaGreatDoor
open Go.RowKit

theorem run_app_nil {P : Program} {w : World} (base : Nat) (t ty e : TypeId) (i : TypeInfo) (size : Nat) (ht : P.underlying t = some (.slice e)) (hi : P.info? e = some i)
    (v : Value) (n : Nat) (xs : List Value) (hown : w.ownsRow base e size v n xs) (c : Nat) : (Builtin.append_ #[t, t] ty #[v, .slice none 0 c]).run P w = .ok v w := by
  rcases hown.2 with ⟨rfl, rfl⟩ | ⟨g, cap, cur, rfl, _, _, hnc, _⟩
  · simp [Builtin.append_, run_underlying ht, sizeOf, typeInfo, hi, Builtin.lenOf, Builtin.firstCells]
  · simp [Builtin.append_, run_underlying ht, sizeOf, typeInfo, hi, Builtin.lenOf, Builtin.firstCells, hnc, storeCells]
theorem news_sl {w : World} {b o k : Nat} {xss : List (List Value)} (hk0 : 0 < k) (hk : ∀ ys ∈ xss, ys.length = k) (h : ∀ i, i < xss.length → ∀ j, j < k → w.cell? ⟨b, o + i * k + j, none⟩ = (xss.getD i [])[j]?) :
    ∀ j u, xss.flatten[j]? = some u → w.cell? ((⟨b, o, none⟩ : Addr).add j) = some u := by
  intro j u hj
  have hjl : j < xss.length * k := by
    rcases Nat.lt_or_ge j (xss.length * k) with h | h
    · exact h
    · rw [List.getElem?_eq_none (by rw [flat_length k xss hk]; exact h)] at hj; cases hj
  have hplain : (⟨b, o, none⟩ : Addr).add j = ⟨b, o + j, none⟩ := by unfold Addr.add; split <;> simp_all
  have hi : j / k < xss.length := (Nat.div_lt_iff_lt_mul hk0).2 hjl
  have hq := flat_get k xss hk (j / k) hi (j % k) (Nat.mod_lt _ hk0)
  have hm : j / k * k + j % k = j := by rw [Nat.mul_comm]; exact Nat.div_add_mod j k
  rw [hm] at hq
  rw [hplain, ← hj, hq, ← h (j / k) hi (j % k) (Nat.mod_lt _ hk0), Nat.add_assoc, hm]

end Go.Proofs.YtihldginolbooaaGreatDoor

/-
A region that draws its order, by an invariant over what has come up: one proof for each operation, not for each order.
-/
namespace Go.Proofs.YtihldginolbooaaGreatDoor
open Go.RowKit

theorem left_set : ∀ (l : List Bool) (i : Nat), l[i]? = some false → ((l.set i true).filter (· == false)).length + 1 = (l.filter (· == false)).length := by
  intro l
  induction l with
  | nil => intro i h; simp at h
  | cons b l ih =>
    intro i h
    cases i with
    | zero => simp at h; subst h; simp
    | succ i =>
      have := ih i (by simpa using h)
      cases b <;> simp at * <;> omega

section
variable {P : Program} {ops : Array Oper} {Q : Exit → Act → World → Prop} {md : Region.Mode}

theorem wpAny_inv (Inv : Array Bool → Act → World → Prop)
    (fin : ∀ L a w, L.size = ops.size → Inv L a w → Region.ready md ops L = [] → Q .normal a w)
    (step : ∀ L a w i, L.size = ops.size → Inv L a w → i ∈ Region.ready md ops L → wpOp P ops Q i (fun a' w' => Inv (L.setIfInBounds i true) a' w') a w) :
    ∀ (fuel : Nat) (L : Array Bool) (a : Act) (w : World), Inv L a w → L.size = ops.size → (L.toList.filter (· == false)).length ≤ fuel → wpAny P md ops Q fuel L a w := by
  intro fuel
  induction fuel with
  | zero =>
    intro L a w h hs hl
    have hr : Region.ready md ops L = [] := by
      unfold Region.ready
      rw [List.filter_eq_nil_iff]
      intro i hi
      have hi' : i < L.size := by rw [hs]; exact List.mem_range.1 hi
      have h0 : (L.toList.filter (· == false)) = [] := List.length_eq_zero_iff.1 (by omega)
      rw [List.filter_eq_nil_iff] at h0
      have h1 := h0 L[i] (by simp)
      have : L.getD i true = true := by
        simp only [Array.getD_eq_getD_getElem?, Array.getElem?_eq_getElem hi', Option.getD_some]
        cases h2 : L[i] with
        | true => rfl
        | false => rw [h2] at h1; simp at h1
      simp [this]
    exact ⟨hr, fin L a w hs h hr⟩
  | succ fuel ih =>
    intro L a w h hs hl
    refine ⟨fun hr => fin L a w hs h hr, fun i hi => wpOp_mono (fun a' w' h' => ih _ _ _ h' (by simpa using hs) ?_) (step L a w i hs h hi)⟩
    have h1 := (mem_ready.1 hi).1
    have hlt : i < L.size := by
      rcases Nat.lt_or_ge i L.size with h2 | h2
      · exact h2
      · simp [Array.getD_eq_getD_getElem?, Array.getElem?_eq_none h2] at h1
    have h2 : L.toList[i]? = some false := by
      simp only [Array.getD_eq_getD_getElem?, Array.getElem?_eq_getElem hlt, Option.getD_some] at h1
      rw [Array.getElem?_toList, Array.getElem?_eq_getElem hlt, h1]
    have := left_set L.toList i h2
    rw [Array.toList_setIfInBounds]
    omega

theorem wp_region_inv {id : Nat} {a : Act} {w : World} (hm : P.follows .mixedOrders = true) (Inv : Array Bool → Act → World → Prop)
    (h0 : Inv (Array.replicate ops.size false) a { w with drawn := w.drawn + 1 })
    (fin : ∀ L a w, L.size = ops.size → Inv L a w → Region.ready .any ops L = [] → Q .normal a w)
    (step : ∀ L a w i, L.size = ops.size → Inv L a w → i ∈ Region.ready .any ops L → wpOp P ops Q i (fun a' w' => Inv (L.setIfInBounds i true) a' w') a w) : (Code.region id ops true).wp P Q a w := by
  refine wp_region_any hm (wpAny_inv Inv fin step _ _ _ _ h0 (by simp) ?_)
  refine Nat.le_trans (List.length_filter_le _ _) (by simp)

theorem wpOp_ok {i : Nat} {o : Oper} {a : Act} {w : World} {K : Act → World → Prop} (hi : ops[i]? = some o) (hg : o.guard = none) (h : o.wp P a w K Q) : wpOp P ops Q i K a w := by
  unfold wpOp
  simp only [hi]
  rw [if_pos (by simp [Region.wanted, hg])]
  exact .inl h

/-- Has number j come up? -/
def up (L : Array Bool) (j : Nat) : Prop := L.getD j false = true
theorem up_set {L : Array Bool} {i j : Nat} (hi : i < L.size) : up (L.setIfInBounds i true) j ↔ j = i ∨ up L j := by
  unfold up
  simp only [Array.getD_eq_getD_getElem?, Array.getElem?_setIfInBounds]
  by_cases h : i = j
  · subst h; simp [hi]
  · simp [h, Ne.symm h]
theorem up_none {n j : Nat} : ¬ up (Array.replicate n false) j := by
  unfold up
  simp only [Array.getD_eq_getD_getElem?, Array.getElem?_replicate]
  split <;> simp
theorem ready_dep {L : Array Bool} {i : Nat} {o : Oper} (h : i ∈ Region.ready md ops L) (ho : ops[i]? = some o) {e : Edge} (he : e ∈ o.after) (hb : Region.binds md e = true) : up L e.on := by
  obtain ⟨_, o', ho', h2⟩ := mem_ready.1 h
  rw [ho] at ho'
  cases ho'
  exact h2 e he hb
theorem ready_lt {L : Array Bool} {i : Nat} (h : i ∈ Region.ready md ops L) : i < ops.size := by
  unfold Region.ready at h
  exact List.mem_range.1 (List.mem_filter.1 h).1
/-- What may come up has come up, at the end. -/
theorem up_of_done {L : Array Bool} {i : Nat} {o : Oper} (hr : Region.ready md ops L = []) (hs : L.size = ops.size) (ho : ops[i]? = some o) (hd : ∀ e ∈ o.after, Region.binds md e = true → up L e.on) : up L i := by
  refine Classical.byContradiction fun h => ?_
  have hi : i < L.size := by
    rw [hs]
    rcases Nat.lt_or_ge i ops.size with h2 | h2
    · exact h2
    · rw [Array.getElem?_eq_none h2] at ho; cases ho
  have h1 : L.getD i true = false := by
    unfold up at h
    simp only [Array.getD_eq_getD_getElem?, Array.getElem?_eq_getElem hi, Option.getD_some] at *
    simpa using h
  have : i ∈ Region.ready md ops L := mem_ready.2 ⟨h1, o, ho, hd⟩
  rw [hr] at this
  cases this
end

end Go.Proofs.YtihldginolbooaaGreatDoor
