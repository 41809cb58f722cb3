/-
The program's iterator over a story's messages: what makes it; how one message is handed out.
-/
import Derived.RangeFuncNested
import Derived.Test.YtdlhaidlokkmnaaGreatDoorP33
import Derived.Test.YtdlhaidlokkmnaaGreatDoorP23
import Derived.Test.YtdlhaidlokkmnaaGreatDoorP30
import Derived.Test.YtdlhaidlokkmnaaGreatDoorP5
import Derived.Test.YtdlhaidlokkmnaaGreatDoorP9
import Derived.Test.YtdlhaidlokkmnaaGreatDoorP15
import Derived.Test.YtdlhaidlokkmnaaGreatDoorP20
set_option maxRecDepth 100000
set_option maxHeartbeats 16000000
namespace Go.Proofs.YtdlhaidlokkmnaaGreatDoor
open Go.RowKit
theorem YieldAt.any {m m' : Nat} {P : Program} {l : Nat} {args : Array Value} {W : World} {R : Ending → World → Prop} (h : YieldAt Fence.wide m P l args W R) : YieldAt Fence.wide m' P l args W R := by
  obtain ⟨fn, tmps, assign, body, h1, h2, h3⟩ := h
  exact ⟨fn, tmps, assign, body, h1, h2, fun c cs _ => h3 c cs (room_wide _)⟩
theorem one_in (F : Fence) (n : Nat) (_hFe : F = Fence.wide) (hF : F.fn 32) (hro : F.round = none) (hn : 1 ≤ n) (l b : Nat) (p : ML) (W : World) (R : World → Prop) (hb : Blk W b #[.func (.yield l) #[] #[]] 108)
    (hY : YieldAt F (n - 1) Tryz.prog l #[p.agg] (W.alloc (.cells p.arr 76)) fun e W' => e = .returned (.bool true) ∧ R W') :
    CallsIn F n Tryz.prog 32 #[p.agg, .bool true, .pointer (some ⟨b, 0, none⟩)] W fun e W' => e = .returned (.bool true) ∧ R W' := by
  obtain ⟨k, x, st, nn, ⟨⟨oid, ver, nm, id, cols⟩, ca, cc⟩, ⟨⟨kd, ao, av, old, lb, la, rs, fl⟩, ba, bc, aa, ac, ra, rc⟩⟩ := p
  unfold ML.agg ML.arr at hY
  unfold ML.agg ML.arr
  simp only at hY ⊢
  have HB := Hm hb
  have g0 := hb.cell
  have z0 := hb.lt
  obtain ⟨fn, tmps, assign, body, hy, hR⟩ := hY
  have HL := Hm (load17 (Blk.new W #[.int .u8 k, .int .u32 x, .int .u64 st, .int .u32 nn, .int .u32 oid, .int .u32 ver, .string nm, .int .u8 id, .slice ca cols.length cc, .int .u8 kd, .int .u32 ao, .int .u32 av, .int .u8 old, .slice ba lb.length bc, .slice aa la.length ac, .slice ra rs.length rc, .int .u8 fl] 76))
  have hl := HL.out
  clear hb _hFe
  refine callsIn_of_wp Tryz.func32 rfl hF ?_ hro
  simp only [Tryz.ntmps32, List.size_toArray, List.length_cons, List.length_nil, Nat.reduceAdd, Nat.reduceSub, Array.replicate_succ, Array.replicate_zero, List.push_toArray, List.append_toArray, List.nil_append, List.cons_append]
  gi_wp2_with (refine hR.mono ?_; rintro e W3 ⟨rfl, h3⟩)
  go_ret
  exact ⟨rfl, h3⟩
theorem messages_in (F : Fence) (n : Nat) (hF : F.fn 17) (hro : F.round = none) (g : Nat) (a : Option Addr) (m cap : Nat) (w : World) :
    CallsIn F n Tryz.prog 17 #[.pointer (some ⟨g, 0, none⟩), .slice a m cap] w fun e w' => e = .returned (.func (.func 31) #[] #[.pointer (some ⟨w.heap.size + 1, 0, none⟩), .pointer (some ⟨w.heap.size, 0, none⟩)]) ∧ w' = (w.alloc (.cells #[.pointer (some ⟨g, 0, none⟩)] 26)).alloc (.cells #[.slice a m cap] 36) := by
  refine callsIn_of_wp Tryz.func17 rfl hF ?_ hro
  simp only [Tryz.ntmps17, List.size_toArray, List.length_cons, List.length_nil, Nat.reduceAdd, Nat.reduceSub, Array.replicate_succ, Array.replicate_zero, List.push_toArray, List.append_toArray, List.nil_append, List.cons_append]
  gi_wp2
  go_ret
  exact ⟨rfl, rfl⟩
open Go.RowKit Go.Maps
structure MsI (J : List ML → World → Prop) (w0 : World) (M bc g b3 l m : Nat) (s : Said) (ys : List ML) (W : World) : Prop where
  ms : ys.map ML.m = s.1
  j : J ys W
  set : SetT W m s.2
  box : Blk W b3 #[.func (.yield l) #[] #[]] 108
  cat : Blk W bc #[.pointer (some ⟨g, 0, none⟩)] 26
  ext : Ext w0 W
  ok : ∀ y ∈ ys, y.ok
section
variable {J : List ML → World → Prop} {w0 W W' : World} {M bc g b3 l m N0 : Nat} {s : Said} {ys : List ML} {x : ML} {r : Rf}
theorem ext_grownS {w w' : World} (h : Ext w w') : w.grownBy w' none := ⟨h.os, h.tape, h.output, h.size, fun k hk _ => h.block k hk⟩
theorem MsI.go (h : MsI J w0 M bc g b3 l m s ys W) (hJ : AbidesFrom N0 J) (he : Ext W W') : MsI J w0 M bc g b3 l m s ys W' :=
  ⟨h.ms, hJ _ _ _ none h.j (ext_grownS he) (by simp), h.set.ext he, h.box.ext he, h.cat.ext he, h.ext.trans he, h.ok⟩
theorem MsI.said (h : MsI J w0 M bc g b3 l m s ys W) (hk : KpY 5 w0.heap.size M W W') (h3 : M ≤ b3) (hc : M ≤ bc) (hm : M ≤ m) (hj : J (ys ++ [x]) W') (hx : x.ok) : MsI J w0 M bc g b3 l m (s.1 ++ [x.m], s.2) (ys ++ [x]) W' :=
  ⟨by rw [List.map_append, h.ms]; rfl, hj, h.set.kpy hk hm, hk.blk h3 h.box (by decide), hk.blk hc h.cat (by decide), Below.trans h.ext hk.low, fun y hy => by
    rcases List.mem_append.1 hy with hy | hy
    · exact h.ok y hy
    · obtain rfl : y = x := by simpa using hy
      exact hx⟩
theorem not_map {W : World} {b m : Nat} {cs : Array Value} {t : TypeId} {es : Array MapEntry} {cl : Nat} (hb : Blk W b cs t) (hm : W.heap[m]? = some (.map es cl)) : b ≠ m := fun e => by
  subst e
  unfold Blk at hb
  rw [hm] at hb
  cases hb
theorem SetT.obj {l : List Rf} (h : SetT W m l) : ∃ (es : Array MapEntry) (cl : Nat), W.heap[m]? = some (.map es cl) := by
  obtain ⟨D, ⟨es, clock, hb, _⟩, -⟩ := h
  exact ⟨es, clock, hb⟩
theorem Blk.mapd {b : Nat} {cs : Array Value} {t : TypeId} {l : List Rf} (h : Blk W b cs t) (hs : SetT W m l) (hg : W.grownBy W' (some m)) : Blk W' b cs t := by
  obtain ⟨es, cl, ho⟩ := hs.obj
  exact (hg.block b h.lt (fun e => not_map h ho (by injection e))).trans h
theorem owns_mapd {N n k : Nat} {t : TypeId} {v : Value} {xs : List Value} {l : List Rf} (h : W.ownsRow N t k v n xs) (hs : SetT W m l) (hg : W.grownBy W' (some m)) : W'.ownsRow N t k v n xs := by
  refine owns_kp h (Kp.of_grown hg) (fun b hb e => ?_)
  obtain ⟨es, cl, ho⟩ := hs.obj
  injection e with e
  subst e
  rcases h.2 with ⟨rfl, _⟩ | ⟨g, cap, cur, rfl, _, hh, _⟩
  · simp [Value.ownBlock] at hb
  · obtain rfl : g = m := by simpa [Value.ownBlock] using hb
    exact not_map hh ho rfl
theorem owns_kpy {N n k : Nat} {t : TypeId} {v : Value} {xs : List Value} {B : Nat} (h : W.ownsRow N t k v n xs) (hk : KpY 5 B M W W') (hN : M ≤ N) (ht : t ≠ 5) : W'.ownsRow N t k v n xs := by
  refine owns_kp h (S := fun i => W'.heap[i]? ≠ W.heap[i]?) ⟨hk.low.os, hk.low.tape, hk.low.output, hk.low.size, fun i _ h => Classical.not_not.1 h⟩ (fun b hb e => ?_)
  rcases h.2 with ⟨rfl, _⟩ | ⟨g, cap, cur, rfl, hg, hh, _⟩
  · simp [Value.ownBlock] at hb
  · obtain rfl : g = b := by simpa [Value.ownBlock] using hb
    exact e ((hk.blk (by omega) hh ht).trans hh.symm)
theorem MsI.told (h : MsI J w0 M bc g b3 l m s ys W) (hJ : AbidesFrom N0 J) (h0 : N0 ≤ m) (hw : w0.heap.size ≤ m) (hg : W.grownBy W' (some m)) (hs : SetT W' m (s.2 ++ [r])) : MsI J w0 M bc g b3 l m (s.1, s.2 ++ [r]) ys W' := by
  obtain ⟨es, cl, ho⟩ := h.set.obj
  exact ⟨h.ms, hJ _ _ _ (some m) h.j hg (fun q e => by cases e; exact ⟨h0, _, ho, rfl⟩), hs, h.box.mapd h.set hg, h.cat.mapd h.set hg, Below.grown h.ext hg h.ext.size (fun q e => by cases e; exact hw), h.ok⟩
theorem say_in {F : Fence} (n : Nat) (hFe : F = Fence.wide) (hF : F.fn 32) (hro : F.round = none) (hn : 1 ≤ n) (hI : MsI J w0 M bc g b3 l m s ys W) (hJ : AbidesFrom N0 J)
    (hY : ∀ pre x W, J pre W → pre.length < 1200001 → (x.at 5 K.pc W ∧ x.ok) → YieldAt F (n - 1) Tryz.prog l #[x.agg] W fun e W' => e = .returned (.bool true) ∧ J (pre ++ [x]) W' ∧ KpY 5 w0.heap.size M W W')
    (h3 : M ≤ b3) (hc : M ≤ bc) (hm : M ≤ m) (hs : s.1.length ≤ 1200000) (hx : x.at 5 K.pc W) (hk : x.ok) :
    CallsIn F n Tryz.prog 32 #[x.agg, .bool true, .pointer (some ⟨b3, 0, none⟩)] W fun e W' => e = .returned (.bool true) ∧ MsI J w0 M bc g b3 l m (s.1 ++ [x.m], s.2) (ys ++ [x]) W' ∧ KpY 5 w0.heap.size M W W' := by
  have he : Ext W (W.alloc (.cells x.arr 76)) := (Ext.refl W).alloc _
  have hg := hI.go hJ he
  have hl : ys.length < 1200001 := by have h := congrArg List.length hg.ms; rw [List.length_map] at h; omega
  obtain ⟨fn, tmps, assign, body, q1, q2⟩ := hY ys x _ hg.j hl ⟨hx.ext he, hk⟩
  refine one_in F n hFe hF hro hn l b3 x W (fun W' => MsI J w0 M bc g b3 l m (s.1 ++ [x.m], s.2) (ys ++ [x]) W' ∧ KpY 5 w0.heap.size M W W') hI.box ⟨fn, tmps, assign, body, q1, q2.mono ?_⟩
  rintro e W' ⟨rfl, hj, hk2⟩
  exact ⟨rfl, hg.said hk2 h3 hc hm hj hk, (KpY.ext he hI.ext.size).trans hk2⟩
end
end Go.Proofs.YtdlhaidlokkmnaaGreatDoor
namespace Go.Proofs.YtdlhaidlokkmnaaGreatDoor
open Go.RowKit
theorem rf_lenS (l : List Rf) : ∀ xs ∈ l.map Rf.cells, xs.length = 2 := by
  intro xs hxs
  rw [List.mem_map] at hxs
  obtain ⟨p, _, rfl⟩ := hxs
  rfl
theorem sAt_at (c : List Rl) (ts : List TL) {k : Nat} (h : k < ts.length) : sAt c (ts.map TL.t) (k + 1) = ((sEv c (ts.map TL.t) k ts[k].t ts[k].es.length).1 ++ [(mlC ts[k].xid ts[k].es.length).m], (sEv c (ts.map TL.t) k ts[k].t ts[k].es.length).2) := by
  have h1 := sAt_succ c (l := ts.map TL.t) (i := k) (by rw [List.length_map]; exact h)
  rw [List.getElem_map] at h1
  rw [h1, show (ts[k].t).es.length = ts[k].es.length from List.length_map .., mlC_m]
theorem sEv_at (c : List Rl) (l : List Tx) (i : Nat) (t : TL) {k : Nat} (h : k < t.es.length) : sEv c l i t.t (k + 1) = ((sUs c l i t.t k t.es[k].e (usesE t.es[k].e).length).1 ++ [msgOf t.es[k].e], (sUs c l i t.t k t.es[k].e (usesE t.es[k].e).length).2) := by
  have h1 := sEv_succ c l i (t := t.t) (k := k) (by show k < (t.es.map EL.e).length; rw [List.length_map]; exact h)
  rw [h1]
  unfold TL.t
  simp only [List.getElem_map]
theorem got_r {o v : Int} {ps : List RR} {q : RR} (h : q.r = ((getP o v ps).getD RR.zero).r) : q.r = (getR o v (ps.map RR.r)).getD Rl0 := by
  rw [h, ← getP_map]
  cases getP o v ps <;> rfl
theorem got_ok {o v : Int} {ps : List RR} {q : RR} (h : q.r = ((getP o v ps).getD RR.zero).r) (hB : ∀ r ∈ ps.map RR.r, r.okw) : q.r.okw := by
  rw [h]
  cases hg : getP o v ps with
  | none => exact Rl0_okw
  | some p => exact hB _ (List.mem_map_of_mem (getP_some hg).1)
theorem got_okR {o v : Int} {ps : List RR} (hB : ∀ r ∈ ps.map RR.r, r.okw) : ((getP o v ps).getD RR.zero).r.okw := by
  cases hg : getP o v ps with
  | none => exact Rl0_okw
  | some p => exact hB _ (List.mem_map_of_mem (getP_some hg).1)
theorem msgOf_tw {e : Ev} (h : e.okw) : (∀ c ∈ (msgOf e).e.b, c.tw) ∧ ∀ c ∈ (msgOf e).e.a, c.tw := by
  unfold msgOf
  (repeat' split) <;> first | exact ⟨h.tb, h.ta⟩ | exact ⟨(fun c hc => by cases hc), (fun c hc => by cases hc)⟩
theorem Tryz.infoRfE : (Tryz.prog.info? 66).map (fun i => (i.zero, i.size, i.bytes)) = some (some (.agg #[.int .u32 0, .int .u32 0]), 2, 8) := by kernel_rfl
theorem eown_any (kind ao av old : Int) (lb la : List K) (rs : List Rf) (fl : Int) (ba aa ra : Option Addr) (bc ac rc : Nat) (w : World) (hb : Sl w (.slice ba lb.length bc) 6 (lb.map K.rc)) (ha : Sl w (.slice aa la.length ac) 6 (la.map K.rc)) (hr : Sl w (.slice ra rs.length rc) 2 (rs.map Rf.cells)) (hnb : lb.length ≤ 1000) (hna : la.length ≤ 1000) (hnr : rs.length ≤ 1000) :
    Calls Tryz.prog 19 #[.agg #[.int .u8 kind, .int .u32 ao, .int .u32 av, .int .u8 old, .slice ba lb.length bc, .slice aa la.length ac, .slice ra rs.length rc, .int .u8 fl]] w fun e w' => ∃ b1 c1 a1 d1 r1 e1, e = .returned (.agg #[.int .u8 kind, .int .u32 ao, .int .u32 av, .int .u8 old, .slice b1 lb.length c1, .slice a1 la.length d1, .slice r1 rs.length e1, .int .u8 fl]) ∧ (⟨⟨kind, ao, av, old, lb, la, rs, fl⟩, b1, c1, a1, d1, r1, e1⟩ : EL).at 5 K.pc w' ∧ (⟨⟨kind, ao, av, old, lb, la, rs, fl⟩, b1, c1, a1, d1, r1, e1⟩ : EL).on (fun b => w.heap.size ≤ b) ∧ Ext w w' := by
  obtain ⟨i0, hi, hz0, hz1, hz2⟩ := info_parts Tryz.infoRfE
  have HOB := Hm (fun W (h : Ext w W) => ownK_fr lb ba bc W (hb.ext h) hnb)
  have HOA := Hm (fun W (h : Ext w W) => ownK_fr la aa ac W (ha.ext h) hna)
  have HR := Hm hr
  clear hb ha hr
  go_enter Tryz.func19, Tryz.ntmps19
  go_upto_region 1 with (fail)
  go_cut [3] (fun p wx => ∃ X b1 c1 a1 d1, p = .pointer (some ⟨X, 0, none⟩) ∧ Hid (Blk wx X #[.int .u8 kind, .int .u32 ao, .int .u32 av, .int .u8 old, .slice b1 lb.length c1, .slice a1 la.length d1, .slice none 0 0, .int .u8 fl] 74) ∧ Hid (Sl wx (.slice b1 lb.length c1) 5 (lb.map K.pc)) ∧ Hid (Sl wx (.slice a1 la.length d1) 5 (la.map K.pc)) ∧ Hid (lb.map K.pc ≠ [] → ∀ b o, b1 = some ⟨b, o, none⟩ → b ≠ X ∧ w.heap.size + 1 < b) ∧ Hid (la.map K.pc ≠ [] → ∀ b o, a1 = some ⟨b, o, none⟩ → b ≠ X ∧ w.heap.size + 1 < b) ∧ Hid (w.heap.size + 1 < X) ∧ Hid (Ext ((w.alloc (.cells #[.int .u8 kind, .int .u32 ao, .int .u32 av, .int .u8 old, .slice ba lb.length bc, .slice aa la.length ac, .slice ra rs.length rc, .int .u8 fl] 51)).alloc (.cells #[.int .u8 0, .int .u32 0, .int .u32 0, .int .u8 0, .slice none 0 0, .slice none 0 0, .slice none 0 0, .int .u8 0] 74)) wx))
  case first =>
    go_region_held3 (fun w' => Ext (((w.alloc (.cells #[.int .u8 kind, .int .u32 ao, .int .u32 av, .int .u8 old, .slice ba lb.length bc, .slice aa la.length ac, .slice ra rs.length rc, .int .u8 fl] 51)).alloc (.cells #[.int .u8 0, .int .u32 0, .int .u32 0, .int .u8 0, .slice none 0 0, .slice none 0 0, .slice none 0 0, .int .u8 0] 74))) w' ∧ (∀ b o, b < (((w.alloc (.cells #[.int .u8 kind, .int .u32 ao, .int .u32 av, .int .u8 old, .slice ba lb.length bc, .slice aa la.length ac, .slice ra rs.length rc, .int .u8 fl] 51)).alloc (.cells #[.int .u8 0, .int .u32 0, .int .u32 0, .int .u8 0, .slice none 0 0, .slice none 0 0, .slice none 0 0, .int .u8 0] 74))).heap.size → w'.cell? ⟨b, o, none⟩ = (((w.alloc (.cells #[.int .u8 kind, .int .u32 ao, .int .u32 av, .int .u8 old, .slice ba lb.length bc, .slice aa la.length ac, .slice ra rs.length rc, .int .u8 fl] 51)).alloc (.cells #[.int .u8 0, .int .u32 0, .int .u32 0, .int .u8 0, .slice none 0 0, .slice none 0 0, .slice none 0 0, .int .u8 0] 74))).cell? ⟨b, o, none⟩) ∧ (∀ b o, b < (((w.alloc (.cells #[.int .u8 kind, .int .u32 ao, .int .u32 av, .int .u8 old, .slice ba lb.length bc, .slice aa la.length ac, .slice ra rs.length rc, .int .u8 fl] 51)).alloc (.cells #[.int .u8 0, .int .u32 0, .int .u32 0, .int .u8 0, .slice none 0 0, .slice none 0 0, .slice none 0 0, .int .u8 0] 74))).heap.size → w'.frozen? ⟨b, o, none⟩ = (((w.alloc (.cells #[.int .u8 kind, .int .u32 ao, .int .u32 av, .int .u8 old, .slice ba lb.length bc, .slice aa la.length ac, .slice ra rs.length rc, .int .u8 fl] 51)).alloc (.cells #[.int .u8 0, .int .u32 0, .int .u32 0, .int .u8 0, .slice none 0 0, .slice none 0 0, .slice none 0 0, .int .u8 0] 74))).frozen? ⟨b, o, none⟩)) ((exact held_of (by exact eX)))
      (first
        | (go_at_call 41; refine (ref9_any _ _ _).mono ?_; rintro e w2 ⟨rfl, hb2⟩; obtain ⟨hc2, hf2⟩ := hb2.cells; have hz2 := hb2.size; (try simp at hz2); have q2 : w.heap.size + 1 < w2.heap.size := (by omega); (try have p2 : w.heap.size + 1 + 1 < w2.heap.size := (by omega)))
        | (go_at_call_of 42 (Value.slice ba lb.length bc); refine (HOB.out _ (by exact eX)).mono ?_; rintro e w3 ⟨b1, c1, rfl, -, hs3, hb3⟩; have H3 := Hm hs3; clear hs3; obtain ⟨hc3, hf3⟩ := hb3.cells; have hz3 := hb3.size; (try simp at hz3); have q3 : w.heap.size + 1 < w3.heap.size := (by omega); (try have q23 : w2.heap.size < w3.heap.size := (by omega)); (try have p3 : w.heap.size + 1 + 1 < w3.heap.size := (by omega)))
        | (go_at_call_of 42 (Value.slice aa la.length ac); refine (HOA.out _ (by exact eX)).mono ?_; rintro e w4 ⟨a1, d1, rfl, -, hs4, hb4⟩; have H4 := Hm hs4; clear hs4; obtain ⟨hc4, hf4⟩ := hb4.cells; have hz4 := hb4.size; (try simp at hz4); have q4 : w.heap.size + 1 < w4.heap.size := (by omega); (try have p4 : w.heap.size + 1 + 1 < w4.heap.size := (by omega)); (try have q24 : w2.heap.size < w4.heap.size := (by omega)); (try have q35 : w3.heap.size < w4.heap.size := (by omega))))
    all_goals
      go_wp2
      go_meet
      case rel =>
        refine ⟨_, b1, c1, a1, d1, rfl, Hm ?_, Hm ?_, Hm ?_, Hm ?_, Hm ?_, Hm ?_, Hm ?_⟩
        · repeat (with_reducible (first | exact Blk.new _ _ _ | (refine Blk.new' _ _ ?_; (simp; done)) | apply Blk.eight | refine Blk.alloc ?_ _ | refine Blk.drew ?_ | refine Blk.ext ?_ hb4 | refine Blk.ext ?_ hb3 | refine Blk.ext ?_ hb2))
        · first | ((with_reducible refine Fr.sl (Fr.eight (Fr.ext H3.out ?_) ?_)); (· exact eX); (· first | (simp; done) | (simp; omega) | omega | (left; simp; done) | (left; simp; omega) | (right; simp; done) | (right; simp; omega))) | ((with_reducible refine Fr.sl (Fr.ext H3.out ?_)); · exact eX)
        · first | ((with_reducible refine Fr.sl (Fr.eight (Fr.ext H4.out ?_) ?_)); (· exact eX); (· first | (simp; done) | (simp; omega) | omega | (left; simp; done) | (left; simp; omega) | (right; simp; done) | (right; simp; omega))) | ((with_reducible refine Fr.sl (Fr.ext H4.out ?_)); · exact eX)
        · refine fun h0 => Fr.ne2 H3.out ?_ ?_ h0; (· first | (simp; done) | (simp; omega) | omega | (left; simp; done) | (left; simp; omega) | (right; simp; done) | (right; simp; omega)); (· first | omega | (simp; omega) | simp)
        · refine fun h0 => Fr.ne2 H4.out ?_ ?_ h0; (· first | (simp; done) | (simp; omega) | omega | (left; simp; done) | (left; simp; omega) | (right; simp; done) | (right; simp; omega)); (· first | omega | (simp; omega) | simp)
        · first | omega | (simp; omega) | simp
        · first | exact eX | (repeat (with_reducible refine Ext.setCell ?_ (by first | (simp; done) | (simp; omega) | omega) _); exact eX)
  case rest =>
    obtain ⟨X, b1, c1, a1, d1, rfl, HX, HSB, HSA, HNB, HNA, HWX, HE⟩ := hcut
    have HEc := Hm (show Ext w wc from (((Ext.refl w).alloc _).alloc _).trans HE.out)
    have HB1 := Hm (((Blk.new w #[.int .u8 kind, .int .u32 ao, .int .u32 av, .int .u8 old, .slice ba lb.length bc, .slice aa la.length ac, .slice ra rs.length rc, .int .u8 fl] 51).alloc (.cells #[.int .u8 0, .int .u32 0, .int .u32 0, .int .u8 0, .slice none 0 0, .slice none 0 0, .slice none 0 0, .int .u8 0] 74)).ext HE.out)
    have HB2 := Hm ((Blk.new' (w := w.alloc (.cells #[.int .u8 kind, .int .u32 ao, .int .u32 av, .int .u8 old, .slice ba lb.length bc, .slice aa la.length ac, .slice ra rs.length rc, .int .u8 fl] 51)) (b := w.heap.size + 1) #[.int .u8 0, .int .u32 0, .int .u32 0, .int .u8 0, .slice none 0 0, .slice none 0 0, .slice none 0 0, .int .u8 0] 74 (by simp)).ext HE.out)
    clear HOB HOA
    have hzX : X < wc.heap.size := HX.out.lt
    have hzw : w.heap.size < X := by have := HWX.out; omega
    have HZX := Hm (And.intro hzX hzw)
    clear HE
    go_wp2
    go_loopw [4] (fun i wr => ∃ (k : Nat) (va : Option Addr) (vc : Nat), k ≤ rs.length ∧ i = .int .i64 k ∧ Hid (Blk wr X #[.int .u8 kind, .int .u32 ao, .int .u32 av, .int .u8 old, .slice b1 lb.length c1, .slice a1 la.length d1, .slice va k vc, .int .u8 fl] 74) ∧ Hid (wr.ownsRow wc.heap.size 66 2 (.slice va k vc) k ((rs.take k).map Rf.cells).flatten) ∧ Hid (Kp (fun x => x = X) wc wr)) (fun i _ => rs.length - (intOf i).toNat)
    case atStart => exact ⟨0, none, 0, Nat.zero_le _, rfl, HX, Hm (World.ownsRow_nil _ _ _ _), Hm Kp.refl⟩
    case round =>
      obtain ⟨k, va, vc, hk, rfl, hX, hown, hK⟩ := hrel
      have HEW : Hid (Ext w wr) := Hm (Kp.ext HEc.out (fun x hx _ => by have := HZX.out.2; omega) hK.out)
      have HG1 : Hid (Blk wr w.heap.size #[.int .u8 kind, .int .u32 ao, .int .u32 av, .int .u8 old, .slice ba lb.length bc, .slice aa la.length ac, .slice ra rs.length rc, .int .u8 fl] 51) := Hm (HB1.out.kp hK.out (by have := HZX.out.2; omega))
      have g1 := HG1.out.cell
      have z1 := HG1.out.lt
      have gX := hX.out.cell
      have gXf := hX.out.frozen
      have zX := hX.out.lt
      have hzc := hK.out.size
      by_cases hlt : k < rs.length
      · obtain ⟨b, o, rfl, hb, hx⟩ := HR.out.at_ (i := k) (by simpa using hlt)
        have HF := Hm (fun W (h : Ext w W) => Rf.at_ hlt hx hb h)
        have HT : Hid (rs.take (k + 1) = rs.take k ++ [rs[k]]) := Hm (List.take_succ_eq_append_getElem hlt)
        obtain ⟨r, hr⟩ : ∃ r, r = rs[k] := ⟨_, rfl⟩
        rw [← hr] at HF HT
        have HLT : Hid (k < rs.length) := Hm hlt
        have HBW : Hid (b < w.heap.size) := Hm hb
        clear hx hr hb
        have HS : Hid (∀ w', Kp (fun x => wc.heap.size ≤ x) wr w' → (∀ j, w'.cell? ⟨w.heap.size, j, none⟩ = (#[.int .u8 kind, .int .u32 ao, .int .u32 av, .int .u8 old, .slice ba lb.length bc, .slice aa la.length ac, .slice (some ⟨b, o, none⟩) rs.length rc, .int .u8 fl])[j]?) ∧ (∀ j, w'.cell? ⟨X, j, none⟩ = (#[.int .u8 kind, .int .u32 ao, .int .u32 av, .int .u8 old, .slice b1 lb.length c1, .slice a1 la.length d1, .slice va k vc, .int .u8 fl])[j]?) ∧ (∀ j, w'.frozen? ⟨X, j, none⟩ = false) ∧ w'.cell? ⟨b, o + k * 2, none⟩ = some (.int .u32 r.o) ∧ w'.cell? ⟨b, o + k * 2 + 1, none⟩ = some (.int .u32 r.v) ∧ b < w'.heap.size ∧ X < w'.heap.size ∧ w.heap.size < w'.heap.size) := Hm (fun w' h => by
          have hE : Ext w w' := Kp.ext HEc.out (S := fun x => x = X ∨ wc.heap.size ≤ x) (fun x hx _ => by have := HZX.out; omega) ((hK.out.mono (T := fun x => x = X ∨ wc.heap.size ≤ x) (fun x hx _ => .inl hx)).trans h (fun x hx _ => .inr hx))
          have h1 := HG1.out.kp h (by have := HZX.out; omega)
          have h2 := hX.out.kp h (by have := HZX.out; omega)
          obtain ⟨f0, f1⟩ := HF.out w' hE
          exact ⟨h1.cell, h2.cell, h2.frozen, f0, f1, Nat.lt_of_lt_of_le HBW.out hE.size, h2.lt, h1.lt⟩)
        have HOWN := hown
        go_wp2
        clear g1 gX gXf
        have hA0 : Hid ((fun w' => (∀ j, w'.cell? ⟨w.heap.size, j, none⟩ = (#[.int .u8 kind, .int .u32 ao, .int .u32 av, .int .u8 old, .slice ba lb.length bc, .slice aa la.length ac, .slice (some ⟨b, o, none⟩) rs.length rc, .int .u8 fl])[j]?) ∧ (∀ j, w'.cell? ⟨X, j, none⟩ = (#[.int .u8 kind, .int .u32 ao, .int .u32 av, .int .u8 old, .slice b1 lb.length c1, .slice a1 la.length d1, .slice va k vc, .int .u8 fl])[j]?) ∧ (∀ j, w'.frozen? ⟨X, j, none⟩ = false) ∧ w'.cell? ⟨b, o + k * 2, none⟩ = some (.int .u32 r.o) ∧ w'.cell? ⟨b, o + k * 2 + 1, none⟩ = some (.int .u32 r.v) ∧ b < w'.heap.size ∧ X < w'.heap.size ∧ w.heap.size < w'.heap.size) wr.drew) := Hm (HS.out _ (Kp.of_ext (Ext.refl wr).drew))
        refine wp_region_head 10 (fun w' => (∀ j, w'.cell? ⟨w.heap.size, j, none⟩ = (#[.int .u8 kind, .int .u32 ao, .int .u32 av, .int .u8 old, .slice ba lb.length bc, .slice aa la.length ac, .slice (some ⟨b, o, none⟩) rs.length rc, .int .u8 fl])[j]?) ∧ (∀ j, w'.cell? ⟨X, j, none⟩ = (#[.int .u8 kind, .int .u32 ao, .int .u32 av, .int .u8 old, .slice b1 lb.length c1, .slice a1 la.length d1, .slice va k vc, .int .u8 fl])[j]?) ∧ (∀ j, w'.frozen? ⟨X, j, none⟩ = false) ∧ w'.cell? ⟨b, o + k * 2, none⟩ = some (.int .u32 r.o) ∧ w'.cell? ⟨b, o + k * 2 + 1, none⟩ = some (.int .u32 r.v) ∧ b < w'.heap.size ∧ X < w'.heap.size ∧ w.heap.size < w'.heap.size) (by kernel_rfl) (by decide) ?_
        (refine wpHd_take (i := 0) (v := ?_) rfl (by kernel_rfl) (by kernel_rfl) (by kernel_rfl) (fun _ _ _ h => h) (Or.inl ⟨by rfl, ?_⟩) hA0.out ?_; rotate_left 1; · (intro w' hS'; (try dsimp only at hS'); go_split_ands; go_simp; try with_reducible rfl))
        (refine wpHd_take (i := 1) (v := ?_) rfl (by kernel_rfl) (by kernel_rfl) (by kernel_rfl) (fun _ _ _ h => h) (Or.inl ⟨by rfl, ?_⟩) hA0.out ?_; rotate_left 1; · (intro w' hS'; (try dsimp only at hS'); go_split_ands; go_simp; try with_reducible rfl))
        (refine wpHd_take (i := 2) (v := ?_) rfl (by kernel_rfl) (by kernel_rfl) (by kernel_rfl) (fun _ _ _ h => h) (Or.inl ⟨by rfl, ?_⟩) hA0.out ?_; rotate_left 1; · (intro w' hS'; (try dsimp only at hS'); go_split_ands; go_simp; try with_reducible rfl))
        (refine wpHd_take (i := 3) (v := ?_) rfl (by kernel_rfl) (by kernel_rfl) (by kernel_rfl) (fun _ _ _ h => h) (Or.inl ⟨by rfl, ?_⟩) hA0.out ?_; rotate_left 1; · (intro w' hS'; (try dsimp only at hS'); go_split_ands; go_simp; try with_reducible rfl))
        (refine wpHd_take (i := 4) (v := ?_) rfl (by kernel_rfl) (by kernel_rfl) (by kernel_rfl) (fun _ _ _ h => h) (Or.inl ⟨by rfl, ?_⟩) hA0.out ?_; rotate_left 1; · (intro w' hS'; (try dsimp only at hS'); go_split_ands; go_simp; try with_reducible rfl))
        (refine wpHd_take (i := 5) (v := ?_) rfl (by kernel_rfl) (by kernel_rfl) (by kernel_rfl) (fun _ _ _ h => h) (Or.inl ⟨by rfl, ?_⟩) hA0.out ?_; rotate_left 1; · (intro w' hS'; (try dsimp only at hS'); go_split_ands; go_simp; try with_reducible rfl))
        (refine wpHd_take (i := 6) (v := ?_) rfl (by kernel_rfl) (by kernel_rfl) (by kernel_rfl) (fun _ _ _ h => h) (Or.inl ⟨by rfl, ?_⟩) hA0.out ?_; rotate_left 1; · (intro w' hS'; (try dsimp only at hS'); go_split_ands; go_simp; try with_reducible rfl))
        refine wpHd_one (i := 7) rfl rfl (by kernel_rfl) (fun K hK => ?_)
        go_simp
        refine (ref9_any _ _ _).mono ?_
        rintro e w7 ⟨rfl, hb7⟩
        have HB7 : Hid (Ext wr w7) := Hm ((Ext.refl wr).drew.trans hb7)
        refine hK.out _ _ (HS.out _ (Kp.of_ext HB7.out)) (fun hA => ?_)
        clear hK K hA hA0 hb7
        refine wpHd_one (i := 8) rfl rfl (by kernel_rfl) (fun K hK => ?_)
        go_simp
        refine hK.out _ _ (HS.out _ (Kp.of_ext (HB7.out.alloc _))) (fun hA => ?_)
        clear hK K hA
        refine wpHd_one (i := 9) rfl rfl (by kernel_rfl) (fun K hK => ?_)
        refine wp_append_lies _ _ _ 72 (by rfl) wc.heap.size 66 i0 _ 2 8 Tryz.underlying72 hi hz0 hz1 hz2 rfl (by decide) (.slice va k vc) k _ (by rfl) (owns_ext HOWN.out (HB7.out.alloc _)) ⟨_, 0, none⟩ 1 1 r.cells (by rfl) rfl (cells_new _ #[.int .u32 r.o, .int .u32 r.v] _) (by intro u hu; simp [Rf.cells] at hu; rcases hu with rfl | rfl <;> rfl) (by decide) (by unfold maxLen; omega) (by omega) (by have := HB7.out.size; simp; omega) _ rfl ?_
        intro g4 cap4 w4 hown4 hgrow4 hat4 hlt4
        have HO4 := Hm hown4
        have HKG : Hid (Kp (fun x => wc.heap.size ≤ x) wr w4) := Hm ((Kp.of_ext (S := fun x => wc.heap.size ≤ x) (HB7.out.alloc _)).trans (Kp.of_grown hgrow4) (fun x hx _ => (HOWN.out.lt x hx).1))
        refine hK.out _ _ (HS.out _ HKG.out) (fun hA => ?_)
        clear hK K hA hown4 hgrow4 hat4 hlt4
        have hX4 : Hid (Blk w4 X #[.int .u8 kind, .int .u32 ao, .int .u32 av, .int .u8 old, .slice b1 lb.length c1, .slice a1 la.length d1, .slice va k vc, .int .u8 fl] 74) := Hm (hX.out.kp HKG.out (by have := HZX.out; omega))
        have gX := hX4.out.cell
        have gXf := hX4.out.frozen
        have zX := hX4.out.lt
        refine wpHd_tail (by kernel_rfl) ?_
        simp only [List.drop_succ_cons, List.drop_zero]
        go_wp2
        go_roundw
        case rel =>
          refine ⟨k + 1, some ⟨g4, 0, none⟩, cap4, by have := HLT.out; omega, by go_num, Hm ?_, Hm ?_, Hm ?_⟩
          · have := hX4.out.set 6 (.slice (some ⟨g4, 0, none⟩) (k + 1) cap4)
            simpa only [List.setIfInBounds_toArray, List.set_cons_zero, List.set_cons_succ] using this
          · rw [HT.out, List.map_append, List.flatten_append]
            exact owns_set (by simpa using HO4.out) (by show X < _; have := HZX.out; omega) _
          · exact ((hK.out.mono (T := fun x => x = X) (fun x hx _ => hx)).trans (HKG.out) (fun x hx h => by omega)).trans (T := fun x => x = X) (Kp.set _ _ rfl) (fun x hx _ => hx)
        case measure => have := HLT.out; simp [intOf]; omega
      · obtain rfl : k = rs.length := by omega
        rw [List.take_length] at hown
        have HB2r : Hid (Blk wr (w.heap.size + 1) #[.int .u8 0, .int .u32 0, .int .u32 0, .int .u8 0, .slice none 0 0, .slice none 0 0, .slice none 0 0, .int .u8 0] 74) := Hm (HB2.out.kp hK.out (by have := HWX.out; omega))
        have k2 := HB2r.out.cell
        have k2f := HB2r.out.frozen
        have z2 := HB2r.out.lt
        go_wp2
        simp [bodyPost, results, Tryz.results19, go_sem, *]
        have hwr := HZX.out
        have hw2 := HWX.out
        have hSB : Sl wr (.slice b1 lb.length c1) 5 (lb.map K.pc) := Sl.kp HSB.out hK.out (fun h0 b o e => (HNB.out h0 b o e).1)
        have hSA : Sl wr (.slice a1 la.length d1) 5 (la.map K.pc) := Sl.kp HSA.out hK.out (fun h0 b o e => (HNA.out h0 b o e).1)
        have hSR : Sl wr (.slice va rs.length vc) 2 (rs.map Rf.cells) := Sl.of_owns (base := wc.heap.size) (e := 66) (by rw [List.length_map]; exact hown.out) (by intro xs hxs; simp at hxs; obtain ⟨_, _, rfl⟩ := hxs; rfl)
        refine ⟨b1, c1, a1, d1, va, vc, ⟨⟨rfl, rfl⟩, ⟨rfl, rfl⟩, rfl, rfl⟩, ⟨Sl.kp hSB Kp.eight (fun h0 b o e => by have := (HNB.out h0 b o e).2; omega), Sl.kp hSA Kp.eight (fun h0 b o e => by have := (HNA.out h0 b o e).2; omega), Sl.kp hSR Kp.eight (fun h0 b o e => by have := hown.out.lt b (by rw [show va = some ⟨b, o, none⟩ from e]; rfl); omega)⟩, ⟨fun h0 b o e => by have := (HNB.out (fun q => h0 (by simpa using q)) b o e).2; omega, fun h0 b o e => by have := (HNA.out (fun q => h0 (by simpa using q)) b o e).2; omega, fun h0 b o e => by have := hown.out.lt b (by rw [show va = some ⟨b, o, none⟩ from e]; rfl); omega⟩, Kp.ext HEW.out (fun x hx _ => by omega) Kp.eight⟩
theorem eown_el (x : EL) (w : World) (hx : x.at 6 K.rc w) (hnb : x.e.b.length ≤ 1000) (hna : x.e.a.length ≤ 1000) (hnr : x.e.rs.length ≤ 1000) :
    Calls Tryz.prog 19 #[x.agg] w fun e w' => ∃ y : EL, e = .returned y.agg ∧ y.e = x.e ∧ y.at 5 K.pc w' ∧ y.on (fun b => w.heap.size ≤ b) ∧ Ext w w' := by
  obtain ⟨⟨kind, ao, av, old, lb, la, rs, fl⟩, ba, bc, aa, ac, ra, rc⟩ := x
  refine (eown_any kind ao av old lb la rs fl ba aa ra bc ac rc w hx.b hx.a hx.r hnb hna hnr).mono fun e w' h => ?_
  obtain ⟨b1, c1, a1, d1, r1, e1, h1, h2, h3, h4⟩ := h
  exact ⟨⟨⟨kind, ao, av, old, lb, la, rs, fl⟩, b1, c1, a1, d1, r1, e1⟩, h1, rfl, h2, h3, h4⟩
theorem Kp.c17 {W : World} {b : Nat} {v0 v1 v2 v3 v4 v5 v6 v7 v8 v9 v10 v11 v12 v13 v14 v15 v16 : Value} : Kp (fun x => x = b) W (((((((((((((((((W.setCell ⟨b, 0, none⟩ v0).setCell ⟨b, 1, none⟩ v1).setCell ⟨b, 2, none⟩ v2).setCell ⟨b, 3, none⟩ v3).setCell ⟨b, 4, none⟩ v4).setCell ⟨b, 5, none⟩ v5).setCell ⟨b, 6, none⟩ v6).setCell ⟨b, 7, none⟩ v7).setCell ⟨b, 8, none⟩ v8).setCell ⟨b, 9, none⟩ v9).setCell ⟨b, 10, none⟩ v10).setCell ⟨b, 11, none⟩ v11).setCell ⟨b, 12, none⟩ v12).setCell ⟨b, 13, none⟩ v13).setCell ⟨b, 14, none⟩ v14).setCell ⟨b, 15, none⟩ v15).setCell ⟨b, 16, none⟩ v16) := by
  iterate 17 refine Kp.trans ?_ (Kp.set (S := fun x => x = b) _ _ rfl) (fun _ hx _ => hx)
  exact Kp.refl
end Go.Proofs.YtdlhaidlokkmnaaGreatDoor
