/-
A receiver that is new; whether one is open; the catalog of one that knows nothing: the program's answers.
-/
import Derived.LoopN
import Derived.Test.YtdlhaidlokkmnaaGreatDoorP33
import Derived.Test.YtdlhaidlokkmnaaGreatDoorP20
import Derived.Test.YtdlhaidlokkmnaaGreatDoorP39
import Derived.Test.YtdlhaidlokkmnaaGreatDoorP15
import Derived.Test.YtdlhaidlokkmnaaGreatDoorP30
import Derived.Test.YtdlhaidlokkmnaaGreatDoorP10
import Derived.Test.YtdlhaidlokkmnaaGreatDoorP4
import Derived.Test.YtdlhaidlokkmnaaGreatDoorP23
import Derived.Test.YtdlhaidlokkmnaaGreatDoorP12
import Derived.Test.YtdlhaidlokkmnaaGreatDoorP22
set_option maxRecDepth 100000
set_option maxHeartbeats 16000000
namespace Go.Proofs.YtdlhaidlokkmnaaGreatDoor
open Go.RowKit Go.Shelf
attribute [local go_sem] Oper.semAt_some
theorem run_equalIn_func_nilS {P : Program} (w : World) (d : Nat) (t : TypeId) (f : Fn) (xs ys : Array Value) {p : Array TypeId} {r : Array TypeId} {v : Bool} (h : P.underlying t = some (.func p r v)) : (Op.equalIn (d + 1) t (.func f xs ys) .nilFunc).run P w = .ok false w := by
  simp [Op.equalIn, run_underlying h]
theorem run_eql_func_nilS {P : Program} (w : World) (t : TypeId) (f : Fn) (xs ys : Array Value) {p : Array TypeId} {r : Array TypeId} {v : Bool} (h : P.underlying t = some (.func p r v)) : (binOp .eql t (.func f xs ys) .nilFunc).run P w = .ok (.bool false) w := by
  have e : (Op.equal t (.func f xs ys) .nilFunc).run P w = .ok false w := by
    exact run_equalIn_func_nilS w 9999 t f xs ys h
  simp [binOp, e]
theorem cnew21_any (w : World) : Calls Tryz.prog 23 #[] w fun e w' => e = .returned (.pointer (some ⟨w.heap.size, 0, none⟩)) ∧ w' = w.alloc (.cells #[.slice none 0 0] 136) := by
  go_enter Tryz.func23, Tryz.ntmps23
  go_wp2
  go_ret
  exact ⟨rfl, rfl⟩
theorem snew_any (w : World) : Calls Tryz.prog 52 #[] w fun e w' => ∃ rv kg, e = .returned (.pointer (some ⟨rv, 0, none⟩)) ∧ Blk w' rv #[.pointer (some ⟨kg, 0, none⟩), .int .u32 0, .pointer none, .slice none 0 0] 169 ∧ Ca w' kg kg (.slice none 0 0) [] ∧ Ext w w' ∧ w.heap.size ≤ kg ∧ w.heap.size ≤ rv ∧ kg ≠ rv := by
  have HC := Hm (cnew21_any w)
  go_enter Tryz.func52, Tryz.ntmps52
  go_wp2_with (go_at_call 23; refine HC.out.mono ?_; rintro e w1 ⟨rfl, rfl⟩)
  go_ret
  exact ⟨_, w.heap.size, rfl, Blk.new' _ _ (by simp), (Ca.new w).ext ((Ext.refl _).alloc _), by exact eX, Nat.le_refl _, by omega, by omega⟩
theorem sopen_any (rv kg : Nat) (w : World) (h : Blk w rv #[.pointer (some ⟨kg, 0, none⟩), .int .u32 5, .pointer none, .slice none 0 0] 169) : Calls Tryz.prog 55 #[.pointer (some ⟨rv, 0, none⟩)] w fun e w' => e = .returned (.bool false) ∧ w = w' := by
  have c0 := h.cell
  have cz := h.lt
  clear h
  go_enter Tryz.func55, Tryz.ntmps55
  go_wp2
  go_ret
  exact ⟨rfl, rfl⟩
theorem scat_in (F : Fence) (n : Nat) (hFe : F = Fence.wide) (hCF : F.fn 23) (h1F : F.fn 113) (hAF : F.fn 84) (hOF : F.fn 59) (hDF : F.fn 54) (hro : F.round = none) (hn : 4 ≤ n) (rv N kg : Nat) (c : Value) (w : World) (h : Blk w rv #[.pointer (some ⟨kg, 0, none⟩), .int .u32 5, .pointer none, .slice none 0 0] 169) (hc : Ca w N kg c []) :
    CallsIn F n Tryz.prog 54 #[.pointer (some ⟨rv, 0, none⟩)] w fun e w' => ∃ g, e = .returned (.pointer (some ⟨g, 0, none⟩)) ∧ Ext w w' := by
  have h1 : 1 ≤ n := by omega
  have HC := Hm hc
  have HCN := Hm (fun m W => (show CallsIn F m Tryz.prog 23 #[] W _ from by rw [hFe]; exact callsIn_wide.2 (cnew21_any W)))
  have HFE := Hm hFe
  have mixed : Tryz.prog.follows .mixedOrders = true := by kernel_rfl
  have hfn : ∀ (W : World) (ys : Array Value), (binOp .eql 174 (.func (.func 113) #[] ys) .nilFunc).run Tryz.prog W = .ok (.bool false) W := fun W ys => run_eql_func_nilS W _ _ _ _ (show Tryz.prog.underlying 174 = some (.func #[201] #[] false) by kernel_rfl)
  have c0 := h.cell
  have cz := h.lt
  clear hc hFe h
  refine callsIn_of_wp_marks Tryz.func54 rfl hDF ?_ hro
  simp only [Tryz.ntmps54, List.size_toArray, List.length_cons, List.length_nil, Nat.reduceAdd, Nat.reduceSub, Array.replicate_succ, Array.replicate_zero, List.push_toArray, List.append_toArray, List.nil_append, List.cons_append]
  gi_wp2_with (first
    | (gi_at_call 23; refine (HCN.out _ _).mono ?_; rintro e w' ⟨rfl, rfl⟩)
    | (gi_at_call 84; refine (all_in F (n - 1) hAF hro _ _).mono ?_; rintro e w' ⟨rfl, rfl⟩))
  have hE4 : Ext w (((w.alloc (.cells #[.slice none 0 0] 136)).alloc (.cells #[.pointer (some ⟨w.heap.size, 0, none⟩)] 26)).alloc (.cells #[.pointer (some ⟨kg, 0, none⟩)] 26)) := by exact eX
  have hB4 : Blk (((w.alloc (.cells #[.slice none 0 0] 136)).alloc (.cells #[.pointer (some ⟨w.heap.size, 0, none⟩)] 26)).alloc (.cells #[.pointer (some ⟨kg, 0, none⟩)] 26)) (w.heap.size + 1 + 1) #[.pointer (some ⟨kg, 0, none⟩)] 26 := Blk.new' _ _ (by simp)
  have hR1 : Blk (((w.alloc (.cells #[.slice none 0 0] 136)).alloc (.cells #[.pointer (some ⟨w.heap.size, 0, none⟩)] 26)).alloc (.cells #[.pointer (some ⟨kg, 0, none⟩)] 26)) (w.heap.size + 1) #[.pointer (some ⟨w.heap.size, 0, none⟩)] 26 := (Blk.new' _ _ (by simp)).alloc _
  obtain ⟨W4, hW4⟩ : ∃ W4, W4 = (((w.alloc (.cells #[.slice none 0 0] 136)).alloc (.cells #[.pointer (some ⟨w.heap.size, 0, none⟩)] 26)).alloc (.cells #[.pointer (some ⟨kg, 0, none⟩)] 26)) := ⟨_, rfl⟩
  have hz4 : W4.heap.size = w.heap.size + 1 + 1 + 1 := by rw [hW4]; simp
  rw [← hW4] at hE4 hB4 hR1 ⊢
  have HE4 := Hm hE4
  clear hW4 hE4 hfn c0 cz
  have htold : SeqTold F (n - 1) Tryz.prog 113 #[.pointer (some ⟨w.heap.size + 1 + 1, 0, none⟩)] encA (fun _ _ => False) (fun ys => ys.map RR.r = []) 0 w.heap.size W4 := fun l J W hW hJ hY h0 =>
    (all1_in F (n - 1) HFE.out h1F hOF hro (by omega) l (w.heap.size + 1 + 1) w N kg c [] HC J W hJ (fun pre x W hj hn _ _ _ => absurd hn (Nat.not_lt_zero _)) (HE4.out.trans hW) ((hW.cell (p := ⟨w.heap.size + 1 + 1, 0, none⟩) hB4.lt).trans (hB4.cell 0)) h0)
  refine wpIn_range_told hro h1 (gf := 113) (lb := #[.pointer (some ⟨w.heap.size + 1 + 1, 0, none⟩)]) rfl h1F (enters_of Tryz.func113 (by kernel_rfl) rfl) htold (by omega) (Below.refl _ _) (fun _ => rfl)
    (fun pre W => Blk W (w.heap.size + 1) #[.pointer (some ⟨w.heap.size, 0, none⟩)] 26 ∧ Hid (Below w.heap.size w W ∧ W4.heap.size ≤ W.heap.size)) ?hI
    ⟨hR1, Hm ⟨HE4.out, Nat.le_refl _⟩⟩
    (fun _ _ _ => False)
    (fun x a' W l o' h _ _ => h.elim) (fun l pre x W K _ h _ => h.elim) (fun l pre x a' W _ _ h => h.elim) ?done
  case hI =>
    rintro s A B row ⟨q3, q5⟩ hg hr
    have hr2 : ∀ r, row = some r → ∃ o : Obj, A.heap[r]? = some o ∧ o.isCells = false := fun r e => (hr r e).2
    exact ⟨q3.keptS hg hr2, Hm ⟨q5.out.1.grown hg (by have := q5.out.2; omega) (fun k e => by have := (hr k e).1; omega), Nat.le_trans q5.out.2 hg.size⟩⟩
  case done =>
    rintro D ys W hD hys ⟨q3, q5⟩ hK
    have g3 := q3.cell
    have g3z := q3.lt
    gi_wp2
    refine ⟨by simp, .inl ⟨_, _, rfl, run_takeDeferred hK, ?_⟩⟩
    refine ⟨.pointer (some ⟨w.heap.size, 0, none⟩), ?_, ⟨w.heap.size, rfl, Below.trans q5.out.1 (belowK_b (w := w) (Nat.le_refl _) W D _ _ (by omega) hK rfl rfl)⟩⟩
    simp [results, Tryz.f54, go_sem]
theorem scat_any (rv N kg : Nat) (c : Value) (w : World) (h : Blk w rv #[.pointer (some ⟨kg, 0, none⟩), .int .u32 5, .pointer none, .slice none 0 0] 169) (hc : Ca w N kg c []) : Calls Tryz.prog 54 #[.pointer (some ⟨rv, 0, none⟩)] w fun e w' => ∃ g, e = .returned (.pointer (some ⟨g, 0, none⟩)) ∧ Ext w w' :=
  callsIn_wide.1 (scat_in Fence.wide 9 rfl trivial trivial trivial trivial trivial rfl (by omega) rv N kg c w h hc)
end Go.Proofs.YtdlhaidlokkmnaaGreatDoor
namespace Go.Proofs.YtdlhaidlokkmnaaGreatDoor
open Go.RowKit
theorem cells_newA {w : World} {b : Nat} (h : b = w.heap.size) (cs : Array Value) (T : TypeId) : ∀ j u, cs.toList[j]? = some u → (w.alloc (.cells cs T)).cell? ((⟨b, 0, none⟩ : Addr).add j) = some u := by
  subst h
  exact cells_new w cs T
theorem Tryz.infoTxS : (Tryz.prog.info? 81).map (fun i => (i.zero, i.size, i.bytes)) = some (some (.agg #[.int .u32 0, .int .u64 0, .slice none 0 0]), 3, 40) := by kernel_rfl
theorem receive_any (bb o cp : Nat) (w : World) (hs : Sl w (.slice (some ⟨bb, o, none⟩) 30 cp) 1 (msgBC.map bcell)) (hcp : 30 ≤ cp) (hk : Kin w) :
    Calls Tryz.prog 24 #[.slice (some ⟨bb, o, none⟩) 30 cp] w fun e w' => ∃ v g, e = .returned (.tuple #[v, .pointer (some ⟨g, 0, none⟩), .int .i64 30, .int .i64 0]) ∧ w'.ownsRow w.heap.size 81 3 v 1 [.int .u32 5, .int .u64 0, .slice none 0 0] ∧ Ext w w' := by
  obtain ⟨i0, hi, hz0, hz1, hz2⟩ := info_parts Tryz.infoTxS
  have HNW := Hm (snew_any w)
  have hs2 : Sl w (.slice (some ⟨bb, o + 17, none⟩) 13 (cp - 17)) 1 (msgC1.map bcell) := sl_drop (l := msgBC) (m := 17) hs (by decide)
  have HTB := Hm (fun rv kg W (h : Ext w W) (hr : Blk W rv #[.pointer (some ⟨kg, 0, none⟩), .int .u32 0, .pointer none, .slice none 0 0] 169) (hc : Ca W kg kg (.slice none 0 0) []) => takeB_any rv kg bb o cp kg (.slice none 0 0) [] W hr (hs.ext h) hcp (hk.ext h) hc)
  have HTC := Hm (fun rv kg tb W (h : Ext w W) (hr : Blk W rv #[.pointer (some ⟨kg, 0, none⟩), .int .u32 0, .pointer (some ⟨tb, 0, none⟩), .slice none 0 0] 169) (ht : Blk W tb #[.int .u32 5, .int .u64 0, .slice none 0 0] 81) (hc : Ca W kg kg (.slice none 0 0) []) => takeC_any rv kg tb bb (o + 17) (cp - 17) kg (.slice none 0 0) [] W hr ht (hs2.ext h) (by omega) (hk.ext h) hc)
  have hcpm : ((cp : Int) - 17).toNat = cp - 17 := by omega
  have hc0 : ¬ cp = 17 := by omega
  have hc1 : ¬ cp = 0 := by omega
  have hcm : (17 : Int) ≤ (cp : Int) := by omega
  clear hs hs2 hk
  go_enter Tryz.func24, Tryz.ntmps24
  go_wp2_with (go_at_call 52; refine HNW.out.mono ?_; rintro e w1 ⟨rv, kg, rfl, hr1, hc1', he1, hz1', hz2', hne⟩; have HR1 := Hm hr1; have HC1 := Hm hc1'; have HE1 := Hm he1; have HNE := Hm (And.intro hz1' (And.intro hz2' hne)); clear hr1 hc1' he1 hz1' hz2' hne)
  refine wp_loop_rounds 3 ?_
  rw [rounds_succ]
  go_wp2_with (go_at_call 53; refine (HTB.out rv kg _ HE1.out HR1.out HC1.out).mono ?_; rintro e w2 ⟨tb, rfl, hb2, hr2, hk2⟩; have HB2 := Hm hb2; have HR2 := Hm hr2; have HE2 := Hm (Kp.ext HE1.out (fun x hx _ => by have h2 : x = rv := hx; have := HNE.out; omega) hk2); have HC2 := Hm (HC1.out.kp hk2 (show ¬ kg = rv from HNE.out.2.2) (fun b hb => by cases hb) (fun p hp => by cases hp)); clear hb2 hr2 hk2)
  rw [rounds_succ]
  have HX3 : Hid (Ext w2 (w2.alloc (.cells #[.int .u32 0, .int .u64 0, .slice none 0 0] 81))) := Hm ((Ext.refl _).alloc _)
  have HE3 := Hm (HE2.out.trans HX3.out)
  have HR3 := Hm (HR2.out.ext HX3.out)
  have HB3 := Hm (HB2.out.ext HX3.out)
  have HC3 := Hm (HC2.out.ext HX3.out)
  obtain ⟨w3, hw3⟩ : ∃ W, W = w2.alloc (.cells #[.int .u32 0, .int .u64 0, .slice none 0 0] 81) := ⟨_, rfl⟩
  rw [← hw3] at HE3 HR3 HB3 HC3 ⊢
  clear hw3 HX3 HE2 HR2 HB2 HC2 HE1 HR1 HC1 HTB HNW
  go_wp2_with (first
    | (go_at_call 53; refine (HTC.out rv kg tb _ HE3.out HR3.out HB3.out HC3.out).mono ?_; rintro e w4 ⟨rfl, hr4, hk4⟩; have HR4 := Hm hr4; have HE4 := Hm (Kp.ext HE3.out (fun x hx _ => by have h2 : x = rv := hx; have := HNE.out; omega) hk4); have HC4 := Hm (HC3.out.kp hk4 (show ¬ kg = rv from HNE.out.2.2) (fun b hb => by cases hb) (fun p hp => by cases hp)); have hz4 := HE4.out.size; clear hr4 hk4)
    | (at_builtin; (refine wpList_append_own _ rfl _ _ 36 rfl w.heap.size 81 i0 _ 3 40 Tryz.underlying36 hi hz0 hz1 hz2 rfl (by decide) _ _ _ rfl (World.ownsRow_nil _ _ _ _) ⟨_, 0, none⟩ 1 1 [.int .u32 5, .int .u64 0, .slice none 0 0] rfl rfl (cells_newA (by simp) #[.int .u32 5, .int .u64 0, .slice none 0 0] _) (by intro u hu; simp at hu; rcases hu with rfl | rfl | rfl <;> rfl) (by unfold maxLen; omega) (by omega) (by simp; omega) ?_; intro v5 w5 ho5 hg5 _; have HO5 := Hm ho5; have HX5 := Hm (show Ext ((w4.alloc (.cells #[.int .u32 5, .int .u64 0, .slice none 0 0] 81)).alloc (.cells #[.int .u32 5, .int .u64 0, .slice none 0 0] 81)) w5 from Below.grown (Ext.refl _) hg5 (Nat.le_refl _) (fun g hg => by cases hg)); clear ho5 hg5)))
  rw [rounds_succ]
  have HS5 := Hm (show Ext w4 w5 from (((Ext.refl w4).alloc _).alloc _).trans HX5.out)
  have HE5 := Hm (HE4.out.trans HS5.out)
  have HR5 := Hm (HR4.out.ext HS5.out)
  have HC5 := Hm (HC4.out.ext HS5.out)
  have HOP := Hm (sopen_any rv kg w5 HR5.out)
  have HCT := Hm (scat_any rv kg kg (.slice none 0 0) w5 HR5.out HC5.out)
  obtain ⟨av, cv, rfl⟩ := owns_shape HO5.out
  clear HX5 HE4 HR4 HC4 HTC HR3 HB3 HC3 HE3
  go_wp2_with (first
    | (go_at_call 55; refine HOP.out.mono ?_; rintro e w6 ⟨rfl, rfl⟩)
    | (go_at_call 54; refine HCT.out.mono ?_; rintro e w6 ⟨gc, rfl, hb6⟩; have HX6 := Hm hb6; clear hb6))
  simp [bodyPost, results, Tryz.results24, go_sem]
  exact ⟨owns_ext HO5.out HX6.out, HE5.out.trans HX6.out⟩
def tx5 : TL := ⟨5, 0, [], none, 0⟩
theorem tx5_ck : ckT [tx5.t] [] = -1 ∧ ckP [tx5.t] [] = -1 ∧ ckE [tx5.t] [] = 0 := ck_ok (fun j hj => by
  obtain rfl : j = 0 := by simpa using hj
  unfold chE
  rw [dif_pos (by simp), if_neg (by omega)]
  exact (rt_ok (t := tx5.t) (by decide) (by decide) (fun j hj => absurd hj (Nat.not_lt_zero j))).1)
theorem tx5_msgs : storyM [] [tx5.t] = [(mlB 5 0).m, (mlC 5 0).m] := rfl
theorem tx5_send : sendW [] [tx5.t] = msgBC := by
  unfold sendW saidW
  rw [tx5_msgs]
  simp only [List.map_cons, List.map_nil, List.flatten_cons, List.flatten_nil, List.append_nil]
  unfold msgW
  rw [msgE_B, msgE_C, if_neg (by simp), if_neg (by simp)]
  decide +kernel
theorem tx5_ok : tx5.okw := ⟨⟨by decide, by decide⟩, ⟨by decide, by decide⟩, (fun e he => by cases he), by decide, (fun e he => by cases he)⟩
theorem own30 {W : World} {N : Nat} {v : Value} (h : OB W N v msgBC) : ∃ bb cp, v = .slice (some ⟨bb, 0, none⟩) 30 cp ∧ 30 ≤ cp := by
  rcases h.2 with ⟨_, h0⟩ | ⟨g, cap, cur, rfl, _, _, hn, _⟩
  · exact absurd h0 (by decide)
  · exact ⟨g, cap, rfl, hn⟩
theorem own1 {W : World} {N : Nat} {v : Value} (h : W.ownsRow N 81 3 v 1 [.int .u32 5, .int .u64 0, .slice none 0 0]) : ∃ g cp, v = .slice (some ⟨g, 0, none⟩) 1 cp ∧ (W.cell? ⟨g, 0, none⟩ = some (.int .u32 5) ∧ g < W.heap.size) := by
  rcases h.2 with ⟨_, h0⟩ | ⟨g, cap, cur, rfl, _⟩
  · exact absurd h0 (by decide)
  · have h1 := World.ownsRow.cells h rfl 0 _ rfl
    exact ⟨g, cap, rfl, by simpa [Addr.add] using h1, (h.lt g rfl).2⟩
theorem awake21_any (w : World) (hk : Kin w) (hT : Tab w) (hN : Non w) (hS : NonS w) : Calls Tryz.prog 11 #[] w fun e w' => e = .returned (.bool true) ∧ Ext w w' := by
  have HCN := Hm (cnew21_any w)
  have HSE := Hm (fun W g b (h : Ext w W) (hc : Ca W g g (.slice none 0 0) []) (hb : Blk W b #[.int .u32 5, .int .u64 0, .slice none 0 0] 81) => send_any [tx5] (some ⟨b, 0, none⟩) 1 g g (.slice none 0 0) [] W ⟨⟨_, _, rfl, .inr ⟨b, 0, rfl, hb.lt, fun i hi j hj => by
    obtain rfl : i = 0 := by simpa using hi
    have h2 := hb.cell (0 + 0 * 3 + j)
    rw [h2]
    match j, hj with
    | 0, _ => rfl
    | 1, _ => rfl
    | 2, _ => rfl⟩⟩, fun x hx => by
      obtain rfl : x = tx5 := by simpa using hx
      exact ⟨⟨none, 0, rfl, .inl rfl⟩, fun q hq => by cases hq⟩⟩ (fun t ht => by
      obtain rfl : t = tx5 := by simpa using ht
      exact tx5_ok) (by decide) hc (fun r hr => by cases hr) (hk.ext h) (hT.ext h) (hN.ext h) (hS.ext h))
  unfold SendPost at HSE
  have HRC := Hm (fun bb o cp W (hs : Sl W (.slice (some ⟨bb, o, none⟩) 30 cp) 1 (msgBC.map bcell)) (hc : 30 ≤ cp) (h : Ext w W) => receive_any bb o cp W hs hc (hk.ext h))
  have e1 : [tx5].map TL.t = [tx5.t] := rfl
  have e2 : ([] : List RR).map RR.r = [] := rfl
  rw [e1, e2, tx5_ck.1, tx5_ck.2.1, tx5_ck.2.2, if_pos rfl, tx5_send] at HSE
  clear hk hT hN hS e1 e2
  go_enter Tryz.func11, Tryz.ntmps11
  go_wp2_with (first
    | (go_at_call 23; refine HCN.out.mono ?_; rintro e w1 ⟨rfl, rfl⟩)
    | (go_at_call 8; refine (HSE.out _ w.heap.size _ (by exact eX) ((Ca.new w).ext ((Ext.refl _).alloc _)) (Blk.new' _ _ (by simp))).mono ?_; rintro e w2 ⟨v, rfl, ho2, hb2⟩; obtain ⟨bb, cp, rfl, hcp⟩ := own30 ho2; have HO2 := Hm (OB.sl ho2); have HE2 := Hm (show Ext w w2 by exact eX); clear ho2 hb2; have HF2 := Hm (Blk.new w2 #[.int .i64 (-1), .int .i64 (-1), .int .i64 0] 33); have f2 := HF2.out.cell; have f2z := HF2.out.lt)
    | (go_at_call 24; refine (HRC.out bb 0 cp _ (HO2.out.ext ((Ext.refl _).alloc _)) hcp (HE2.out.alloc _)).mono ?_; rintro e w3 ⟨v3, gc, rfl, ho3, hb3⟩; have HE3 := Hm ((HE2.out.alloc (.cells #[.int .i64 (-1), .int .i64 (-1), .int .i64 0] 33)).trans hb3); obtain ⟨g3, cp3, rfl, hb4⟩ := own1 ho3; have f3 := (HF2.out.ext hb3).cell; have f3z := (HF2.out.ext hb3).lt; have t3 := hb4.1; have t3z := hb4.2; clear ho3 hb3 hb4 f2 f2z))
  go_ret
  exact ⟨rfl, HE3.out⟩
theorem Tryz.infoRMsg : (Tryz.prog.info? 90).map (fun i => (i.zero, i.size, i.bytes)) = some (some (.agg #[.int .u8 0, .int .u32 0, .int .u64 0, .int .u32 0, .int .u32 0, .int .u32 0, .string ⟨#[]⟩, .int .u8 0, .slice none 0 0, .int .u8 0, .int .u32 0, .int .u32 0, .int .u8 0, .slice none 0 0, .slice none 0 0, .slice none 0 0, .int .u8 0]), 17, 176) := by kernel_rfl
theorem Tryz.infoRRfS : (Tryz.prog.info? 47).map (fun i => (i.zero, i.size, i.bytes)) = some (some (.agg #[.int .u32 0, .int .u32 0]), 2, 8) := by kernel_rfl
def ML.cells (p : ML) : List Value := [.int .u8 p.k, .int .u32 p.x, .int .u64 p.st, .int .u32 p.n, .int .u32 p.r.r.oid, .int .u32 p.r.r.ver, .string p.r.r.nm, .int .u8 p.r.r.id, .slice p.r.a p.r.r.cols.length p.r.c, .int .u8 p.e.e.kind, .int .u32 p.e.e.ao, .int .u32 p.e.e.av, .int .u8 p.e.e.old, .slice p.e.ba p.e.e.b.length p.e.bc, .slice p.e.aa p.e.e.a.length p.e.ac, .slice p.e.ra p.e.e.rs.length p.e.rc, .int .u8 p.e.e.fl]
theorem ML.one (p : ML) : ∀ u ∈ p.cells, u.oneCell' = true := by
  intro u hu
  simp [ML.cells] at hu
  rcases hu with rfl | rfl | rfl | rfl | rfl | rfl | rfl | rfl | rfl | rfl | rfl | rfl | rfl | rfl | rfl | rfl | rfl <;> rfl
theorem ML.cells_len (l : List ML) : ∀ xs ∈ l.map ML.cells, xs.length = 17 := by
  intro xs hxs
  rw [List.mem_map] at hxs
  obtain ⟨p, _, rfl⟩ := hxs
  rfl
theorem Rf.one (p : Rf) : ∀ u ∈ p.cells, u.oneCell' = true := by
  intro u hu
  simp [Rf.cells] at hu
  rcases hu with rfl | rfl <;> rfl
theorem owns_apartS {W : World} {N N' T T' k k' n n' : Nat} {v v' : Value} {xs xs' : List Value} (h : W.ownsRow N T k v n xs) (h' : W.ownsRow N' T' k' v' n' xs') (ht : T ≠ T') : ∀ b, v.ownBlock = some b → v'.ownBlock = some b → False := fun b h1 h2 => by
  rcases h.2 with ⟨rfl, _⟩ | ⟨g, cap, cur, rfl, _, hh, _⟩
  · simp [Value.ownBlock] at h1
  · obtain rfl : g = b := by simpa [Value.ownBlock] using h1
    rcases h'.2 with ⟨rfl, _⟩ | ⟨g2, cap2, cur2, rfl, _, hh2, _⟩
    · simp [Value.ownBlock] at h2
    · obtain rfl : g2 = g := by simpa [Value.ownBlock] using h2
      have h3 := hh.symm.trans hh2
      cases h3
      exact ht rfl
structure ML.rok (w : World) (q : ML) : Prop where
  at_ : q.at 6 K.rc w
  ok : q.okr
  tb : ∀ c ∈ q.e.e.b, c.tw
  ta : ∀ c ∈ q.e.e.a, c.tw
structure RmI (w : World) (s : Said) (v u : Value) (qs : List ML) (W : World) : Prop where
  ms : qs.map ML.m = s.1
  own : W.ownsRow w.heap.size 90 17 v qs.length (qs.map ML.cells).flatten
  told : W.ownsRow w.heap.size 47 2 u s.2.length (s.2.map Rf.cells).flatten
  ok : ∀ q ∈ qs, q.rok w
  ext : Ext w W
section
variable {w W W' : World} {s : Said} {v v' u u' : Value} {qs : List ML} {x : ML} {r : Rf}
theorem RmI.nil (w : World) : RmI w ([], []) (.slice none 0 0) (.slice none 0 0) [] w := ⟨rfl, World.ownsRow_nil _ _ _ _, World.ownsRow_nil _ _ _ _, (fun q h => by cases h), Ext.refl _⟩
theorem RmI.go (h : RmI w s v u qs W) (he : Ext W W') : RmI w s v u qs W' := ⟨h.ms, owns_ext h.own he, owns_ext h.told he, h.ok, h.ext.trans he⟩
theorem RmI.len (h : RmI w s v u qs W) : qs.length = s.1.length := by rw [← h.ms, List.length_map]
theorem RmI.said (h : RmI w s v u qs W) (hx : x.rok w) (hg : W.grownBy W' v.ownBlock) (ho : W'.ownsRow w.heap.size 90 17 v' (qs.length + 1) ((qs.map ML.cells).flatten ++ x.cells)) : RmI w (s.1 ++ [x.m], s.2) v' u (qs ++ [x]) W' :=
  ⟨by rw [List.map_append, h.ms]; rfl, by simpa using ho, owns_kp h.told (Kp.of_grown hg) (fun b h1 h2 => owns_apartS h.told h.own (by decide) b h1 h2), fun q hq => by
    rcases List.mem_append.1 hq with hq | hq
    · exact h.ok q hq
    · obtain rfl : q = x := by simpa using hq
      exact hx, Below.grown h.ext hg h.ext.size (fun g e => (h.own.lt g e).1)⟩
theorem RmI.tell (h : RmI w s v u qs W) (hg : W.grownBy W' u.ownBlock) (ho : W'.ownsRow w.heap.size 47 2 u' (s.2.length + 1) ((s.2.map Rf.cells).flatten ++ r.cells)) : RmI w (s.1, s.2 ++ [r]) v u' qs W' :=
  ⟨h.ms, owns_kp h.own (Kp.of_grown hg) (fun b h1 h2 => owns_apartS h.own h.told (by decide) b h1 h2), by simpa using ho, h.ok, Below.grown h.ext hg h.ext.size (fun g e => (h.told.lt g e).1)⟩
theorem RmI.apart (h : RmI w s v u qs W) {a3 : Option Addr} {U : List Rf} (hb : ∀ b o, a3 = some ⟨b, o, none⟩ → U ≠ [] → W.heap.size ≤ b ∨ b < w.heap.size) : U ≠ [] → ∀ b, (u.ownBlock = some b ∨ v.ownBlock = some b) → ∀ o, a3 ≠ some ⟨b, o, none⟩ := fun h0 b hu o e => by
  have h1 : w.heap.size ≤ b ∧ b < W.heap.size := hu.elim (fun q => h.told.lt b q) (fun q => h.own.lt b q)
  rcases hb b o e h0 with h2 | h2 <;> omega
theorem owns_notS {N n k b : Nat} {T T' : TypeId} {xs : List Value} {cs : Array Value} (h : W.ownsRow N T k v n xs) (hb : Blk W b cs T') (ht : T ≠ T') : v.ownBlock ≠ some b := fun e => by
  rcases h.2 with ⟨rfl, _⟩ | ⟨g, cap, cur, rfl, _, hh, _⟩
  · simp [Value.ownBlock] at e
  · obtain rfl : g = b := by simpa [Value.ownBlock] using e
    unfold Blk at hb
    rw [hh] at hb
    cases hb
    exact ht rfl
theorem RmI.notv (h : RmI w s v u qs W) {b : Nat} {cs : Array Value} {T : TypeId} (hb : Blk W b cs T) (ht : T ≠ 90) : v.ownBlock ≠ some b := owns_notS h.own hb (fun e => ht e.symm)
theorem RmI.not (h : RmI w s v u qs W) {b : Nat} {cs : Array Value} {T : TypeId} (hb : Blk W b cs T) (ht : T ≠ 47) : u.ownBlock ≠ some b := owns_notS h.told hb (fun e => ht e.symm)
end
theorem has21_any (l : List Rf) (r : Rf) (a : Option Addr) (c : Nat) (w : World) (hl : Sl w (.slice a l.length c) 2 (l.map Rf.cells)) (hn : l.length ≤ 1000000000) :
    Calls Tryz.prog 45 #[.slice a l.length c, .agg #[.int .u32 r.o, .int .u32 r.v]] w fun e w' => e = .returned (.bool (hasRf l r)) ∧ Ext w w' := by
  have HL := Hm hl
  clear hl
  go_enter Tryz.func45, Tryz.ntmps45
  go_wp2
  go_loopw [5] (fun i wr => ∃ (k : Nat), k ≤ l.length ∧ i = .int .i64 k ∧ Hid (∀ j (hj : j < l.length), j < k → l[j] ≠ r) ∧ Hid (Ext (w.alloc (.cells #[.int .u32 r.o, .int .u32 r.v] 47)) wr)) (fun i _ => l.length - (intOf i).toNat)
  case atStart => exact ⟨0, Nat.zero_le _, rfl, Hm (fun j hj h => by omega), Hm (Ext.refl _)⟩
  case round =>
    obtain ⟨k, hk, rfl, hno, hE⟩ := hrel
    have HEW := Hm (((Ext.refl w).alloc (.cells #[.int .u32 r.o, .int .u32 r.v] 47)).trans hE.out)
    have HBB := Hm ((Blk.new w #[.int .u32 r.o, .int .u32 r.v] 47).ext hE.out)
    have g0 := HBB.out.cell
    have z0 := HBB.out.lt
    by_cases hlt : k < l.length
    · obtain ⟨b0, o, rfl, hb, hx⟩ := HL.out.at_ (i := k) (by simpa using hlt)
      obtain ⟨f0, f1⟩ := Rf.at_ hlt hx hb HEW.out
      have hbw : b0 < wr.heap.size := Nat.lt_of_lt_of_le hb HEW.out.size
      have HIN : Hid (l[k] ∈ l) := Hm (List.getElem_mem hlt)
      have HNX : Hid (l[k] ≠ r → ∀ j (hj : j < l.length), j < k + 1 → l[j] ≠ r) := Hm (fun h j hj hjk => by
        by_cases e : j = k
        · subst e; exact h
        · exact hno.out j hj (by omega))
      obtain ⟨p, hp⟩ : ∃ p, p = l[k] := ⟨_, rfl⟩
      rw [← hp] at f0 f1 HIN HNX
      clear hx hp hb hno
      obtain ⟨po, pv⟩ := p
      simp only at f0 f1
      obtain ⟨ro, rv⟩ := r
      simp only at g0
      by_cases h1 : po = ro
      · subst h1
        by_cases h2 : pv = rv
        · subst h2
          have HR := Hm (hasRf_true.2 HIN.out)
          clear HNX
          go_wp2
          go_region_held3 (fun w' => Ext (wr) w' ∧ (∀ b o, b < (wr).heap.size → w'.cell? ⟨b, o, none⟩ = (wr).cell? ⟨b, o, none⟩) ∧ (∀ b o, b < (wr).heap.size → w'.frozen? ⟨b, o, none⟩ = (wr).frozen? ⟨b, o, none⟩)) ((exact held_of (by exact eX))) (fail)
          go_wp2
          go_ret
          exact ⟨ret_bool HR.out.symm, by have hE := HEW.out; exact eX⟩
        · have h3 : (pv == rv) = false := by simpa using h2
          have HNX2 := Hm (HNX.out (fun e => h2 (by injection e)))
          clear HNX h2
          go_wp2
          go_region_held3 (fun w' => Ext (wr) w' ∧ (∀ b o, b < (wr).heap.size → w'.cell? ⟨b, o, none⟩ = (wr).cell? ⟨b, o, none⟩) ∧ (∀ b o, b < (wr).heap.size → w'.frozen? ⟨b, o, none⟩ = (wr).frozen? ⟨b, o, none⟩)) ((exact held_of (by exact eX))) (fail)
          go_wp2
          go_roundw
          case rel => exact ⟨k + 1, by omega, by go_num, HNX2, Hm (by have hE := hE.out; exact eX)⟩
          case measure => simp [intOf]; omega
      · have h3 : (po == ro) = false := by simpa using h1
        have HNX2 := Hm (HNX.out (fun e => h1 (by injection e)))
        clear HNX h1
        go_wp2
        go_region_held3 (fun w' => Ext (wr) w' ∧ (∀ b o, b < (wr).heap.size → w'.cell? ⟨b, o, none⟩ = (wr).cell? ⟨b, o, none⟩) ∧ (∀ b o, b < (wr).heap.size → w'.frozen? ⟨b, o, none⟩ = (wr).frozen? ⟨b, o, none⟩)) ((exact held_of (by exact eX))) (fail)
        go_wp2
        go_roundw
        case rel => exact ⟨k + 1, by omega, by go_num, HNX2, Hm (by have hE := hE.out; exact eX)⟩
        case measure => simp [intOf]; omega
    · have HR : Hid (hasRf l r = false) := Hm (by
        rw [← Bool.not_eq_true, hasRf_true]
        intro h
        obtain ⟨j, hj, e⟩ := List.getElem_of_mem h
        exact hno.out j hj (by omega) e)
      clear hno
      go_wp2
      go_ret
      exact ⟨ret_bool HR.out.symm, by have hE := HEW.out; exact eX⟩
theorem reuses_at (x : EL) (w : World) (hx : x.at 6 K.rc w) :
    Calls Tryz.prog 44 #[x.agg] w fun e w' => ∃ (a' : Option Addr) (n c' : Nat), e = .returned (.slice a' n c') ∧ n = (usesE x.e).length ∧ Sl w' (.slice a' n c') 2 ((usesE x.e).map Rf.cells) ∧ (∀ b o, a' = some ⟨b, o, none⟩ → w.heap.size ≤ b ∨ (a' = x.ra ∧ n = x.e.rs.length)) ∧ Ext w w' := by
  obtain ⟨⟨k1, ao1, av1, old1, b1, a1, r1, fl1⟩, ba1, bc1, aa1, ac1, ra1, rc1⟩ := x
  have HL := Hm hx.r
  unfold EL.agg
  simp only at HL ⊢
  clear hx
  by_cases h4 : 4 ≤ k1
  · by_cases h6 : k1 ≤ 6
    · have HU := Hm (show usesE ⟨k1, ao1, av1, old1, b1, a1, r1, fl1⟩ = [⟨ao1, av1⟩] from if_pos (decide_eq_true ⟨h4, h6⟩))
      go_enter Tryz.func44, Tryz.ntmps44
      go_wp2
      go_ret
      refine ⟨_, _, _, rfl, by rw [HU.out]; rfl, ?_, (fun b o e => .inl (by simp only [Option.some.injEq, Addr.mk.injEq] at e; obtain ⟨rfl, -⟩ := e; simp)), by exact eX⟩
      rw [HU.out]
      exact Sl.of_owns (base := 0) (e := 47) (by have h := one_owns2 (W := w.alloc (.cells #[.int .u8 k1, .int .u32 ao1, .int .u32 av1, .int .u8 old1, .slice ba1 b1.length bc1, .slice aa1 a1.length ac1, .slice ra1 r1.length rc1, .int .u8 fl1] 51)) (T := 47) ao1 av1 (Nat.zero_le _); rw [World.size_alloc] at h; exact h) (by intro xs hxs; simp at hxs; subst hxs; rfl)
    · have hr : rowedB k1 = false := decide_eq_false (fun h => h6 h.2)
      by_cases h7 : k1 = 7
      · have HU := Hm (show usesE ⟨k1, ao1, av1, old1, b1, a1, r1, fl1⟩ = r1 from (if_neg (by rw [hr]; simp)).trans (if_pos h7))
        have h7' : (k1 == 7) = true := by simpa using h7
        clear hr h7
        go_enter Tryz.func44, Tryz.ntmps44
        go_wp2
        go_ret
        refine ⟨_, _, _, rfl, by rw [HU.out], ?_, (fun b o e => .inr ⟨rfl, rfl⟩), by exact eX⟩
        rw [HU.out]
        exact HL.out.ext (by exact eX)
      · have HU := Hm (show usesE ⟨k1, ao1, av1, old1, b1, a1, r1, fl1⟩ = [] from (if_neg (by rw [hr]; simp)).trans (if_neg h7))
        have h7' : (k1 == 7) = false := by simpa using h7
        clear hr h7
        go_enter Tryz.func44, Tryz.ntmps44
        go_wp2
        go_ret
        refine ⟨_, _, _, rfl, by rw [HU.out]; rfl, ?_, (fun b o e => by cases e), by exact eX⟩
        rw [HU.out]
        exact nilRef _
  · have HU := Hm (show usesE ⟨k1, ao1, av1, old1, b1, a1, r1, fl1⟩ = [] from (if_neg (by rw [show rowedB k1 = false from decide_eq_false (fun h => h4 h.1)]; simp)).trans (if_neg (by simp only; omega)))
    have h7' : (k1 == 7) = false := by simp; omega
    go_enter Tryz.func44, Tryz.ntmps44
    go_wp2
    go_ret
    refine ⟨_, _, _, rfl, by rw [HU.out]; rfl, ?_, (fun b o e => by cases e), by exact eX⟩
    rw [HU.out]
    exact nilRef _
end Go.Proofs.YtdlhaidlokkmnaaGreatDoor
