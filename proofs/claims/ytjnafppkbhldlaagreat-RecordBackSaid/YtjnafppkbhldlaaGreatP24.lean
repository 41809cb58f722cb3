/-
What is wrong with an event's images: the reference's answer.
-/
import Derived.Test.YtjnafppkbhldlaaGreatP23
set_option maxRecDepth 100000
set_option maxHeartbeats 16000000
namespace Go.Proofs.YtjnafppkbhldlaaGreat
open Go.RowKit
structure RCat (ps : List RR) : Prop where
  ok : CatOk (ps.map RR.r)
  wb : ∀ p ∈ ps, p.r.wb
theorem RCat.n16 {ps : List RR} (h : RCat ps) {p : RR} (hp : p ∈ ps) : p.r.cols.length ≤ 16 := Rl.cols_le (h.ok.right _ (List.mem_map_of_mem hp))
theorem right15_any (ps : List RR) (a : Option Addr) (cap : Nat) (w : World) (hl : RL w (.slice a ps.length cap) ps) (hb : ∀ p ∈ ps, p.r.wb) (hlen : ps.length ≤ 9223372036854775807) :
    Calls Tryz.prog 51 #[.slice a ps.length cap] w fun e w' => e = .returned (.bool (ofE (ps.map RR.r) == 0)) ∧ Ext w w' := by
  have HRA := Hm (rof_any ps a cap w hl hb hlen)
  unfold ROfPost at HRA
  clear hl hb
  go_enter Tryz.func51, Tryz.ntmps51
  go_wp2_with (go_at_call 12; refine HRA.out.mono ?_; rintro e w4 ⟨aw, cw, n, rfl, -, -, hb4⟩)
  go_ret
  exact ⟨rfl, hb4⟩
structure OwnQ (ps : List RR) (W : World) (g N : Nat) (cc : Value) (qc : List RR) (aw : Option Addr) (cw : Nat) (U : List RR) : Prop where
  ca : Ca W N g cc qc
  rl : RL W (.slice aw U.length cw) U
  eq : U.map RR.r = qc.map RR.r
  rc : RCat U
theorem OwnQ.ext {ps : List RR} {W W' : World} {g N : Nat} {cc : Value} {qc : List RR} {aw : Option Addr} {cw : Nat} {U : List RR} (h : OwnQ ps W g N cc qc aw cw U) (he : Ext W W') : OwnQ ps W' g N cc qc aw cw U := ⟨h.ca.ext he, h.rl.ext he, h.eq, h.rc⟩
theorem own15_any (ps : List RR) (a : Option Addr) (cap : Nat) (w : World) (hl : RL w (.slice a ps.length cap) ps) (hb : ∀ p ∈ ps, p.r.wb) (hlen : ps.length ≤ 1000) (h0 : ofE (ps.map RR.r) = 0) :
    Calls Tryz.prog 52 #[.slice a ps.length cap] w fun e w' => ∃ g N cc qc aw cw U, e = .returned (.tuple #[.pointer (some ⟨g, 0, none⟩), .slice aw U.length cw]) ∧ OwnQ ps w' g N cc qc aw cw U ∧ Ext w w' := by
  have HRA := Hm (rof_any ps a cap w hl hb (by omega))
  unfold ROfPost at HRA
  rw [h0] at HRA
  have HB := Hm hb
  have H0 := Hm h0
  have HOA := Hm (fun W (h : Ext w W) => own9_any ps a cap W (hl.ext h) hlen hb)
  obtain ⟨NA, hNA⟩ : ∃ E, E = ofPl (ps.map RR.r) := ⟨_, rfl⟩
  rw [← hNA] at HRA
  have HNA := Hm hNA
  clear hl hb h0 hNA
  go_enter Tryz.func52, Tryz.ntmps52
  go_wp2_with (first
    | (go_at_call 12; refine HRA.out.mono ?_; rintro e w4 ⟨aw, cw, n, rfl, h1, -, hb4⟩; have HW := Hm (h1 (by first | exact rfl | exact trivial)); have HB4 := Hm hb4; clear h1 hb4)
    | (go_at_call 16; refine (HOA.out _ HB4.out).mono ?_; rintro e w2 ⟨a2', c2', qs2, rfl, ho2, hb2⟩; have HB2 := Hm (HB4.out.trans hb2); have HX2 := Hm hb2; have HOF := Hm (cof_any qs2 a2' c2' w2 (by rw [ho2.len]; exact ho2.rl) ho2.cap (ho2.wb HB.out) (by rw [ho2.len]; exact hlen)); rw [ho2.rs, ho2.len] at HOF; unfold COfPost at HOF; rw [H0.out, ← HNA.out] at HOF; clear ho2 hb2)
    | (go_at_call 15; refine HOF.out.mono ?_; rintro e w3 ⟨pv, rfl, h1, -, hb3⟩; obtain ⟨rfl, cc, qc, hcc, hqc⟩ := h1 (by first | exact rfl | exact trivial); have HCC := Hm hcc; have HQC := Hm hqc; have HB3 := Hm (HB2.out.trans hb3); have HX3 := Hm (HX2.out.trans hb3); clear h1 hcc hqc hb3))
  obtain ⟨hn, hrl⟩ := HW.out
  subst hn
  have hUr : (upP ps ps.length).map RR.r = qc.map RR.r := by rw [upP_r, HQC.out, List.length_map]
  go_ret2
  exact ⟨_, _, cc, qc, aw, cw, upP ps ps.length, rfl, ⟨HCC.out, hrl.ext HX3.out, hUr, ⟨by rw [hUr]; exact HCC.out.ok, fun p hp => HB.out p (upP_mem hp)⟩⟩, HB3.out⟩
end Go.Proofs.YtjnafppkbhldlaaGreat
