/-
The law's great: what is looked at, and what not.
-/
import Derived.Test.YtkofnmbkfaebcaaRefOf
import Derived.Test.YtkofnmbkfaebcaaRefRight
namespace Go.Proofs.Ytkofnmbkfaebcaa
open Go.RowKit

structure okR (r : R) : Prop where
  s : r.s.size ≤ 3000
  right : r.k = 2 → rightV r.ty r.n r.x r.y r.s = 0
  k : r.k ≤ 2

def GreatPost (l : List R) (w : World) (e : Ending) (w' : World) : Prop := ∃ g : Bool, e = .returned (.bool g) ∧ (g = false → l.length ≤ 300 ∧ ∀ r ∈ l, okR r) ∧ Ext w w'

set_option maxRecDepth 100000 in set_option maxHeartbeats 1600000 in
theorem great_any (l : List R) (v : Value) (w : World) (hl : Sl w v 6 (l.map R.cells)) (hlen : l.length ≤ 9223372036854775807) (hsz : ∀ r ∈ l, r.s.size ≤ 9223372036854775807) :
    Calls Try.prog 22 #[v] w (GreatPost l w) := by
  obtain ⟨a, cap, rfl, hs⟩ := hl
  simp only [List.length_map] at *
  rcases hs with h0 | ⟨b, o, rfl, hb, hc⟩
  · have : l = [] := by simpa using h0
    subst this
    go_enter Try.func22, Try.ntmps22
    go_wp2
    refine wp_loop_rounds 1 ?_
    rw [rounds_succ]
    go_wp2
    go_ret
    exact ⟨_, rfl, fun _ => ⟨by simp, by simp⟩, by (repeat (with_reducible (first | exact Ext.refl _ | assumption | exact held_left (by assumption) | apply Ext.drewN | apply Ext.drew | apply Ext.alloc | (refine Ext.setCell ?_ (by first | (simp; done) | (simp; omega) | omega) _) | (refine Ext.trans ?_ (by assumption)) | (refine Ext.trans ?_ (held_left (by assumption))))))⟩
  · have Hc := Hid.mk' hc
    have Hsz := Hid.mk' hsz
    clear hc hsz
    go_enter Try.func22, Try.ntmps22
    go_wp2
    go_loopw [3] (fun i wr => ∃ k : Nat, k ≤ l.length ∧ i = .int .i64 k ∧ Hid (k ≤ 301 ∧ ∀ j (hj : j < l.length), j < k → okR l[j]) ∧ Ext w wr) (fun i _ => l.length - (intOf i).toNat)
    case atStart => exact ⟨0, Nat.zero_le _, rfl, ⟨by omega, fun j _ h => by omega⟩, by (repeat (with_reducible (first | exact Ext.refl _ | assumption | exact held_left (by assumption) | apply Ext.drewN | apply Ext.drew | apply Ext.alloc | (refine Ext.setCell ?_ (by first | (simp; done) | (simp; omega) | omega) _) | (refine Ext.trans ?_ (by assumption)) | (refine Ext.trans ?_ (held_left (by assumption))))))⟩
    case round =>
      obtain ⟨k, hk, rfl, hok, hE⟩ := hrel
      by_cases hlt : k < l.length
      · by_cases h300 : k ≤ 300
        · obtain ⟨f0, f1, f2, f3, f4, f5⟩ := R.cellsAt Hc hE hb hlt
          obtain ⟨r, hr⟩ : ∃ r, r = l[k] := ⟨_, rfl⟩
          have hrs := Hid.mk' (Hsz.out l[k] (List.getElem_mem hlt))
          rw [← hr] at f0 f1 f2 f3 f4 f5 hrs
          have HR := Hid.mk' hr
          clear hr
          have lb : b < wr.heap.size := Nat.lt_of_lt_of_le hb hE.size
          have HE := Hid.mk' hE
          clear hE
          have hs3 : r.s.size ≤ 9223372036854775807 := hrs.out
          go_wp2_with (go_at_call 33; refine (rright_any r.ty r.n r.x r.y r.s _ hrs.out).mono ?_; rintro e w1 ⟨rfl, hb1⟩; have e0 := (hb1.cells.1 b _ lb).trans f0)
          all_goals have hE := HE.out
          all_goals first
            | (go_ret; exact ⟨true, rfl, fun h => absurd h (by decide), by (repeat (with_reducible (first | exact Ext.refl _ | assumption | exact held_left (by assumption) | apply Ext.drewN | apply Ext.drew | apply Ext.alloc | (refine Ext.setCell ?_ (by first | (simp; done) | (simp; omega) | omega) _) | (refine Ext.trans ?_ (by assumption)) | (refine Ext.trans ?_ (held_left (by assumption))))))⟩)
            | (go_roundw
               case rel =>
                 refine ⟨k + 1, by omega, by go_num, ⟨by omega, fun j hj hjk => ?_⟩, by (repeat (with_reducible (first | exact Ext.refl _ | assumption | exact held_left (by assumption) | apply Ext.drewN | apply Ext.drew | apply Ext.alloc | (refine Ext.setCell ?_ (by first | (simp; done) | (simp; omega) | omega) _) | (refine Ext.trans ?_ (by assumption)) | (refine Ext.trans ?_ (held_left (by assumption))))))⟩
                 by_cases e : j = k
                 · subst e; rw [← HR.out]; exact ⟨by omega, by intro h2; first | assumption | omega, by omega⟩
                 · exact hok.out.2 j hj (by omega)
               case measure => simp [intOf]; omega)
        · have HE := Hid.mk' hE
          clear hE
          go_wp2
          go_ret
          exact ⟨true, ret_bool (by simp; omega), fun h => absurd h (by decide), HE.out⟩
      · have hkk : k = l.length := by omega
        subst hkk
        have HE := Hid.mk' hE
        clear hE
        go_wp2
        all_goals
          go_ret
          refine ⟨decide (300 < l.length), ret_bool (by simp; omega), fun h => ⟨by simpa using h, ?_⟩, HE.out⟩
          intro r hr
          obtain ⟨j, hj, rfl⟩ := List.mem_iff_getElem.1 hr
          exact hok.out.2 j hj hj

end Go.Proofs.Ytkofnmbkfaebcaa
