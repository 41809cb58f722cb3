/-
The reference's Add and Of.
-/
import Derived.Test.YtdbepkfblfhlhaaP16
import Derived.Test.YtdbepkfblfhlhaaPart
import Derived.Test.YtdbepkfblfhlhaaOwnL
namespace Go.Proofs.Ytdbepkfblfhlhaa
open Go.RowKit

def encT (s : S) : Array Value := #[.int .i64 (wrap64 s.c), .int .i64 (wrap64 s.n), .int .i64 (wrap64 s.o), .int .i64 (wrap64 s.b), .int .i64 (wrap64 s.i), .int .i64 (wrap64 s.re), .int .i64 (wrap64 s.im)]
def S.scale (n : Int) (d : S) : S := ⟨n * d.c, n * d.n, n * d.o, n * d.b, n * d.i, n * d.re, n * d.im⟩

theorem wrap64_add1 (a b : Int) : wrap64 (wrap64 a + b) = wrap64 (a + b) := by unfold wrap64; omega
theorem wrap64_add3 (a b : Int) : wrap64 (a + wrap64 b) = wrap64 (a + b) := by unfold wrap64; omega
theorem wrap64_addm (a b : Int) : wrap64 (wrap64 a + wrap64 b) = wrap64 (a + b) := by unfold wrap64; omega

set_option maxRecDepth 100000 in set_option maxHeartbeats 1600000 in
theorem radd_any (s : S) (k ty n : Int) (x y : Nat) (t : ByteArray) (m : Int) (w : World) (hk : k = 0 ∨ k = 1 ∨ k = 2) :
    Calls Try.prog 60 #[.agg #[.int .i64 (wrap64 s.c), .int .i64 (wrap64 s.n), .int .i64 (wrap64 s.o), .int .i64 (wrap64 s.b), .int .i64 (wrap64 s.i), .int .i64 (wrap64 s.re), .int .i64 (wrap64 s.im)],
      .agg #[.int .u8 k, .int .u8 ty, .int .i64 n, .int .u64 x, .int .u64 y, .string t], .int .i64 m] w fun e w' =>
      e = .returned (.agg (encT (s.plus ((contrib k ty n x y t.size).scale m)))) ∧ Ext w w' := by
  rcases hk with rfl | rfl | rfl
  · go_enter Try.func60, Try.ntmps60
    go_wp2
    simp [bodyPost, results, Try.results60, go_sem]
    refine ⟨?_, by (repeat (with_reducible (first | exact Ext.refl _ | assumption | exact held_left (by assumption) | apply Ext.drewN | apply Ext.drew | apply Ext.alloc | (refine Ext.setCell ?_ (by first | (simp; done) | (simp; omega) | omega) _) | (refine Ext.trans ?_ (by assumption)) | (refine Ext.trans ?_ (held_left (by assumption))))))⟩
    simp [encT, S.plus, S.scale, contrib, wrap64_add1]
  · go_enter Try.func60, Try.ntmps60
    go_wp2
    simp [bodyPost, results, Try.results60, go_sem]
    refine ⟨?_, by (repeat (with_reducible (first | exact Ext.refl _ | assumption | exact held_left (by assumption) | apply Ext.drewN | apply Ext.drew | apply Ext.alloc | (refine Ext.setCell ?_ (by first | (simp; done) | (simp; omega) | omega) _) | (refine Ext.trans ?_ (by assumption)) | (refine Ext.trans ?_ (held_left (by assumption))))))⟩
    simp [encT, S.plus, S.scale, contrib, S.zero]
  · cases hx : whB x 1048576 <;> cases hy : whB y 1048576
    all_goals
      have hx' := Hid.mk' hx
      have hy' := Hid.mk' hy
      clear hx hy
      go_enter Try.func60, Try.ntmps60
      go_wp2_with (first
        | (go_at_call_of 100 (Value.int IntKind.u64 (x : Int)); refine (part_any x _).mono ?_; unfold PartPost; rw [hx'.out]; rintro e w' ⟨n1, rfl, hn1, rfl⟩; have q1 := Hid.mk' hn1; clear hn1)
        | (go_at_call_of 100 (Value.int IntKind.u64 (y : Int)); refine (part_any y _).mono ?_; unfold PartPost; rw [hy'.out]; rintro e w' ⟨n2, rfl, hn2, rfl⟩; have q2 := Hid.mk' hn2; clear hn2))
      all_goals
        simp [bodyPost, results, Try.results60, go_sem]
        refine ⟨?_, by (repeat (with_reducible (first | exact Ext.refl _ | assumption | exact held_left (by assumption) | apply Ext.drewN | apply Ext.drew | apply Ext.alloc | (refine Ext.setCell ?_ (by first | (simp; done) | (simp; omega) | omega) _) | (refine Ext.trans ?_ (by assumption)) | (refine Ext.trans ?_ (held_left (by assumption))))))⟩
        have hx := hx'.out
        have hy := hy'.out
        clear hx' hy'
        try (have e1 := q1.out (by first | rfl | trivial); clear q1; subst e1)
        try (have e2 := q2.out (by first | rfl | trivial); clear q2; subst e2)
        try (have h4 : ty = 4 := by (simp_all; done))
        simp_all [encT, S.plus, S.scale, contrib, wrap64_add1, wrap64_add3]

end Go.Proofs.Ytdbepkfblfhlhaa
