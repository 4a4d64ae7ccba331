/- The contracts of awake, spot. -/
import Derived.Test.YtnhklfdchfndjaaFixSqrt
import Derived.Deep.QuietTactic
import Derived.BigQuiet
import Derived.BigRegion
import Derived.Deep.CutRange
import Derived.Deep.DeepCutAuto
set_option linter.unusedVariables false
namespace Go.Proofs.Ytnhklfdchfndjaa
open Go.RowKit Fx

set_option maxRecDepth 100000 in
set_option maxHeartbeats 2000000 in
/-- 6 divided by two -/
theorem div64_six (w : World) :
    Calls Try.prog 40 #[.int .u64 0, .int .u64 25769803776, .int .u64 8589934592] w fun e w' => e = .returned (.tuple #[.int .u64 3, .int .u64 0]) ∧ Below w.heap.size w w' := by
  go_enter Try.func40, Try.ntmps40
  go_wp2_with fail
  go_quiet (fail)
  go_wp2_with fail
  go_ret2
  exact ⟨rfl, below_drewN _ _ _⟩

set_option maxRecDepth 100000 in
set_option maxHeartbeats 2000000 in
theorem div_six (w : World) :
    Calls Try.prog 23 #[.int .i64 6, .int .i64 8589934592] w fun e w' => e = .returned (.tuple #[.int .i64 3, .bool false]) ∧ Below w.heap.size w w' := by
  have K68 := fun (x : Int) (hx : In x) W => Lib.hid (size_any x hx.1 hx.2 W)
  have A69 := fun (x y : Nat) W => add64_run x y 0 (by decide) W
  go_enter Try.func23, Try.ntmps23
  go_wp2_with fail
  refine ((K68 8589934592 ⟨by decide, by decide⟩ _).out).mono ?_
  rintro e w1 ⟨rfl, rfl⟩
  go_wp2_with fail
  refine ((K68 6 ⟨by decide, by decide⟩ _).out).mono ?_
  rintro e w1 ⟨rfl, rfl⟩
  go_wp2_with fail
  refine ((K68 6 ⟨by decide, by decide⟩ _).out).mono ?_
  rintro e w1 ⟨rfl, rfl⟩
  go_upto_region 11 with fail
  go_region
  go_wp2_with fail
  refine (div64_six _).mono ?_
  rintro e w2 ⟨rfl, hB⟩
  have hb := ((Blk.new w1 67 #[Value.bool false, Value.int .u64 0, Value.int .u64 0]).drew).next hB
  have hsz : w1.heap.size < w2.heap.size := hb.lt
  have c0 := hb.cell 0
  have c1 := hb.cell 1
  have c2 := hb.cell 2
  have f0 := hb.frozen 0
  have f1 := hb.frozen 1
  have f2 := hb.frozen 2
  simp at c0 c1 c2
  have e1 : ∀ W, (callFunc 38 #[.int .u64 3, .int .u64 1, .int .u64 0]).run Try.prog W = .ok (.value (.tuple #[.int .u64 4, .int .u64 0])) W := fun W => A69 3 1 W
  have HBB := Lib.hid hB
  clear hb hB
  go_wp2_with fail
  refine (bound_any false 3 _).mono ?_
  rintro e w3 ⟨rfl, hB3⟩
  simp only [res, Bool.false_eq_true, if_false]
  go_wp2_with fail
  go_ret2
  exact ⟨rfl, below_next ((below_next (((Below.refl w1.heap.size w1).alloc (Nat.le_refl _) _).drew) HBB.out).setCell (p := ⟨w1.heap.size, 2, none⟩) (Nat.le_refl _) _) hB3⟩

theorem root_nine : root (Int.toNat 38654705664 * 4294967296) = 12884901888 := by
  obtain ⟨h1, h2, _⟩ := root_spec (Int.toNat 38654705664 * 4294967296) (by decide)
  generalize root (Int.toNat 38654705664 * 4294967296) = r at *
  have e : Int.toNat 38654705664 * 4294967296 = 12884901888 * 12884901888 := by decide
  rw [e] at h1 h2
  have g1 : r < 12884901889 := sq_lt (a := r) (b := 12884901889) (by omega)
  have g2 : 12884901888 < r + 1 := sq_lt h2
  omega

set_option maxRecDepth 100000 in
set_option maxHeartbeats 2000000 in
theorem awake_any (w : World) : Calls Try.prog 7 #[] w fun e w' => e = .returned (.bool true) ∧ Below w.heap.size w w' := by
  have k1 := fun W => add_any 2 3 ⟨by decide, by decide⟩ ⟨by decide, by decide⟩ W
  have k2 := fun W => mul_any 8589934592 3 ⟨by decide, by decide⟩ ⟨by decide, by decide⟩ W
  have k3 := fun W => sqrt_any 38654705664 ⟨by decide, by decide⟩ W
  rw [show res ((2 : Int) + 3) = .tuple #[.int .i64 5, .bool false] from rfl] at k1
  rw [show res (mulZ 8589934592 3) = .tuple #[.int .i64 6, .bool false] from rfl] at k2
  rw [if_neg (by decide), root_nine] at k3
  have K1 := Lib.hid k1
  have K2 := Lib.hid k2
  have K3 := Lib.hid k3
  clear k1 k2 k3
  go_enter Try.func7, Try.ntmps7
  go_wp2_with fail
  refine (K1.out _).mono ?_
  rintro e w1 ⟨rfl, rfl⟩
  go_wp2_with fail
  refine (K2.out _).mono ?_
  rintro e w2 ⟨rfl, hB2⟩
  go_wp2_with fail
  refine (div_six _).mono ?_
  rintro e w3 ⟨rfl, hB3⟩
  have B3 := below_next hB2 hB3
  go_wp2_with fail
  refine (K3.out _).mono ?_
  rintro e w4 ⟨rfl, rfl⟩
  go_wp2_with fail
  go_ret
  exact ⟨rfl, B3⟩
end Go.Proofs.Ytnhklfdchfndjaa
