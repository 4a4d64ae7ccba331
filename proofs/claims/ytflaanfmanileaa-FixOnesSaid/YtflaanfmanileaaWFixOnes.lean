/- The walk of FixOnes: one times a number, it divided by one and it with nought added are it; nought times it is nought. -/
import Derived.Test.YtflaanfmanileaaFixDiv
set_option linter.unusedVariables false
namespace Go.Proofs.Ytflaanfmanileaa.lawFixOnes
open Go.RowKit Go.Proofs.Ytflaanfmanileaa Fx

set_option maxRecDepth 100000 in
set_option maxHeartbeats 2000000 in
theorem walk1 (a : Int) (ha : In a) (w : World) :
    Calls Try.prog 10 #[.int .i64 a] w fun e w' => e = .returned (.bool true) ∧ Below w.heap.size w w' := by
  have i1 : In 4294967296 := by unfold In; decide
  have i0 : In 0 := by unfold In; decide
  have k1 := fun W => mul_any a 4294967296 ha i1 W
  have k2 := fun W => div_any a 4294967296 ha i1 W
  have k3 := fun W => add_any a 0 ha i0 W
  have k4 := fun W => mul_any a 0 ha i0 W
  rw [show mulZ a 4294967296 = a by unfold mulZ; omega, res_in ha] at k1
  rw [show divR a 4294967296 = a by unfold divR; rw [if_neg (by decide), divZ_one, (cl_in ha).1], show divB a 4294967296 = false by unfold divB; rw [if_neg (by decide), divZ_one, (cl_in ha).2]] at k2
  rw [Int.add_zero, res_in ha] at k3
  rw [show mulZ a 0 = 0 by unfold mulZ; simp, res_in i0] at k4
  have K1 := Lib.hid k1
  have K2 := Lib.hid k2
  have K3 := Lib.hid k3
  have K4 := Lib.hid k4
  clear k1 k2 k3 k4 ha i0 i1
  have t1 : (a == a) = true := by simp
  go_enter Try.func10, Try.ntmps10
  go_wp2_with fail
  refine (K1.out _).mono ?_
  rintro e w1 ⟨rfl, hB1⟩
  have B1 := Lib.hid hB1
  clear hB1
  go_wp2_with fail
  refine (K2.out _).mono ?_
  rintro e w2 ⟨rfl, hB2⟩
  have B2 := Lib.hid (below_next B1.out hB2)
  clear hB2 B1
  go_wp2_with fail
  refine (K3.out _).mono ?_
  rintro e w3 ⟨rfl, rfl⟩
  go_wp2_with fail
  refine (K4.out _).mono ?_
  rintro e w4 ⟨rfl, hB4⟩
  have B4 := Lib.hid (below_next B2.out hB4)
  clear hB4 B2
  go_wp2_with fail
  refine (awake_any _).mono ?_
  rintro e w5 ⟨rfl, hB5⟩
  have B5 := Lib.hid (below_next B4.out hB5)
  clear hB5 B4
  go_wp2_with fail
  go_ret
  exact ⟨rfl, B5.out⟩

set_option maxRecDepth 100000 in
theorem walk {H : Type} {enc : TypeId × Value → H} {d0 : DataW H} {p0 : List MemPlace} (v0 : Value) (W : World) (base : Nat)
    (h0 : Value.okWide Try.prog W .any base 3 v0) (_ : DataW.Trod enc Try.prog W 0 (fun _ => true) true 3 v0 d0 p0) :
    Calls Try.prog 10 #[v0] W fun e w' => e = .returned (.bool true) ∧ Below W.heap.size W w' := by
  obtain ⟨x0, rfl, i0⟩ := ok_int Try.underlying3 h0
  exact walk1 x0 (in_of i0) W
end Go.Proofs.Ytflaanfmanileaa.lawFixOnes
