/- The walk of FixOrder: sums and differences with c stand in the same order. -/
import Derived.Test.YtflaanfmanileaaFixOpen
set_option linter.unusedVariables false
namespace Go.Proofs.Ytflaanfmanileaa.lawFixOrder
open Go.RowKit Go.Proofs.Ytflaanfmanileaa Fx

theorem cl_mono {x y : Int} (h : x ≤ y) : cl x ≤ cl y := by unfold cl; omega

set_option maxRecDepth 100000 in
set_option maxHeartbeats 2000000 in
theorem walk1 (a b c : Int) (ha : In a) (hb : In b) (hc : In c) (w : World) :
    Calls Try.prog 14 #[.int .i64 a, .int .i64 b, .int .i64 c] w fun e w' => e = .returned (.bool true) ∧ Below w.heap.size w w' := by
  have k1 := fun W => add_any a c ha hc W
  have k2 := fun W => add_any b c hb hc W
  have k3 := fun W => sub_any a c ha hc W
  have k4 := fun W => sub_any b c hb hc W
  simp only [res] at k1 k2 k3 k4
  have m1 : a ≤ b → cl (a + c) ≤ cl (b + c) := fun h => cl_mono (by omega)
  have m2 : a ≤ b → cl (a - c) ≤ cl (b - c) := fun h => cl_mono (by omega)
  generalize cl (a + c) = x at *
  generalize cl (b + c) = y at *
  generalize cl (a - c) = z at *
  generalize cl (b - c) = v at *
  have K1 := Lib.hid k1
  have K2 := Lib.hid k2
  have K3 := Lib.hid k3
  have K4 := Lib.hid k4
  clear k1 k2 k3 k4 ha hb hc
  go_enter Try.func14, Try.ntmps14
  go_wp2_with fail
  refine (K1.out _).mono ?_
  rintro e w1 ⟨rfl, rfl⟩
  go_wp2_with fail
  refine (K2.out _).mono ?_
  rintro e w1 ⟨rfl, rfl⟩
  go_wp2_with fail
  refine (K3.out _).mono ?_
  rintro e w1 ⟨rfl, rfl⟩
  go_wp2_with fail
  refine (K4.out _).mono ?_
  rintro e w1 ⟨rfl, rfl⟩
  go_wp2_with fail
  refine (awake_any _).mono ?_
  rintro e w2 ⟨rfl, hB2⟩
  by_cases h : b < a
  · clear m1 m2
    go_wp2_with fail
    go_ret
    exact ⟨rfl, hB2⟩
  · have n1 := m1 (by omega)
    have n2 := m2 (by omega)
    clear m1 m2
    go_wp2_with fail
    go_ret
    exact ⟨rfl, hB2⟩

set_option maxRecDepth 100000 in
theorem walk {H : Type} {enc : TypeId × Value → H} {d0 d1 d2 : DataW H} {p0 p1 p2 : List MemPlace} (v0 v1 v2 : Value) (W : World) (base : Nat)
    (h0 : Value.okWide Try.prog W .any base 3 v0) (_ : DataW.Trod enc Try.prog W 0 (fun _ => true) true 3 v0 d0 p0)
    (h1 : Value.okWide Try.prog W .any base 3 v1) (_ : DataW.Trod enc Try.prog W 0 (fun _ => true) true 3 v1 d1 p1)
    (h2 : Value.okWide Try.prog W .any base 3 v2) (_ : DataW.Trod enc Try.prog W 0 (fun _ => true) true 3 v2 d2 p2) :
    Calls Try.prog 14 #[v0, v1, v2] W fun e w' => e = .returned (.bool true) ∧ Below W.heap.size W w' := by
  obtain ⟨x0, rfl, i0⟩ := ok_int Try.underlying3 h0
  obtain ⟨x1, rfl, i1⟩ := ok_int Try.underlying3 h1
  obtain ⟨x2, rfl, i2⟩ := ok_int Try.underlying3 h2
  exact walk1 x0 x1 x2 (in_of i0) (in_of i1) (in_of i2) W
end Go.Proofs.Ytflaanfmanileaa.lawFixOrder
