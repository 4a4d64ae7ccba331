/- The walk of FixSwaps: sums and products may be swapped, and a sum that did not stop is undone by a difference. -/
import Derived.Test.YtflaanfmanileaaFixOpen
set_option linter.unusedVariables false
namespace Go.Proofs.Ytflaanfmanileaa.lawFixSwaps
open Go.RowKit Go.Proofs.Ytflaanfmanileaa Fx

set_option maxRecDepth 100000 in
set_option maxHeartbeats 2000000 in
theorem walk1 (a b : Int) (ha : In a) (hb : In b) (w : World) :
    Calls Try.prog 15 #[.int .i64 a, .int .i64 b] w fun e w' => e = .returned (.bool true) ∧ Below w.heap.size w w' := by
  have k1 := fun W => add_any a b ha hb W
  have k2 := fun W => add_any b a hb ha W
  have k3 := fun W => mul_any a b ha hb W
  have k4 := fun W => mul_any b a hb ha W
  have k5 := fun W => sub_any (cl (a + b)) b (In_cl _) hb W
  have e1 : b + a = a + b := Int.add_comm _ _
  have e2 : mulZ b a = mulZ a b := by unfold mulZ; rw [Int.mul_comm]
  rw [e1] at k2
  rw [e2] at k4
  have m1 : out (a + b) = false → cl (cl (a + b) - b) = a ∧ out (cl (a + b) - b) = false := by
    intro h
    have h1 : In (a + b) := by unfold out at h; unfold In; simp at h; omega
    rw [(cl_in h1).1, show a + b - b = a by omega]
    exact cl_in ha
  simp only [res] at k1 k2 k3 k4 k5
  generalize cl (cl (a + b) - b) = d at *
  generalize out (cl (a + b) - b) = o at *
  generalize cl (a + b) = x at *
  generalize out (a + b) = p at *
  generalize cl (mulZ a b) = z at *
  generalize out (mulZ a b) = r at *
  have K1 := Lib.hid k1
  have K2 := Lib.hid k2
  have K3 := Lib.hid k3
  have K4 := Lib.hid k4
  have K5 := Lib.hid k5
  clear k1 k2 k3 k4 k5 ha hb e1 e2
  go_enter Try.func15, Try.ntmps15
  go_wp2_with fail
  refine (K1.out _).mono ?_
  rintro e w1 ⟨rfl, rfl⟩
  go_wp2_with fail
  refine (K2.out _).mono ?_
  rintro e w1 ⟨rfl, rfl⟩
  go_wp2_with fail
  refine (K3.out _).mono ?_
  rintro e w2 ⟨rfl, hB2⟩
  go_wp2_with fail
  refine (K4.out _).mono ?_
  rintro e w3 ⟨rfl, hB3⟩
  have B3 := below_next hB2 hB3
  go_wp2_with fail
  refine (K5.out _).mono ?_
  rintro e w3 ⟨rfl, rfl⟩
  go_wp2_with fail
  refine (awake_any _).mono ?_
  rintro e w4 ⟨rfl, hB4⟩
  have B4 := below_next B3 hB4
  cases p with
  | true =>
    clear m1
    cases r <;> (go_wp2_with fail; go_ret; exact ⟨rfl, B4⟩)
  | false =>
    obtain ⟨rfl, rfl⟩ := m1 rfl
    clear m1
    cases r <;> (go_wp2_with fail; go_ret; exact ⟨rfl, B4⟩)

set_option maxRecDepth 100000 in
theorem walk {H : Type} {enc : TypeId × Value → H} {d0 d1 : DataW H} {p0 p1 : List MemPlace} (v0 v1 : Value) (W : World) (base : Nat)
    (h0 : Value.okWide Try.prog W .any base 3 v0) (_ : DataW.Trod enc Try.prog W 0 (fun _ => true) true 3 v0 d0 p0)
    (h1 : Value.okWide Try.prog W .any base 3 v1) (_ : DataW.Trod enc Try.prog W 0 (fun _ => true) true 3 v1 d1 p1) :
    Calls Try.prog 15 #[v0, v1] W fun e w' => e = .returned (.bool true) ∧ Below W.heap.size W w' := by
  obtain ⟨x0, rfl, i0⟩ := ok_int Try.underlying3 h0
  obtain ⟨x1, rfl, i1⟩ := ok_int Try.underlying3 h1
  exact walk1 x0 x1 (in_of i0) (in_of i1) W
end Go.Proofs.Ytflaanfmanileaa.lawFixSwaps
