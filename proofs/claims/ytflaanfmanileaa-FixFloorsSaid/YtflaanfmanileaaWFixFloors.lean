/- The walk of FixFloors: the whole part is at most the number and nearer than one. -/
import Derived.Test.YtflaanfmanileaaFixOpen
set_option linter.unusedVariables false
namespace Go.Proofs.Ytflaanfmanileaa.lawFixFloors
open Go.RowKit Go.Proofs.Ytflaanfmanileaa Fx

set_option maxRecDepth 100000 in
set_option maxHeartbeats 2000000 in
theorem walk1 (a : Int) (ha : In a) (w : World) :
    Calls Try.prog 16 #[.int .i64 a] w fun e w' => e = .returned (.bool true) ∧ Below w.heap.size w w' := by
  have hi : In (a / 4294967296) := by unfold In at ha ⊢; omega
  have k2 := fun W => of_any (a / 4294967296) hi W
  have hx : In (a / 4294967296 * 4294967296) := by unfold In at ha ⊢; omega
  rw [res_in hx] at k2
  have q1 : a / 4294967296 * 4294967296 ≤ a := by omega
  have q2 : a - a / 4294967296 * 4294967296 < 4294967296 := by omega
  obtain ⟨x0, x1⟩ := hx
  obtain ⟨a0, a1⟩ := ha
  have k1 := fun W => floor_any a W
  generalize a / 4294967296 * 4294967296 = x at *
  generalize a / 4294967296 = n at *
  have K1 := Lib.hid k1
  have K2 := Lib.hid k2
  clear k1 k2 hi
  go_enter Try.func16, Try.ntmps16
  go_wp2_with fail
  refine (K1.out _).mono ?_
  rintro e w1 ⟨rfl, rfl⟩
  go_wp2_with fail
  refine (K2.out _).mono ?_
  rintro e w1 ⟨rfl, rfl⟩
  go_wp2_with fail
  refine (awake_any _).mono ?_
  rintro e w2 ⟨rfl, hB2⟩
  go_wp2_with fail
  go_ret
  exact ⟨rfl, hB2⟩

set_option maxRecDepth 100000 in
theorem walk {H : Type} {enc : TypeId × Value → H} {d0 : DataW H} {p0 : List MemPlace} (v0 : Value) (W : World) (base : Nat)
    (h0 : Value.okWide Try.prog W .any base 3 v0) (_ : DataW.Trod enc Try.prog W 0 (fun _ => true) true 3 v0 d0 p0) :
    Calls Try.prog 16 #[v0] W fun e w' => e = .returned (.bool true) ∧ Below W.heap.size W w' := by
  obtain ⟨x0, rfl, i0⟩ := ok_int Try.underlying3 h0
  exact walk1 x0 (in_of i0) W
end Go.Proofs.Ytflaanfmanileaa.lawFixFloors
