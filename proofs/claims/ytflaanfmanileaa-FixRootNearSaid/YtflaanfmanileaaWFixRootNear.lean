/- The walk of FixRootNear: the root times itself is at most the number, and the next number times itself is not below it. -/
import Derived.Test.YtflaanfmanileaaFixOpen
set_option linter.unusedVariables false
namespace Go.Proofs.Ytflaanfmanileaa.lawFixRootNear
open Go.RowKit Go.Proofs.Ytflaanfmanileaa Fx

set_option maxRecDepth 100000 in
set_option maxHeartbeats 2000000 in
theorem walk1 (a : Int) (ha : In a) (w : World) :
    Calls Try.prog 13 #[.int .i64 a] w fun e w' => e = .returned (.bool true) ∧ Below w.heap.size w w' := by
  by_cases hneg : a < 0
  · have k1 := fun W => sqrt_any a ha W
    rw [if_pos hneg] at k1
    have K1 := Lib.hid k1
    clear k1
    go_enter Try.func13, Try.ntmps13
    go_wp2_with fail
    refine (K1.out _).mono ?_
    rintro e w1 ⟨rfl, rfl⟩
    go_wp2_with fail
    refine (awake_any _).mono ?_
    rintro e w2 ⟨rfl, hB2⟩
    go_wp2_with fail
    go_ret
    exact ⟨rfl, hB2⟩
  · have k1 := fun W => sqrt_any a ha W
    rw [if_neg hneg] at k1
    obtain ⟨a0, a1⟩ := ha
    obtain ⟨n, rfl⟩ := Int.eq_ofNat_of_zero_le (show 0 ≤ a by omega)
    simp only [Int.toNat_natCast] at k1
    obtain ⟨h1, h2, h3⟩ := root_spec (n * 4294967296) (by omega)
    generalize root (n * 4294967296) = r at *
    have ir : In (r : Int) := by unfold In; omega
    have ir1 : In ((r : Int) + 1) := by unfold In; omega
    have k2 := fun W => mul_any (r : Int) (r : Int) ir ir W
    have k3 := fun W => mul_any ((r : Int) + 1) ((r : Int) + 1) ir1 ir1 W
    have q1 : cl (mulZ r r) ≤ (n : Int) := by
      have e : (r : Int) * (r : Int) = ((r * r : Nat) : Int) := by simp
      unfold cl mulZ
      rw [e]
      generalize r * r = s at *
      omega
    have q2 : out (mulZ ((r : Int) + 1) ((r : Int) + 1)) = true ∨ (n : Int) ≤ cl (mulZ ((r : Int) + 1) ((r : Int) + 1)) := by
      have e : ((r : Int) + 1) * ((r : Int) + 1) = (((r + 1) * (r + 1) : Nat) : Int) := by simp
      unfold cl out mulZ
      rw [e]
      generalize (r + 1) * (r + 1) = s at *
      simp only [decide_eq_true_eq]
      omega
    simp only [res] at k2 k3
    generalize cl (mulZ r r) = p at *
    generalize out (mulZ r r) = p' at *
    generalize cl (mulZ ((r : Int) + 1) ((r : Int) + 1)) = q at *
    generalize out (mulZ ((r : Int) + 1) ((r : Int) + 1)) = o at *
    have K1 := Lib.hid k1
    have K2 := Lib.hid k2
    have K3 := Lib.hid k3
    clear k1 k2 k3 h1 h2 ir ir1
    go_enter Try.func13, Try.ntmps13
    go_wp2_with fail
    refine (K1.out _).mono ?_
    rintro e w1 ⟨rfl, rfl⟩
    go_wp2_with fail
    refine (K2.out _).mono ?_
    rintro e w2 ⟨rfl, hB2⟩
    go_wp2_with fail
    refine (K3.out _).mono ?_
    rintro e w3 ⟨rfl, hB3⟩
    have B3 := below_next hB2 hB3
    go_wp2_with fail
    refine (awake_any _).mono ?_
    rintro e w4 ⟨rfl, hB4⟩
    have B4 := below_next B3 hB4
    cases o with
    | true =>
      clear q2
      go_wp2_with fail
      go_ret
      exact ⟨rfl, B4⟩
    | false =>
      have q3 : (n : Int) ≤ q := by simpa using q2
      clear q2
      go_wp2_with fail
      go_ret
      exact ⟨rfl, B4⟩

set_option maxRecDepth 100000 in
theorem walk {H : Type} {enc : TypeId × Value → H} {d0 : DataW H} {p0 : List MemPlace} (v0 : Value) (W : World) (base : Nat)
    (h0 : Value.okWide Try.prog W .any base 3 v0) (_ : DataW.Trod enc Try.prog W 0 (fun _ => true) true 3 v0 d0 p0) :
    Calls Try.prog 13 #[v0] W fun e w' => e = .returned (.bool true) ∧ Below W.heap.size W w' := by
  obtain ⟨x0, rfl, i0⟩ := ok_int Try.underlying3 h0
  exact walk1 x0 (in_of i0) W
end Go.Proofs.Ytflaanfmanileaa.lawFixRootNear
