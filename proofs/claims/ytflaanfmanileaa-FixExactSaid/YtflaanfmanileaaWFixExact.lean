/- The walk of FixExact: the product of numbers below 2^46 whose lowest sixteen bits are 0 is exact. -/
import Derived.Test.YtflaanfmanileaaFixOpen
import Derived.Test.YtflaanfmanileaaSpot
set_option linter.unusedVariables false
namespace Go.Proofs.Ytflaanfmanileaa.lawFixExact
open Go.RowKit Go.Proofs.Ytflaanfmanileaa Fx

theorem great_any (a : Int) (w : World) : Calls Try.prog 43 #[.int .i64 a] w fun e w' => e = .returned (.bool (decide (70368744177664 ≤ a ∨ a ≤ -70368744177664))) ∧ w' = w := by
  by_cases h1 : 70368744177664 ≤ a
  · rw [decide_eq_true (show 70368744177664 ≤ a ∨ a ≤ -70368744177664 by omega)]
    go_enter Try.func43, Try.ntmps43
    go_wp2_with fail
    go_ret
    exact ⟨rfl, rfl⟩
  · by_cases h2 : a ≤ -70368744177664
    · rw [decide_eq_true (show 70368744177664 ≤ a ∨ a ≤ -70368744177664 by omega)]
      go_enter Try.func43, Try.ntmps43
      go_wp2_with fail
      go_ret
      exact ⟨rfl, rfl⟩
    · rw [decide_eq_false (show ¬ (70368744177664 ≤ a ∨ a ≤ -70368744177664) by omega)]
      go_enter Try.func43, Try.ntmps43
      go_wp2_with fail
      go_ret
      exact ⟨rfl, rfl⟩

set_option maxRecDepth 100000 in
set_option maxHeartbeats 2000000 in
theorem walk1 (a b : Int) (ha : In a) (hb : In b) (w : World) :
    Calls Try.prog 12 #[.int .i64 a, .int .i64 b] w fun e w' => e = .returned (.bool true) ∧ Below w.heap.size w w' := by
  have g1 := fun W => great_any a W
  have g2 := fun W => great_any b W
  by_cases h1 : 70368744177664 ≤ a ∨ a ≤ -70368744177664
  · rw [decide_eq_true h1] at g1
    have G1 := Lib.hid g1
    clear g1 g2 h1
    go_enter Try.func12, Try.ntmps12
    go_wp2_with fail
    refine (G1.out _).mono ?_
    rintro e w1 ⟨rfl, rfl⟩
    go_wp2_with fail
    refine (awake_any _).mono ?_
    rintro e w2 ⟨rfl, hB2⟩
    go_wp2_with fail
    go_ret
    exact ⟨rfl, hB2⟩
  · rw [decide_eq_false h1] at g1
    by_cases h2 : 70368744177664 ≤ b ∨ b ≤ -70368744177664
    · rw [decide_eq_true h2] at g2
      have G1 := Lib.hid g1
      have G2 := Lib.hid g2
      clear g1 g2 h1 h2
      go_enter Try.func12, Try.ntmps12
      go_wp2_with fail
      refine (G1.out _).mono ?_
      rintro e w1 ⟨rfl, rfl⟩
      go_wp2_with fail
      refine (G2.out _).mono ?_
      rintro e w1 ⟨rfl, rfl⟩
      go_wp2_with fail
      refine (awake_any _).mono ?_
      rintro e w2 ⟨rfl, hB2⟩
      go_wp2_with fail
      go_ret
      exact ⟨rfl, hB2⟩
    · rw [decide_eq_false h2] at g2
      obtain ⟨q, hq⟩ : ∃ q, q = a / 65536 := ⟨_, rfl⟩
      obtain ⟨r, hr⟩ : ∃ r, r = b / 65536 := ⟨_, rfl⟩
      have eq : a - a % 65536 = q * 65536 := by omega
      have er : b - b % 65536 = r * 65536 := by omega
      have q0 : -1073741824 ≤ q ∧ q ≤ 1073741823 := by omega
      have r0 : -1073741824 ≤ r ∧ r ≤ 1073741823 := by omega
      have ez : mulZ (q * 65536) (r * 65536) = q * r := by
        unfold mulZ
        have : q * 65536 * (r * 65536) = q * r * 4294967296 := by
          rw [Int.mul_assoc, Int.mul_left_comm 65536, ← Int.mul_assoc, ← Int.mul_assoc]; omega
        rw [this]
        omega
      have bz : -1152921504606846976 ≤ q * r ∧ q * r ≤ 1152921504606846976 := by
        have := Int.natAbs_mul q r
        have h3 : q.natAbs * r.natAbs ≤ 1073741824 * 1073741824 := Nat.mul_le_mul (by omega) (by omega)
        omega
      have k3 := fun W => mul_any (q * 65536) (r * 65536) (by unfold In; omega) (by unfold In; omega) W
      rw [ez, res_in (by unfold In; omega)] at k3
      have s1 := fun W => spot_any a 65536 W (by decide) (by decide)
      have s2 := fun W => spot_any b 65536 W (by decide) (by decide)
      have t1 : (q * 65536).tdiv 65536 = q := Int.mul_tdiv_cancel _ (by decide)
      have t2 : (r * 65536).tdiv 65536 = r := Int.mul_tdiv_cancel _ (by decide)
      obtain ⟨bz0, bz1⟩ := bz
      obtain ⟨q0, q1⟩ := q0
      obtain ⟨r0, r1⟩ := r0
      have a0 : -70368744177664 < a := by omega
      have a1 : a < 70368744177664 := by omega
      have b0 : -70368744177664 < b := by omega
      have b1 : b < 70368744177664 := by omega
      clear ha hb
      have EQ := Lib.hid eq
      have ER := Lib.hid er
      have G1 := Lib.hid g1
      have G2 := Lib.hid g2
      have S1 := Lib.hid s1
      have S2 := Lib.hid s2
      have K3 := Lib.hid k3
      have d1 : 0 ≤ a % 65536 := by omega
      have d2 : 0 ≤ b % 65536 := by omega
      have d3 : a % 65536 < 65536 := by omega
      have d4 : b % 65536 < 65536 := by omega
      clear g1 g2 s1 s2 k3 eq er hq hr h1 h2 ez
      generalize a % 65536 = u at *
      generalize b % 65536 = v at *
      generalize hqr : q * r = z at *
      go_enter Try.func12, Try.ntmps12
      go_wp2_with fail
      refine (G1.out _).mono ?_
      rintro e w1 ⟨rfl, rfl⟩
      go_wp2_with fail
      refine (G2.out _).mono ?_
      rintro e w1 ⟨rfl, rfl⟩
      go_wp2_with fail
      refine (S1.out _).mono ?_
      rintro e w1 ⟨rfl, rfl⟩
      go_wp2_with fail
      refine (S2.out _).mono ?_
      rintro e w1 ⟨rfl, rfl⟩
      go_wp2_with fail
      rw [EQ.out, ER.out]
      refine (K3.out _).mono ?_
      rintro e w3 ⟨rfl, hB3⟩
      go_wp2_with fail
      refine (awake_any _).mono ?_
      rintro e w4 ⟨rfl, hB4⟩
      have B4 := below_next hB3 hB4
      go_wp2_with fail
      go_ret
      exact ⟨rfl, B4⟩

set_option maxRecDepth 100000 in
theorem walk {H : Type} {enc : TypeId × Value → H} {d0 d1 : DataW H} {p0 p1 : List MemPlace} (v0 v1 : Value) (W : World) (base : Nat)
    (h0 : Value.okWide Try.prog W .any base 3 v0) (_ : DataW.Trod enc Try.prog W 0 (fun _ => true) true 3 v0 d0 p0)
    (h1 : Value.okWide Try.prog W .any base 3 v1) (_ : DataW.Trod enc Try.prog W 0 (fun _ => true) true 3 v1 d1 p1) :
    Calls Try.prog 12 #[v0, v1] W fun e w' => e = .returned (.bool true) ∧ Below W.heap.size W w' := by
  obtain ⟨x0, rfl, i0⟩ := ok_int Try.underlying3 h0
  obtain ⟨x1, rfl, i1⟩ := ok_int Try.underlying3 h1
  exact walk1 x0 x1 (in_of i0) (in_of i1) W
end Go.Proofs.Ytflaanfmanileaa.lawFixExact
