/- The walk of FixRises: products with k and quotients by k stand in the order of the numbers. -/
import Derived.Test.YtflaanfmanileaaFixDiv
set_option linter.unusedVariables false
namespace Go.Proofs.Ytflaanfmanileaa.lawFixRises
open Go.RowKit Go.Proofs.Ytflaanfmanileaa Fx

theorem cl_mono {x y : Int} (h : x ≤ y) : cl x ≤ cl y := by unfold cl; omega
theorem mul_rises {a b k : Int} (h : a ≤ b) (hk : 0 ≤ k) : cl (mulZ a k) ≤ cl (mulZ b k) := by
  have := Int.mul_le_mul_of_nonneg_right h hk
  apply cl_mono
  unfold mulZ
  generalize a * k = x at *
  generalize b * k = y at *
  omega
theorem div_rises {a b k : Int} (h : a ≤ b) (hk : 0 < k) : divR a k ≤ divR b k := by
  unfold divR
  rw [if_neg (by omega), if_neg (by omega)]
  exact cl_mono (divZ_mono h hk)

set_option maxRecDepth 100000 in
set_option maxHeartbeats 4000000 in
/-- from the four calls on: k is not below 0 -/
theorem rest (k a b x y z u : Int) (p q r s : Bool) (h1 : a ≤ b → x ≤ y) (h2 : a ≤ b → k ≠ 0 → z ≤ u) : (decide (b < a) || (decide (x ≤ y) && (decide (k = 0) || decide (z ≤ u)))) = true := by
  by_cases h : a ≤ b
  · have := h1 h
    by_cases hk : k = 0
    · simp [hk, this]
    · simp [this, h2 h hk]
  · simp; omega

set_option maxRecDepth 100000 in
set_option maxHeartbeats 4000000 in
theorem walk1 (a b k k' : Int) (ha : In a) (hb : In b) (hk : In k) (hk' : k' = if k < 0 then -(k + 1) else k) (w : World) :
    Calls Try.prog 11 #[.int .i64 a, .int .i64 b, .int .i64 k] w fun e w' => e = .returned (.bool true) ∧ Below w.heap.size w w' := by
  have ik : In k' := by unfold In at *; split at hk' <;> omega
  have k0 : 0 ≤ k' := by split at hk' <;> omega
  have k1 := fun W => mul_any a k' ha ik W
  have k2 := fun W => mul_any b k' hb ik W
  have k3 := fun W => div_any a k' ha ik W
  have k4 := fun W => div_any b k' hb ik W
  have h1 : a ≤ b → _ := fun h => mul_rises h k0
  have h2 : a ≤ b → k' ≠ 0 → _ := fun h hz => div_rises h (show 0 < k' by omega)
  simp only [res] at k1 k2
  generalize cl (mulZ a k') = x at *
  generalize cl (mulZ b k') = y at *
  generalize divR a k' = z at *
  generalize divR b k' = u at *
  generalize out (mulZ a k') = o1 at *
  generalize out (mulZ b k') = o2 at *
  generalize divB a k' = o3 at *
  generalize divB b k' = o4 at *
  have K1 := Lib.hid k1
  have K2 := Lib.hid k2
  have K3 := Lib.hid k3
  have K4 := Lib.hid k4
  have H1 := Lib.hid h1
  have H2 := Lib.hid h2
  clear k1 k2 k3 k4 h1 h2
  obtain ⟨kl, kh⟩ := hk
  by_cases hneg : k < 0
  all_goals
    first
    | (rw [if_pos hneg] at hk'; have dk : -(k + 1) = k' := hk'.symm; clear hk')
    | (rw [if_neg hneg] at hk'; subst hk')
    clear ha hb ik
    go_enter Try.func11, Try.ntmps11
    go_wp2_with fail
    refine (K1.out _).mono ?_
    rintro e w1 ⟨rfl, hB1⟩
    have B1 := Lib.hid hB1
    clear hB1
    go_wp2_with fail
    refine (K2.out _).mono ?_
    rintro e w2 ⟨rfl, hB2⟩
    have B2 := Lib.hid (below_next B1.out hB2)
    clear hB2 B1
    go_wp2_with fail
    refine (K3.out _).mono ?_
    rintro e w3 ⟨rfl, hB3⟩
    have B3 := Lib.hid (below_next B2.out hB3)
    clear hB3 B2
    go_wp2_with fail
    refine (K4.out _).mono ?_
    rintro e w4 ⟨rfl, hB4⟩
    have B4 := Lib.hid (below_next B3.out hB4)
    clear hB4 B3
    go_wp2_with fail
    refine (awake_any _).mono ?_
    rintro e w5 ⟨rfl, hB5⟩
    have B5 := Lib.hid (below_next B4.out hB5)
    clear hB5 B4
    by_cases hab : b < a
    · go_wp2_with fail
      go_ret
      exact ⟨rfl, B5.out⟩
    · have hxy := H1.out (by omega)
      have hzu := H2.out (by omega)
      have HZU := Lib.hid hzu
      clear hzu
      by_cases hkz : k' = 0
      · have b1 : (k' == 0) = true := by rw [hkz]; rfl
        go_wp2_with fail
        go_ret
        exact ⟨rfl, B5.out⟩
      · have b1 : (k' == 0) = false := by rw [beq_eq_false_iff_ne]; exact hkz
        have hzu := HZU.out hkz
        go_wp2_with fail
        go_ret
        exact ⟨rfl, B5.out⟩

set_option maxRecDepth 100000 in
theorem walk {H : Type} {enc : TypeId × Value → H} {d0 d1 d2 : DataW H} {p0 p1 p2 : List MemPlace} (v0 v1 v2 : Value) (W : World) (base : Nat)
    (h0 : Value.okWide Try.prog W .any base 3 v0) (_ : DataW.Trod enc Try.prog W 0 (fun _ => true) true 3 v0 d0 p0)
    (h1 : Value.okWide Try.prog W .any base 3 v1) (_ : DataW.Trod enc Try.prog W 0 (fun _ => true) true 3 v1 d1 p1)
    (h2 : Value.okWide Try.prog W .any base 3 v2) (_ : DataW.Trod enc Try.prog W 0 (fun _ => true) true 3 v2 d2 p2) :
    Calls Try.prog 11 #[v0, v1, v2] W fun e w' => e = .returned (.bool true) ∧ Below W.heap.size W w' := by
  obtain ⟨x0, rfl, i0⟩ := ok_int Try.underlying3 h0
  obtain ⟨x1, rfl, i1⟩ := ok_int Try.underlying3 h1
  obtain ⟨x2, rfl, i2⟩ := ok_int Try.underlying3 h2
  exact walk1 x0 x1 x2 _ (in_of i0) (in_of i1) (in_of i2) rfl W
end Go.Proofs.Ytflaanfmanileaa.lawFixRises
