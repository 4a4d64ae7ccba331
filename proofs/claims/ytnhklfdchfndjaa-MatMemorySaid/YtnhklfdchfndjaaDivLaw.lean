/- What fix.Div answers, in plain numbers: to the nearest, halves up; it rises with the dividend. -/
import Derived.WalkKit
set_option linter.unusedVariables false
namespace Go.Proofs.Ytnhklfdchfndjaa.Fx

/-- n / d without signs, to the nearest; a half goes up where 'neg' is false, down where it is true -/
def quoN (n d : Nat) (neg : Bool) : Nat := n / d + (if (if neg then decide (d - n % d < n % d) else decide (d - n % d ≤ n % d)) then 1 else 0)
/-- the quotient, to the nearest, halves up -/
def divZ (a b : Int) : Int := if (!(decide (a < 0) == decide (b < 0))) then -((quoN (a.natAbs * 4294967296) b.natAbs true : Nat) : Int) else ((quoN (a.natAbs * 4294967296) b.natAbs false : Nat) : Int)

theorem quoN_up (n d : Nat) (hd : 0 < d) : quoN n d false = (2 * n + d) / (2 * d) := by
  have h1 := Nat.div_add_mod n d
  have h2 := Nat.mod_lt n hd
  unfold quoN
  simp only [Bool.false_eq_true, if_false]
  generalize n % d = r at *
  generalize n / d = q at *
  have e : 2 * n + d = (2 * r + d) + q * (2 * d) := by
    rw [← h1, Nat.mul_add, Nat.mul_left_comm q 2 d, Nat.mul_comm q d]; omega
  rw [e, Nat.add_mul_div_right _ _ (by omega)]
  by_cases h : d - r ≤ r
  · rw [if_pos (decide_eq_true h)]
    have : (2 * r + d) / (2 * d) = 1 := by
      apply Nat.div_eq_of_lt_le <;> omega
    omega
  · rw [if_neg (by simpa using h), Nat.div_eq_of_lt (by omega)]
    omega
theorem quoN_down (n d : Nat) (hd : 0 < d) : -((quoN n d true : Nat) : Int) = (-2 * (n : Int) + d) / (2 * d) := by
  have h1 := Nat.div_add_mod n d
  have h2 := Nat.mod_lt n hd
  unfold quoN
  simp only [if_true]
  generalize n % d = r at *
  generalize n / d = q at *
  have e : -2 * (n : Int) + d = ((d : Int) - 2 * r) + (-(q : Int)) * (2 * d) := by
    have : (n : Int) = d * q + r := by rw [← h1]; push_cast; rfl
    rw [this, Int.mul_add, Int.neg_mul, Int.neg_mul, Int.neg_mul, Int.mul_left_comm (q : Int) 2 d, Int.mul_comm (q : Int) d]; omega
  rw [e, Int.add_mul_ediv_right _ _ (by omega)]
  by_cases h : d - r < r
  · rw [if_pos (decide_eq_true h)]
    have : ((d : Int) - 2 * r) / (2 * d) = -1 := by
      apply Int.le_antisymm
      · have : ((d : Int) - 2 * r) / (2 * d) < 0 := Int.ediv_neg_of_neg_of_pos (by omega) (by omega)
        omega
      · apply (Int.le_ediv_iff_mul_le (by omega)).2
        omega
    omega
  · rw [if_neg (by simpa using h)]
    have : ((d : Int) - 2 * r) / (2 * d) = 0 := Int.ediv_eq_zero_of_lt (by omega) (by omega)
    omega
/-- by a number above 0 -/
theorem divZ_pos (a b : Int) (hb : 0 < b) : divZ a b = (2 * (a * 4294967296) + b) / (2 * b) := by
  obtain ⟨d, rfl⟩ := Int.eq_ofNat_of_zero_le (show 0 ≤ b by omega)
  have hd : 0 < d := by omega
  unfold divZ
  rw [decide_eq_false (show ¬ ((d : Int) < 0) by omega), Int.natAbs_natCast]
  by_cases h : a < 0
  · obtain ⟨n, rfl⟩ : ∃ n : Nat, a = -(n : Int) := ⟨a.natAbs, by omega⟩
    rw [decide_eq_true h, Int.natAbs_neg, Int.natAbs_natCast]
    simp only [Bool.true_beq, Bool.not_false, if_true]
    rw [quoN_down _ _ hd]
    congr 1
    omega
  · obtain ⟨n, rfl⟩ := Int.eq_ofNat_of_zero_le (show 0 ≤ a by omega)
    rw [decide_eq_false h, Int.natAbs_natCast]
    simp only [beq_self_eq_true, Bool.not_true, Bool.false_eq_true, if_false]
    rw [quoN_up _ _ hd, Int.natCast_ediv]
    congr 1 <;> omega
theorem divZ_mono {a b k : Int} (h : a ≤ b) (hk : 0 < k) : divZ a k ≤ divZ b k := by
  rw [divZ_pos a k hk, divZ_pos b k hk]
  exact Int.ediv_le_ediv (by omega) (by omega)
theorem divZ_one (a : Int) : divZ a 4294967296 = a := by
  rw [divZ_pos a _ (by decide)]
  omega
end Go.Proofs.Ytnhklfdchfndjaa.Fx
