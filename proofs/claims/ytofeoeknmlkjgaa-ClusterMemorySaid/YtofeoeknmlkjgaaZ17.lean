/- Merged: DivPlain DivLaw. -/
import Derived.WalkKit
set_option linter.unusedVariables false
set_option linter.unusedSimpArgs false
section
/- The long division of bits.Div64, in plain numbers. -/
set_option linter.unusedVariables false
namespace Go.Proofs.Ytofeoeknmlkjgaa.Dv

def Inv (u d Y y1 q r : Nat) : Prop := q * y1 + r = u ∧ (u * 4294967296 + d) / Y ≤ q

theorem inv_start {u d Y y1 y0 : Nat} (hY : Y = y1 * 4294967296 + y0) (h1 : 0 < y1) (hd : d < 4294967296) : Inv u d Y y1 (u / y1) (u - u / y1 * y1) := by
  have hle : u / y1 * y1 ≤ u := Nat.div_mul_le_self u y1
  have hlt : u < (u / y1 + 1) * y1 := by
    have := Nat.div_add_mod u y1
    have hm := Nat.mod_lt u h1
    rw [Nat.add_mul, Nat.one_mul, Nat.mul_comm (u / y1)]
    omega
  generalize u / y1 = q at *
  refine ⟨by omega, ?_⟩
  have hYp : 0 < Y := by omega
  have hy : y1 * 4294967296 ≤ Y := by omega
  apply Nat.le_of_lt_succ
  rw [Nat.div_lt_iff_lt_mul hYp]
  have h2 : u + 1 ≤ (q + 1) * y1 := hlt
  have h3 : (u + 1) * 4294967296 ≤ (q + 1) * y1 * 4294967296 := Nat.mul_le_mul_right 4294967296 h2
  have h4 : (q + 1) * y1 * 4294967296 ≤ (q + 1) * Y := by
    rw [Nat.mul_assoc]
    exact Nat.mul_le_mul_left (q + 1) hy
  have h5 := Nat.le_trans h3 h4
  show _ < (q + 1) * Y
  generalize (q + 1) * Y = z at *
  omega

theorem inv_gt {u d Y y1 y0 q r : Nat} (hY : Y = y1 * 4294967296 + y0) (h1 : 0 < y1) (hd : d < 4294967296) (hu : u < Y) (hi : q * y1 + r = u) (hc : 4294967296 ≤ q ∨ 4294967296 * r + d < q * y0) : (u * 4294967296 + d) / Y < q := by
  have hYp : 0 < Y := by omega
  rw [Nat.div_lt_iff_lt_mul hYp]
  rcases hc with hc | hc
  · have h2 : 4294967296 * Y ≤ q * Y := Nat.mul_le_mul_right _ hc
    generalize q * Y = z at *
    omega
  · rw [hY, Nat.mul_add, ← Nat.mul_assoc]
    generalize q * y1 = a at *
    generalize q * y0 = b at *
    omega

theorem inv_step {u d Y y1 y0 q r : Nat} (hY : Y = y1 * 4294967296 + y0) (h1 : 0 < y1) (hd : d < 4294967296) (hu : u < Y) (hi : Inv u d Y y1 q r) (hc : 4294967296 ≤ q ∨ 4294967296 * r + d < q * y0) : 1 ≤ q ∧ Inv u d Y y1 (q - 1) (r + y1) := by
  have h := inv_gt hY h1 hd hu hi.1 hc
  obtain ⟨p, rfl⟩ : ∃ p, q = p + 1 := ⟨q - 1, by have := Nat.lt_of_le_of_lt (Nat.zero_le _) h; omega⟩
  refine ⟨by omega, ?_, by omega⟩
  have := hi.1
  rw [Nat.add_mul, Nat.one_mul] at this
  rw [Nat.add_sub_cancel]
  omega

theorem inv_exit {u d Y y1 y0 q r : Nat} (hY : Y = y1 * 4294967296 + y0) (h1 : 0 < y1) (hi : Inv u d Y y1 q r) (hc : q * y0 ≤ 4294967296 * r + d) : q = (u * 4294967296 + d) / Y := by
  have hYp : 0 < Y := by omega
  apply Nat.le_antisymm ?_ hi.2
  rw [Nat.le_div_iff_mul_le hYp, hY, Nat.mul_add, ← Nat.mul_assoc]
  have := hi.1
  generalize q * y1 = a at *
  generalize q * y0 = b at *
  omega

theorem inv_break {u d Y y1 y0 q r : Nat} (hY : Y = y1 * 4294967296 + y0) (h1 : 0 < y1) (h0 : y0 < 4294967296) (hu : u < Y) (hi : Inv u d Y y1 q r) (hr : 4294967296 ≤ r) : q * y0 ≤ 4294967296 * r + d := by
  have hq : q < 4294967296 := by
    apply Nat.lt_of_mul_lt_mul_right (a := y1)
    have := hi.1
    omega
  have : q * y0 ≤ 4294967296 * 4294967296 := Nat.mul_le_mul (by omega) (by omega)
  omega

theorem inv_bound {u d Y y1 q r : Nat} (hi : Inv u d Y y1 q r) (h1 : 2147483648 ≤ y1) (hu : u < 18446744073709551616) : q ≤ 8589934592 := by
  have h2 : q * 2147483648 ≤ q * y1 := Nat.mul_le_mul_left _ h1
  have := hi.1
  omega

theorem two_steps_at (B u a b Y : Nat) (hY : 0 < Y) :
    ((u * B + a) * B + b) / Y = (u * B + a) / Y * B + ((u * B + a) % Y * B + b) / Y ∧
    ((u * B + a) * B + b) % Y = ((u * B + a) % Y * B + b) % Y := by
  generalize u * B + a = x
  have hx := Nat.div_add_mod x Y
  have e2 : x * B + b = x % Y * B + b + x / Y * B * Y := by
    conv => lhs; rw [← hx]
    rw [Nat.add_mul, Nat.mul_comm Y, Nat.mul_right_comm]
    omega
  rw [e2, Nat.add_mul_div_right _ _ hY, Nat.add_mul_mod_self_right]
  exact ⟨by omega, rfl⟩
theorem two_steps (u a b Y : Nat) (hY : 0 < Y) :
    (u * 18446744073709551616 + (a * 4294967296 + b)) / Y = (u * 4294967296 + a) / Y * 4294967296 + ((u * 4294967296 + a) % Y * 4294967296 + b) / Y ∧
    (u * 18446744073709551616 + (a * 4294967296 + b)) % Y = ((u * 4294967296 + a) % Y * 4294967296 + b) % Y := by
  have e : u * 18446744073709551616 + (a * 4294967296 + b) = (u * 4294967296 + a) * 4294967296 + b := by omega
  rw [e]
  exact two_steps_at 4294967296 u a b Y hY

theorem scaled (x y p : Nat) (hp : 0 < p) : x * p / (y * p) = x / y ∧ x * p % (y * p) / p = x % y := by
  refine ⟨Nat.mul_div_mul_right _ _ hp, ?_⟩
  rw [Nat.mul_mod_mul_right, Nat.mul_div_cancel _ hp]
end Go.Proofs.Ytofeoeknmlkjgaa.Dv
end
section
/- What fix.Div answers, in plain numbers: to the nearest, halves up; it rises with the dividend. -/
set_option linter.unusedVariables false
namespace Go.Proofs.Ytofeoeknmlkjgaa.Fx

def quoN (n d : Nat) (neg : Bool) : Nat := n / d + (if (if neg then decide (d - n % d < n % d) else decide (d - n % d ≤ n % d)) then 1 else 0)
def divZ (a b : Int) : Int := if (!(decide (a < 0) == decide (b < 0))) then -((quoN (a.natAbs * 4294967296) b.natAbs true : Nat) : Int) else ((quoN (a.natAbs * 4294967296) b.natAbs false : Nat) : Int)

end Go.Proofs.Ytofeoeknmlkjgaa.Fx
end
