/- Merged: Lz64. -/
import Derived.Lib.ItoaNum
import Derived.Test.YtofeoeknmlkjgaaZ16
import Derived.Test.YtofeoeknmlkjgaaZ18
set_option linter.unusedVariables false
set_option linter.unusedSimpArgs false
section
/- The contract of bits.LeadingZeros64. -/
set_option linter.unusedVariables false
namespace Go.Proofs.Ytofeoeknmlkjgaa
open Go.RowKit

theorem lz64_any (x : Int) (w : World) (h0 : 0 ≤ x) (h1 : x ≤ 18446744073709551615) :
    Calls Try.prog 113 #[.int .u64 x] w fun e w' => e = .returned (.int .i64 (64 - (Lib.bitLen x.toNat : Int))) ∧ w' = w := by
  have l : Lib.bitLen x.toNat ≤ 64 := Lib.bitLen_le x.toNat 64 (by omega) (by omega)
  go_enter Try.func113, Try.ntmps113
  go_wp2_with (refine (len64_any x _ h0 h1).mono ?_; rintro e w' ⟨rfl, rfl⟩)
  go_ret
  exact ⟨ret_i64 (by omega), rfl⟩

theorem lz_of (y : Nat) (h0 : 0 < y) (h1 : y < 18446744073709551616) : ∃ s : Nat, 64 - (Lib.bitLen y : Int) = (s : Int) ∧ s ≤ 63 ∧ 9223372036854775808 ≤ y * 2 ^ s ∧ y * 2 ^ s < 18446744073709551616 := by
  obtain ⟨a, b, c⟩ := Lib.bitLenAux_bounds 64 y h1 (by omega)
  have l : Lib.bitLen y ≤ 64 := Lib.bitLen_le y 64 (by omega) (by omega)
  unfold Lib.bitLen at *
  generalize Lib.bitLenAux 64 y = L at *
  refine ⟨64 - L, by omega, by omega, ?_, ?_⟩
  · have := Nat.mul_le_mul_right (2 ^ (64 - L)) b
    rw [← Nat.pow_add, show L - 1 + (64 - L) = 63 by omega] at this
    exact this
  · have := Nat.mul_lt_mul_of_pos_right c (Nat.two_pow_pos (64 - L))
    rw [← Nat.pow_add, show L + (64 - L) = 64 by omega] at this
    exact this
end Go.Proofs.Ytofeoeknmlkjgaa
end
