/- Before the long division: both numbers shifted, in plain numbers. -/
import Derived.Test.YtnhklfdchfndjaaFixMul
import Derived.Test.YtnhklfdchfndjaaDivPlain
set_option linter.unusedVariables false
namespace Go.Proofs.Ytnhklfdchfndjaa.Dv
open Go.RowKit Fx

theorem or_high (x y s : Nat) (hx : x < 2 ^ s) (hy : y * 2 ^ s < 18446744073709551616) (hs : s ≤ 63) : bits .or .u64 ((y * 2 ^ s : Nat) : Int) (x : Int) = ((y * 2 ^ s + x : Nat) : Int) := by
  have key : ∀ x y, bits .or .u64 x y = IntKind.u64.wrap (((BitVec.ofInt 64 x ||| BitVec.ofInt 64 y).toNat : Nat) : Int) := fun _ _ => rfl
  have hp : 2 ^ s ≤ 9223372036854775808 := Nat.le_trans (Nat.pow_le_pow_right (by decide) hs) (by decide)
  have e1 : (BitVec.ofInt 64 ((y * 2 ^ s : Nat) : Int)).toNat = y <<< s := by
    rw [BitVec.toNat_ofInt, Nat.shiftLeft_eq]
    generalize y * 2 ^ s = z at *
    omega
  have e2 : (BitVec.ofInt 64 (x : Int)).toNat = x := by
    rw [BitVec.toNat_ofInt]
    omega
  have hlt : y * 2 ^ s + x < 18446744073709551616 := by
    rcases Nat.lt_or_ge y (2 ^ (64 - s)) with h | h
    · have h2 : (y + 1) * 2 ^ s ≤ 2 ^ (64 - s) * 2 ^ s := Nat.mul_le_mul_right _ h
      rw [← Nat.pow_add, show 64 - s + s = 64 by omega, Nat.add_mul, Nat.one_mul] at h2
      have : (2 : Nat) ^ 64 = 18446744073709551616 := rfl
      omega
    · have h2 : 2 ^ (64 - s) * 2 ^ s ≤ y * 2 ^ s := Nat.mul_le_mul_right _ h
      rw [← Nat.pow_add, show 64 - s + s = 64 by omega] at h2
      have : (2 : Nat) ^ 64 = 18446744073709551616 := rfl
      omega
  rw [key, BitVec.toNat_or, e1, e2, ← Nat.shiftLeft_add_eq_or_of_lt hx, Nat.shiftLeft_eq]
  exact wrapN _ hlt

theorem prep (hi lo y s : Nat) (hlt : hi < y) (hlo : lo < 18446744073709551616) (hs : s ≤ 63) (h1 : 9223372036854775808 ≤ y * 2 ^ s) (h2 : y * 2 ^ s < 18446744073709551616) :
    ∃ Y y1 y0 u a b : Nat, IntKind.u64.wrap ((y : Int) * 2 ^ s) = (Y : Int) ∧ (Y : Int) / 4294967296 = (y1 : Int) ∧ bits .and .u64 (Y : Int) 4294967295 = (y0 : Int) ∧
      bits .or .u64 (IntKind.u64.wrap ((hi : Int) * 2 ^ s)) ((lo : Int) / 2 ^ (64 - s)) = (u : Int) ∧ IntKind.u64.wrap ((lo : Int) * 2 ^ s) / 4294967296 = (a : Int) ∧ bits .and .u64 (IntKind.u64.wrap ((lo : Int) * 2 ^ s)) 4294967295 = (b : Int) ∧
      Y = y1 * 4294967296 + y0 ∧ 2147483648 ≤ y1 ∧ y1 < 4294967296 ∧ y0 < 4294967296 ∧ u < Y ∧ a < 4294967296 ∧ b < 4294967296 ∧ Y < 18446744073709551616 ∧
      (hi * 18446744073709551616 + lo) / y = (u * 4294967296 + a) / Y * 4294967296 + ((u * 4294967296 + a) % Y * 4294967296 + b) / Y ∧
      (hi * 18446744073709551616 + lo) % y = ((u * 4294967296 + a) % Y * 4294967296 + b) % Y / 2 ^ s := by
  have hp := Nat.two_pow_pos s
  have ip : (2 : Int) ^ s = ((2 ^ s : Nat) : Int) := by simp
  have ip2 : (2 : Int) ^ (64 - s) = ((2 ^ (64 - s) : Nat) : Int) := by simp
  have hpp : 2 ^ (64 - s) * 2 ^ s = 18446744073709551616 := by
    rw [← Nat.pow_add, show 64 - s + s = 64 by omega]
  have hhi : (hi + 1) * 2 ^ s ≤ y * 2 ^ s := Nat.mul_le_mul_right _ hlt
  rw [Nat.add_mul, Nat.one_mul] at hhi
  have hd : lo / 2 ^ (64 - s) < 2 ^ s := Nat.div_lt_of_lt_mul (by rw [hpp]; exact hlo)
  have hlow : lo * 2 ^ s / 18446744073709551616 = lo / 2 ^ (64 - s) := by
    rw [← hpp]; exact Nat.mul_div_mul_right _ _ hp
  have hm := Nat.div_add_mod (lo * 2 ^ s) 18446744073709551616
  have hml := Nat.mod_lt (lo * 2 ^ s) (show 0 < 18446744073709551616 by decide)
  rw [hlow] at hm
  have e5 : IntKind.u64.wrap ((lo : Int) * 2 ^ s) = ((lo * 2 ^ s % 18446744073709551616 : Nat) : Int) := by
    rw [ip, ← Int.natCast_mul, wrapM]
  have sc := scaled (hi * 18446744073709551616 + lo) y (2 ^ s) hp
  have eU : (hi * 18446744073709551616 + lo) * 2 ^ s = (hi * 2 ^ s + lo / 2 ^ (64 - s)) * 18446744073709551616 + (lo * 2 ^ s % 18446744073709551616 / 4294967296 * 4294967296 + lo * 2 ^ s % 18446744073709551616 % 4294967296) := by
    rw [Nat.add_mul, Nat.mul_right_comm, Nat.add_mul]
    generalize hi * 2 ^ s = x at *
    generalize lo * 2 ^ s = z at *
    generalize lo / 2 ^ (64 - s) = t at *
    omega
  have ts := two_steps (hi * 2 ^ s + lo / 2 ^ (64 - s)) (lo * 2 ^ s % 18446744073709551616 / 4294967296) (lo * 2 ^ s % 18446744073709551616 % 4294967296) (y * 2 ^ s) (by omega)
  rw [← eU, sc.1] at ts
  have sc2 := sc.2
  rw [ts.2] at sc2
  refine ⟨y * 2 ^ s, y * 2 ^ s / 4294967296, y * 2 ^ s % 4294967296, hi * 2 ^ s + lo / 2 ^ (64 - s), lo * 2 ^ s % 18446744073709551616 / 4294967296, lo * 2 ^ s % 18446744073709551616 % 4294967296, ?_, ?_, ?_, ?_, ?_, ?_, ?_, ?_, ?_, ?_, ?_, ?_, ?_, h2, ts.1, sc2.symm⟩
  · rw [ip, ← Int.natCast_mul, wrapN _ h2]
  · exact divN _
  · exact maskN _ h2
  · rw [ip, ip2, ← Int.natCast_mul, ← Int.natCast_ediv, wrapN _ (by omega)]
    exact or_high _ _ _ hd (by omega) hs
  · rw [e5]; exact divN _
  · rw [e5]; exact maskN _ hml
  all_goals
    generalize hi * 2 ^ s = x at *
    generalize lo * 2 ^ s = z at *
    generalize lo / 2 ^ (64 - s) = t at *
    generalize y * 2 ^ s = Y at *
    generalize 2 ^ s = p at *
    clear ts sc sc2 eU e5
    omega
theorem rem_wrap (u a z R : Nat) (h : z + R = u * 4294967296 + a) (hR : R < 18446744073709551616) : IntKind.u64.wrap (IntKind.u64.wrap (IntKind.u64.wrap ((u : Int) * 4294967296) + (a : Int)) - IntKind.u64.wrap (z : Int)) = (R : Int) := by
  rw [IntKind.wrap_u64, IntKind.wrap_u64, IntKind.wrap_u64, IntKind.wrap_u64]
  omega
theorem pow_div (r s : Nat) : (r : Int) / 2 ^ s = ((r / 2 ^ s : Nat) : Int) := by
  rw [Int.natCast_ediv]; simp
theorem two_eq {a b c d : Int} (h1 : a = b) (h2 : c = d) : Value.tuple #[.int .u64 a, .int .u64 c] = .tuple #[.int .u64 b, .int .u64 d] := by rw [h1, h2]
end Go.Proofs.Ytnhklfdchfndjaa.Dv
