/- The contract of fix.Mul. -/
import Derived.Test.YtnhklfdchfndjaaFixAdd
set_option linter.unusedVariables false
namespace Go.Proofs.Ytnhklfdchfndjaa
open Go.RowKit Fx

namespace Fx
/-- the product, to the nearest, halves up -/
def mulZ (a b : Int) : Int := (a * b + 2147483648) / 4294967296
theorem or_u64 (x y : Nat) (hx : x < 4294967296) (hy : y * 4294967296 < 18446744073709551616) : bits .or .u64 (x : Int) ((y * 4294967296 : Nat) : Int) = ((y * 4294967296 + x : Nat) : Int) := by
  have key : ∀ x y, bits .or .u64 x y = IntKind.u64.wrap (((BitVec.ofInt 64 x ||| BitVec.ofInt 64 y).toNat : Nat) : Int) := fun _ _ => rfl
  have e1 : (BitVec.ofInt 64 ((y * 4294967296 : Nat) : Int)).toNat = y <<< 32 := by
    rw [BitVec.toNat_ofInt, Nat.shiftLeft_eq]; omega
  have e2 : (BitVec.ofInt 64 (x : Int)).toNat = x := by
    rw [BitVec.toNat_ofInt]; omega
  rw [key, BitVec.toNat_or, e1, e2, Nat.or_comm, ← Nat.shiftLeft_add_eq_or_of_lt (by omega), Nat.shiftLeft_eq]
  rw [IntKind.wrap_u64]
  omega
theorem mul_abs (a b : Int) : a * b = if (!(decide (a < 0) == decide (b < 0))) then -((a.natAbs * b.natAbs : Nat) : Int) else ((a.natAbs * b.natAbs : Nat) : Int) := by
  have key : ∀ n m : Nat, -(n : Int) * -(m : Int) = ((n * m : Nat) : Int) := fun n m => by rw [Int.neg_mul_neg, Int.natCast_mul]
  by_cases h1 : a < 0
  · rw [decide_eq_true h1]
    obtain ⟨n, rfl⟩ : ∃ n : Nat, a = -(n : Int) := ⟨a.natAbs, by omega⟩
    by_cases h2 : b < 0
    · rw [decide_eq_true h2]
      obtain ⟨m, rfl⟩ : ∃ m : Nat, b = -(m : Int) := ⟨b.natAbs, by omega⟩
      rw [key, Int.natAbs_neg, Int.natAbs_neg]
      rfl
    · rw [decide_eq_false h2]
      obtain ⟨m, rfl⟩ := Int.eq_ofNat_of_zero_le (show 0 ≤ b by omega)
      rw [Int.neg_mul, Int.natAbs_neg, ← Int.natCast_mul]
      rfl
  · rw [decide_eq_false h1]
    obtain ⟨n, rfl⟩ := Int.eq_ofNat_of_zero_le (show 0 ≤ a by omega)
    by_cases h2 : b < 0
    · rw [decide_eq_true h2]
      obtain ⟨m, rfl⟩ : ∃ m : Nat, b = -(m : Int) := ⟨b.natAbs, by omega⟩
      rw [Int.mul_neg, Int.natAbs_neg, ← Int.natCast_mul]
      rfl
    · rw [decide_eq_false h2]
      obtain ⟨m, rfl⟩ := Int.eq_ofNat_of_zero_le (show 0 ≤ b by omega)
      rw [← Int.natCast_mul]
      rfl
/-- the sum of 128 bits, its lowest 32 cut off -/
theorem shift_wide (p half lo hi l2 c : Nat) (hp : p ≤ 85070591730234615865843651857942052864) (hh : half ≤ 2147483648) (hlo : p % 18446744073709551616 = lo) (hhi : p / 18446744073709551616 = hi)
    (hl2 : (lo + half) % 18446744073709551616 = l2) (hc : (lo + half) / 18446744073709551616 = c) :
    ((hi : Int) + (c : Int)) / 4294967296 = (((p + half) / 4294967296 / 18446744073709551616 : Nat) : Int) ∧
      bits .or .u64 ((l2 : Int) / 4294967296) (IntKind.u64.wrap (((hi : Int) + (c : Int)) * 4294967296)) = (((p + half) / 4294967296 % 18446744073709551616 : Nat) : Int) := by
  refine ⟨by omega, ?_⟩
  have e1 : (l2 : Int) / 4294967296 = ((l2 / 4294967296 : Nat) : Int) := by omega
  have e2 : IntKind.u64.wrap (((hi : Int) + (c : Int)) * 4294967296) = (((hi + c) % 4294967296 * 4294967296 : Nat) : Int) := by rw [IntKind.wrap_u64]; omega
  rw [e1, e2, or_u64 _ _ (by omega) (by omega)]
  congr 1
  omega
end Fx

set_option maxHeartbeats 2000000 in
theorem mul_any (a b : Int) (ha : In a) (hb : In b) (w : World) :
    Calls Try.prog 22 #[.int .i64 a, .int .i64 b] w fun e w' => e = .returned (res (mulZ a b)) ∧ Below w.heap.size w w' := by
  have K68 := fun (x : Int) (hx : In x) W => Lib.hid (size_any x hx.1 hx.2 W)
  have K67 := fun (x y : Nat) (hx : x < 18446744073709551616) (hy : y < 18446744073709551616) W => Lib.hid (mul64_any x y hx hy W)
  have A69 := fun (x y : Nat) W => add64_run x y 0 (by decide) W
  have HA := Lib.hid ha
  have HB := Lib.hid hb
  obtain ⟨p, hp⟩ : ∃ p, p = a.natAbs * b.natAbs := ⟨_, rfl⟩
  have hpl : p ≤ 85070591730234615865843651857942052864 := by
    have h1 : a.natAbs ≤ 9223372036854775808 := by unfold In at ha; omega
    have h2 : b.natAbs ≤ 9223372036854775808 := by unfold In at hb; omega
    have := Nat.mul_le_mul h1 h2
    omega
  go_enter Try.func22, Try.ntmps22
  go_wp2_with fail
  generalize hneg : (!(decide (a < 0) == decide (b < 0))) = neg
  have HN := Lib.hid hneg
  clear hneg
  refine ((K68 a HA.out _).out).mono ?_
  rintro e w1 ⟨rfl, rfl⟩
  go_wp2_with fail
  refine ((K68 b HB.out _).out).mono ?_
  rintro e w1 ⟨rfl, rfl⟩
  go_wp2_with fail
  refine ((K67 a.natAbs b.natAbs (by have := HA.out; unfold In at this; omega) (by have := HB.out; unfold In at this; omega) _).out).mono ?_
  rintro e w1 ⟨rfl, rfl⟩
  rw [← hp]
  have hm := mul_abs a b
  rw [← hp, HN.out] at hm
  clear hp HN
  generalize hlo : p % 18446744073709551616 = lo
  generalize hhi : p / 18446744073709551616 = hi
  cases neg
  · have hz : mulZ a b = ((((p + 2147483648) / 4294967296 : Nat)) : Int) := by
      unfold mulZ
      rw [hm]
      simp only [Bool.false_eq_true, if_false]
      omega
    have e1 : ∀ W, (callFunc 38 #[.int .u64 (lo : Int), .int .u64 2147483648, .int .u64 0]).run Try.prog W = .ok (.value (.tuple #[.int .u64 (((lo + 2147483648) % 18446744073709551616 : Nat) : Int), .int .u64 (((lo + 2147483648) / 18446744073709551616 : Nat) : Int)])) W := fun W => A69 lo 2147483648 W
    generalize hl2 : (lo + 2147483648) % 18446744073709551616 = l2 at *
    generalize hc : (lo + 2147483648) / 18446744073709551616 = c at *
    obtain ⟨E1, E2⟩ := shift_wide p 2147483648 lo hi l2 c hpl (by decide) hlo hhi hl2 hc
    have q0 : hi + c ≤ 4611686018427387905 := by omega
    have q1 : l2 < 18446744073709551616 := by omega
    have F1 := Lib.hid E1
    have F2 := Lib.hid E2
    have HZ := Lib.hid hz
    clear hl2 hc E1 E2 hz hm hlo hhi
    go_wp2_with fail
    rw [F1.out, F2.out]
    refine (bound_any false ((p + 2147483648) / 4294967296) _).mono ?_
    rintro e w2 ⟨rfl, hB⟩
    simp only [res, Bool.false_eq_true, if_false]
    generalize (p + 2147483648) / 4294967296 = v at *
    go_wp2_with fail
    go_ret2
    exact ⟨by rw [HZ.out]; rfl, below_one hB⟩
  · have hz : mulZ a b = -((((p + 2147483647) / 4294967296 : Nat)) : Int) := by
      unfold mulZ
      rw [hm]
      simp only [if_true]
      omega
    have e1 : ∀ W, (callFunc 38 #[.int .u64 (lo : Int), .int .u64 2147483647, .int .u64 0]).run Try.prog W = .ok (.value (.tuple #[.int .u64 (((lo + 2147483647) % 18446744073709551616 : Nat) : Int), .int .u64 (((lo + 2147483647) / 18446744073709551616 : Nat) : Int)])) W := fun W => A69 lo 2147483647 W
    generalize hl2 : (lo + 2147483647) % 18446744073709551616 = l2 at *
    generalize hc : (lo + 2147483647) / 18446744073709551616 = c at *
    obtain ⟨E1, E2⟩ := shift_wide p 2147483647 lo hi l2 c hpl (by decide) hlo hhi hl2 hc
    have q0 : hi + c ≤ 4611686018427387905 := by omega
    have q1 : l2 < 18446744073709551616 := by omega
    have F1 := Lib.hid E1
    have F2 := Lib.hid E2
    have HZ := Lib.hid hz
    clear hl2 hc E1 E2 hz hm hlo hhi
    go_wp2_with fail
    rw [F1.out, F2.out]
    refine (bound_any true ((p + 2147483647) / 4294967296) _).mono ?_
    rintro e w2 ⟨rfl, hB⟩
    simp only [res, if_true]
    generalize (p + 2147483647) / 4294967296 = v at *
    go_wp2_with fail
    go_ret2
    exact ⟨by rw [HZ.out]; rfl, below_one hB⟩
end Go.Proofs.Ytnhklfdchfndjaa
