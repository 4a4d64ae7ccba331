/- Merged: FixBits FixAdd FixMul DivPrep FixSqrt VecReck. -/
import Derived.BigQuiet
import Derived.BigRegion
import Derived.Deep.QuietTactic
import Derived.Laws.Bits64b
import Derived.Laws.Externs
import Derived.Lib.Hide
import Derived.Lib.Mul64
import Derived.Test.YtofeoeknmlkjgaaProg
import Derived.WalkKit
import Derived.Test.YtofeoeknmlkjgaaZ02
import Derived.Test.YtofeoeknmlkjgaaZ17
set_option linter.unusedVariables false
set_option linter.unusedSimpArgs false
section
/- The contracts of bits.Mul64, bits.Add64, bits.Div64, and fix.size. -/
set_option linter.unusedVariables false
namespace Go.Proofs.Ytofeoeknmlkjgaa
open Go.RowKit

namespace Fx
theorem maskN (a : Nat) (ha : a < 18446744073709551616) : bits .and .u64 (a : Int) 4294967295 = ((a % 4294967296 : Nat) : Int) := by
  have h := bits_and_u64_nat a 4294967295 ha (by omega)
  have e : a &&& 4294967295 = a % 4294967296 := Nat.and_two_pow_sub_one_eq_mod a 32
  rw [e] at h
  exact h
theorem divN (a : Nat) : (a : Int) / 4294967296 = ((a / 4294967296 : Nat) : Int) := by omega
theorem mulN (a b : Nat) : (a : Int) * (b : Int) = ((a * b : Nat) : Int) := (Int.natCast_mul a b).symm
theorem addN (a b : Nat) : (a : Int) + (b : Int) = ((a + b : Nat) : Int) := (Int.natCast_add a b).symm
theorem wrapN (a : Nat) (ha : a < 18446744073709551616) : IntKind.u64.wrap (a : Int) = (a : Int) := by rw [IntKind.wrap_u64]; omega
theorem wrapM (a : Nat) : IntKind.u64.wrap (a : Int) = ((a % 18446744073709551616 : Nat) : Int) := by rw [IntKind.wrap_u64]; omega
end Fx

set_option maxHeartbeats 1000000 in
theorem mul64_any (x y : Nat) (hx : x < 18446744073709551616) (hy : y < 18446744073709551616) (w : World) :
    Calls Try.prog 104 #[.int .u64 x, .int .u64 y] w fun e w' => e = .returned (.tuple #[.int .u64 ((x * y / 18446744073709551616 : Nat) : Int), .int .u64 ((x * y % 18446744073709551616 : Nat) : Int)]) ∧ w' = w := by
  obtain ⟨bd, bt, bw, hhi⟩ := Lib.mul64_hi x y hx hy
  have ba := Lib.half_mul_le (a := x / 4294967296) (b := y / 4294967296) (by omega) (by omega)
  have bb := Lib.half_mul_le (a := x / 4294967296) (b := y % 4294967296) (by omega) (by omega)
  have bc := Lib.half_mul_le (a := x % 4294967296) (b := y / 4294967296) (by omega) (by omega)
  have ba' : x / 4294967296 * (y / 4294967296) < 18446744073709551616 := by omega
  have bb' : x / 4294967296 * (y % 4294967296) < 18446744073709551616 := by omega
  have bc' : x % 4294967296 * (y / 4294967296) < 18446744073709551616 := by omega
  have bh1 : x / 4294967296 * (y / 4294967296) + (x / 4294967296 * (y % 4294967296) + x % 4294967296 * (y % 4294967296) / 4294967296) / 4294967296 < 18446744073709551616 := by omega
  have bh : x / 4294967296 * (y / 4294967296) + (x / 4294967296 * (y % 4294967296) + x % 4294967296 * (y % 4294967296) / 4294967296) / 4294967296 + ((x / 4294967296 * (y % 4294967296) + x % 4294967296 * (y % 4294967296) / 4294967296) % 4294967296 + x % 4294967296 * (y / 4294967296)) / 4294967296 < 18446744073709551616 := by omega
  go_enter Try.func104, Try.ntmps104
  go_wp2
  simp only [Fx.maskN x hx, Fx.maskN y hy, Fx.divN, Fx.mulN, Fx.addN, Fx.wrapN _ bd, Fx.wrapN _ bb', Fx.wrapN _ bt, Fx.maskN _ bt, Fx.wrapN _ bc', Fx.wrapN _ bw, Fx.wrapN _ ba', Fx.wrapN _ bh1, Fx.wrapN _ bh, Fx.wrapM (x * y)]
  rw [hhi]
  go_ret2
  exact ⟨rfl, rfl⟩

theorem add64_run (x y c : Nat) (hc : c ≤ 1) (w : World) :
    (callFunc 106 #[.int .u64 x, .int .u64 y, .int .u64 c]).run Try.prog w =
      .ok (.value (.tuple #[.int .u64 (((x + y + c) % 18446744073709551616 : Nat) : Int), .int .u64 (((x + y + c) / 18446744073709551616 : Nat) : Int)])) w := by
  rw [run_callFunc_extern Try.func106 (by kernel_rfl) (by kernel_rfl) (by kernel_rfl) (e := add64Entry) (by kernel_rfl), run_add64 x y c (by omega) (by omega) (by omega) (by omega)]
  simp only [Result.andThen]
  congr 5 <;> omega

theorem ret_u64 {a b : Int} (h : a = b) : Ending.returned (.int .u64 a) = .returned (.int .u64 b) := by rw [h]
theorem size_any (a : Int) (h0 : -9223372036854775808 ≤ a) (h1 : a ≤ 9223372036854775807) (w : World) :
    Calls Try.prog 105 #[.int .i64 a] w fun e w' => e = .returned (.int .u64 ((a.natAbs : Nat) : Int)) ∧ w' = w := by
  go_enter Try.func105, Try.ntmps105
  go_wp2
  all_goals go_ret
  · exact ⟨ret_u64 (by rw [IntKind.wrap_u64, IntKind.wrap_u64]; omega), rfl⟩
  · exact ⟨ret_u64 (by omega), rfl⟩
end Go.Proofs.Ytofeoeknmlkjgaa
end
section
/- The contracts of fix.Add, fix.Sub, fix.Of, fix.Floor, fix.bound. -/
set_option linter.unusedVariables false
namespace Go.Proofs.Ytofeoeknmlkjgaa
open Go.RowKit

namespace Fx
def cl (x : Int) : Int := if x < -9223372036854775808 then -9223372036854775808 else if 9223372036854775807 < x then 9223372036854775807 else x
def out (x : Int) : Bool := decide (x < -9223372036854775808 ∨ 9223372036854775807 < x)
def In (x : Int) : Prop := -9223372036854775808 ≤ x ∧ x ≤ 9223372036854775807
theorem cl_lo {x : Int} (h : x < -9223372036854775808) : cl x = -9223372036854775808 ∧ out x = true := by unfold cl out; simp; omega
theorem cl_hi {x : Int} (h : 9223372036854775807 < x) : cl x = 9223372036854775807 ∧ out x = true := by unfold cl out; simp; omega
theorem cl_in {x : Int} (h : In x) : cl x = x ∧ out x = false := by unfold In at h; unfold cl out; simp; omega
theorem In_cl (x : Int) : In (cl x) := by unfold In cl; omega
def res (x : Int) : Value := .tuple #[.int .i64 (cl x), .bool (out x)]
theorem res_lo {x : Int} (h : x < -9223372036854775808) : res x = .tuple #[.int .i64 (-9223372036854775808), .bool true] := by unfold res; rw [(cl_lo h).1, (cl_lo h).2]
theorem res_hi {x : Int} (h : 9223372036854775807 < x) : res x = .tuple #[.int .i64 9223372036854775807, .bool true] := by unfold res; rw [(cl_hi h).1, (cl_hi h).2]
theorem res_in {x : Int} (h : In x) : res x = .tuple #[.int .i64 x, .bool false] := by unfold res; rw [(cl_in h).1, (cl_in h).2]
end Fx
open Fx

set_option maxHeartbeats 1000000 in
theorem add_any (a b : Int) (ha : In a) (hb : In b) (w : World) :
    Calls Try.prog 90 #[.int .i64 a, .int .i64 b] w fun e w' => e = .returned (res (a + b)) ∧ w' = w := by
  obtain ⟨a0, a1⟩ := ha
  obtain ⟨b0, b1⟩ := hb
  by_cases h1 : 9223372036854775807 < a + b
  · rw [res_hi h1]
    have hw : IntKind.i64.wrap (a + b) = a + b - 18446744073709551616 := by rw [IntKind.wrap_i64]; omega
    generalize hs : a + b - 18446744073709551616 = s at *
    have q1 : 0 < a := by omega
    have q2 : 0 < b := by omega
    have q3 : s ≤ 0 := by omega
    go_enter Try.func90, Try.ntmps90
    go_wp2
    go_ret2
    exact ⟨rfl, rfl⟩
  · by_cases h2 : a + b < -9223372036854775808
    · rw [res_lo h2]
      have hw : IntKind.i64.wrap (a + b) = a + b + 18446744073709551616 := by rw [IntKind.wrap_i64]; omega
      generalize hs : a + b + 18446744073709551616 = s at *
      have q1 : a < 0 := by omega
      have q2 : b < 0 := by omega
      have q3 : 0 ≤ s := by omega
      go_enter Try.func90, Try.ntmps90
      go_wp2
      go_ret2
      exact ⟨rfl, rfl⟩
    · rw [res_in ⟨by omega, by omega⟩]
      go_enter Try.func90, Try.ntmps90
      go_wp2
      all_goals first | (exfalso; omega) | (go_ret2; exact ⟨rfl, rfl⟩)

set_option maxHeartbeats 1000000 in
theorem sub_any (a b : Int) (ha : In a) (hb : In b) (w : World) :
    Calls Try.prog 89 #[.int .i64 a, .int .i64 b] w fun e w' => e = .returned (res (a - b)) ∧ w' = w := by
  obtain ⟨a0, a1⟩ := ha
  obtain ⟨b0, b1⟩ := hb
  by_cases h1 : 9223372036854775807 < a - b
  · rw [res_hi h1]
    have hw : IntKind.i64.wrap (a - b) = a - b - 18446744073709551616 := by rw [IntKind.wrap_i64]; omega
    generalize hs : a - b - 18446744073709551616 = s at *
    have q1 : 0 ≤ a := by omega
    have q2 : b < 0 := by omega
    have q3 : s < 0 := by omega
    go_enter Try.func89, Try.ntmps89
    go_wp2
    go_ret2
    exact ⟨rfl, rfl⟩
  · by_cases h2 : a - b < -9223372036854775808
    · rw [res_lo h2]
      have hw : IntKind.i64.wrap (a - b) = a - b + 18446744073709551616 := by rw [IntKind.wrap_i64]; omega
      generalize hs : a - b + 18446744073709551616 = s at *
      have q1 : a < 0 := by omega
      have q2 : 0 < b := by omega
      have q3 : 0 ≤ s := by omega
      go_enter Try.func89, Try.ntmps89
      go_wp2
      go_ret2
      exact ⟨rfl, rfl⟩
    · rw [res_in ⟨by omega, by omega⟩]
      go_enter Try.func89, Try.ntmps89
      go_wp2
      all_goals first | (exfalso; omega) | (go_ret2; exact ⟨rfl, rfl⟩)

def wideV (neg : Bool) (v : Nat) : Value := .agg #[.bool neg, .int .u64 ((v / 18446744073709551616 : Nat) : Int), .int .u64 ((v % 18446744073709551616 : Nat) : Int)]

set_option maxHeartbeats 1000000 in
theorem bound_any (neg : Bool) (v : Nat) (w : World) :
    Calls Try.prog 107 #[wideV neg v] w fun e w' => e = .returned (res (if neg then -(v : Int) else (v : Int))) ∧ Below w.heap.size w w' := by
  unfold wideV
  generalize hh : v / 18446744073709551616 = h at *
  generalize hl : v % 18446744073709551616 = l at *
  cases neg
  · simp only [Bool.false_eq_true, if_false]
    by_cases h1 : 9223372036854775807 < v
    · rw [res_hi (by omega)]
      by_cases h0 : 0 < h
      · go_enter Try.func107, Try.ntmps107
        go_wp2
        go_ret2
        exact ⟨rfl, ((Below.refl _ w).alloc (Nat.le_refl _) _)⟩
      · obtain rfl : h = 0 := by omega
        have q : 9223372036854775807 < l := by omega
        go_enter Try.func107, Try.ntmps107
        go_wp2
        go_ret2
        exact ⟨rfl, ((Below.refl _ w).alloc (Nat.le_refl _) _)⟩
    · obtain rfl : h = 0 := by omega
      obtain rfl : l = v := by omega
      rw [res_in ⟨by omega, by omega⟩]
      go_enter Try.func107, Try.ntmps107
      go_wp2
      go_ret2
      exact ⟨rfl, ((Below.refl _ w).alloc (Nat.le_refl _) _)⟩
  · simp only [if_true]
    by_cases h1 : 9223372036854775808 < v
    · rw [res_lo (by omega)]
      by_cases h0 : 0 < h
      · go_enter Try.func107, Try.ntmps107
        go_wp2
        go_ret2
        exact ⟨rfl, ((Below.refl _ w).alloc (Nat.le_refl _) _)⟩
      · obtain rfl : h = 0 := by omega
        have q : 9223372036854775808 < l := by omega
        go_enter Try.func107, Try.ntmps107
        go_wp2
        go_ret2
        exact ⟨rfl, ((Below.refl _ w).alloc (Nat.le_refl _) _)⟩
    · obtain rfl : h = 0 := by omega
      obtain rfl : l = v := by omega
      rw [res_in ⟨by omega, by omega⟩]
      have hw : IntKind.i64.wrap (IntKind.u64.wrap (-(l : Int))) = -(l : Int) := by rw [IntKind.wrap_i64, IntKind.wrap_u64]; omega
      have hw2 : wrap64 (IntKind.u64.wrap (-(l : Int))) = -(l : Int) := by unfold wrap64; rw [IntKind.wrap_u64]; omega
      have HW := Lib.hid hw2
      clear hw hw2
      go_enter Try.func107, Try.ntmps107
      go_wp2
      go_ret2
      exact ⟨by rw [HW.out]; rfl, ((Below.refl _ w).alloc (Nat.le_refl _) _)⟩
end Go.Proofs.Ytofeoeknmlkjgaa
end
section
/- The contract of fix.Mul. -/
set_option linter.unusedVariables false
namespace Go.Proofs.Ytofeoeknmlkjgaa
open Go.RowKit Fx

namespace Fx
def mulZ (a b : Int) : Int := (a * b + 2147483648) / 4294967296
theorem or_u64 (x y : Nat) (hx : x < 4294967296) (hy : y * 4294967296 < 18446744073709551616) : bits .or .u64 (x : Int) ((y * 4294967296 : Nat) : Int) = ((y * 4294967296 + x : Nat) : Int) := by
  have key : ∀ x y, bits .or .u64 x y = IntKind.u64.wrap (((BitVec.ofInt 64 x ||| BitVec.ofInt 64 y).toNat : Nat) : Int) := fun _ _ => rfl
  have e1 : (BitVec.ofInt 64 ((y * 4294967296 : Nat) : Int)).toNat = y <<< 32 := by
    rw [BitVec.toNat_ofInt, Nat.shiftLeft_eq]; omega
  have e2 : (BitVec.ofInt 64 (x : Int)).toNat = x := by
    rw [BitVec.toNat_ofInt]; omega
  rw [key, BitVec.toNat_or, e1, e2, Nat.or_comm, ← Nat.shiftLeft_add_eq_or_of_lt (by omega), Nat.shiftLeft_eq]
  rw [IntKind.wrap_u64]
  omega
theorem mul_abs (a b : Int) : a * b = if (!(decide (a < 0) == decide (b < 0))) then -((a.natAbs * b.natAbs : Nat) : Int) else ((a.natAbs * b.natAbs : Nat) : Int) := by
  have key : ∀ n m : Nat, -(n : Int) * -(m : Int) = ((n * m : Nat) : Int) := fun n m => by rw [Int.neg_mul_neg, Int.natCast_mul]
  by_cases h1 : a < 0
  · rw [decide_eq_true h1]
    obtain ⟨n, rfl⟩ : ∃ n : Nat, a = -(n : Int) := ⟨a.natAbs, by omega⟩
    by_cases h2 : b < 0
    · rw [decide_eq_true h2]
      obtain ⟨m, rfl⟩ : ∃ m : Nat, b = -(m : Int) := ⟨b.natAbs, by omega⟩
      rw [key, Int.natAbs_neg, Int.natAbs_neg]
      rfl
    · rw [decide_eq_false h2]
      obtain ⟨m, rfl⟩ := Int.eq_ofNat_of_zero_le (show 0 ≤ b by omega)
      rw [Int.neg_mul, Int.natAbs_neg, ← Int.natCast_mul]
      rfl
  · rw [decide_eq_false h1]
    obtain ⟨n, rfl⟩ := Int.eq_ofNat_of_zero_le (show 0 ≤ a by omega)
    by_cases h2 : b < 0
    · rw [decide_eq_true h2]
      obtain ⟨m, rfl⟩ : ∃ m : Nat, b = -(m : Int) := ⟨b.natAbs, by omega⟩
      rw [Int.mul_neg, Int.natAbs_neg, ← Int.natCast_mul]
      rfl
    · rw [decide_eq_false h2]
      obtain ⟨m, rfl⟩ := Int.eq_ofNat_of_zero_le (show 0 ≤ b by omega)
      rw [← Int.natCast_mul]
      rfl
theorem shift_wide (p half lo hi l2 c : Nat) (hp : p ≤ 85070591730234615865843651857942052864) (hh : half ≤ 2147483648) (hlo : p % 18446744073709551616 = lo) (hhi : p / 18446744073709551616 = hi)
    (hl2 : (lo + half) % 18446744073709551616 = l2) (hc : (lo + half) / 18446744073709551616 = c) :
    ((hi : Int) + (c : Int)) / 4294967296 = (((p + half) / 4294967296 / 18446744073709551616 : Nat) : Int) ∧
      bits .or .u64 ((l2 : Int) / 4294967296) (IntKind.u64.wrap (((hi : Int) + (c : Int)) * 4294967296)) = (((p + half) / 4294967296 % 18446744073709551616 : Nat) : Int) := by
  refine ⟨by omega, ?_⟩
  have e1 : (l2 : Int) / 4294967296 = ((l2 / 4294967296 : Nat) : Int) := by omega
  have e2 : IntKind.u64.wrap (((hi : Int) + (c : Int)) * 4294967296) = (((hi + c) % 4294967296 * 4294967296 : Nat) : Int) := by rw [IntKind.wrap_u64]; omega
  rw [e1, e2, or_u64 _ _ (by omega) (by omega)]
  congr 1
  omega
end Fx

set_option maxHeartbeats 2000000 in
theorem mul_any (a b : Int) (ha : In a) (hb : In b) (w : World) :
    Calls Try.prog 91 #[.int .i64 a, .int .i64 b] w fun e w' => e = .returned (res (mulZ a b)) ∧ Below w.heap.size w w' := by
  have K68 := fun (x : Int) (hx : In x) W => Lib.hid (size_any x hx.1 hx.2 W)
  have K67 := fun (x y : Nat) (hx : x < 18446744073709551616) (hy : y < 18446744073709551616) W => Lib.hid (mul64_any x y hx hy W)
  have A69 := fun (x y : Nat) W => add64_run x y 0 (by decide) W
  have HA := Lib.hid ha
  have HB := Lib.hid hb
  obtain ⟨p, hp⟩ : ∃ p, p = a.natAbs * b.natAbs := ⟨_, rfl⟩
  have hpl : p ≤ 85070591730234615865843651857942052864 := by
    have h1 : a.natAbs ≤ 9223372036854775808 := by unfold In at ha; omega
    have h2 : b.natAbs ≤ 9223372036854775808 := by unfold In at hb; omega
    have := Nat.mul_le_mul h1 h2
    omega
  go_enter Try.func91, Try.ntmps91
  go_wp2_with fail
  generalize hneg : (!(decide (a < 0) == decide (b < 0))) = neg
  have HN := Lib.hid hneg
  clear hneg
  refine ((K68 a HA.out _).out).mono ?_
  rintro e w1 ⟨rfl, rfl⟩
  go_wp2_with fail
  refine ((K68 b HB.out _).out).mono ?_
  rintro e w1 ⟨rfl, rfl⟩
  go_wp2_with fail
  refine ((K67 a.natAbs b.natAbs (by have := HA.out; unfold In at this; omega) (by have := HB.out; unfold In at this; omega) _).out).mono ?_
  rintro e w1 ⟨rfl, rfl⟩
  rw [← hp]
  have hm := mul_abs a b
  rw [← hp, HN.out] at hm
  clear hp HN
  generalize hlo : p % 18446744073709551616 = lo
  generalize hhi : p / 18446744073709551616 = hi
  cases neg
  · have hz : mulZ a b = ((((p + 2147483648) / 4294967296 : Nat)) : Int) := by
      unfold mulZ
      rw [hm]
      simp only [Bool.false_eq_true, if_false]
      omega
    have e1 : ∀ W, (callFunc 106 #[.int .u64 (lo : Int), .int .u64 2147483648, .int .u64 0]).run Try.prog W = .ok (.value (.tuple #[.int .u64 (((lo + 2147483648) % 18446744073709551616 : Nat) : Int), .int .u64 (((lo + 2147483648) / 18446744073709551616 : Nat) : Int)])) W := fun W => A69 lo 2147483648 W
    generalize hl2 : (lo + 2147483648) % 18446744073709551616 = l2 at *
    generalize hc : (lo + 2147483648) / 18446744073709551616 = c at *
    obtain ⟨E1, E2⟩ := shift_wide p 2147483648 lo hi l2 c hpl (by decide) hlo hhi hl2 hc
    have q0 : hi + c ≤ 4611686018427387905 := by omega
    have q1 : l2 < 18446744073709551616 := by omega
    have F1 := Lib.hid E1
    have F2 := Lib.hid E2
    have HZ := Lib.hid hz
    clear hl2 hc E1 E2 hz hm hlo hhi
    go_wp2_with fail
    rw [F1.out, F2.out]
    refine (bound_any false ((p + 2147483648) / 4294967296) _).mono ?_
    rintro e w2 ⟨rfl, hB⟩
    simp only [res, Bool.false_eq_true, if_false]
    generalize (p + 2147483648) / 4294967296 = v at *
    go_wp2_with fail
    go_ret2
    exact ⟨by rw [HZ.out]; rfl, below_one hB⟩
  · have hz : mulZ a b = -((((p + 2147483647) / 4294967296 : Nat)) : Int) := by
      unfold mulZ
      rw [hm]
      simp only [if_true]
      omega
    have e1 : ∀ W, (callFunc 106 #[.int .u64 (lo : Int), .int .u64 2147483647, .int .u64 0]).run Try.prog W = .ok (.value (.tuple #[.int .u64 (((lo + 2147483647) % 18446744073709551616 : Nat) : Int), .int .u64 (((lo + 2147483647) / 18446744073709551616 : Nat) : Int)])) W := fun W => A69 lo 2147483647 W
    generalize hl2 : (lo + 2147483647) % 18446744073709551616 = l2 at *
    generalize hc : (lo + 2147483647) / 18446744073709551616 = c at *
    obtain ⟨E1, E2⟩ := shift_wide p 2147483647 lo hi l2 c hpl (by decide) hlo hhi hl2 hc
    have q0 : hi + c ≤ 4611686018427387905 := by omega
    have q1 : l2 < 18446744073709551616 := by omega
    have F1 := Lib.hid E1
    have F2 := Lib.hid E2
    have HZ := Lib.hid hz
    clear hl2 hc E1 E2 hz hm hlo hhi
    go_wp2_with fail
    rw [F1.out, F2.out]
    refine (bound_any true ((p + 2147483647) / 4294967296) _).mono ?_
    rintro e w2 ⟨rfl, hB⟩
    simp only [res, if_true]
    generalize (p + 2147483647) / 4294967296 = v at *
    go_wp2_with fail
    go_ret2
    exact ⟨by rw [HZ.out]; rfl, below_one hB⟩
end Go.Proofs.Ytofeoeknmlkjgaa
end
section
/- Before the long division: both numbers shifted, in plain numbers. -/
set_option linter.unusedVariables false
namespace Go.Proofs.Ytofeoeknmlkjgaa.Dv
open Go.RowKit Fx

theorem or_high (x y s : Nat) (hx : x < 2 ^ s) (hy : y * 2 ^ s < 18446744073709551616) (hs : s ≤ 63) : bits .or .u64 ((y * 2 ^ s : Nat) : Int) (x : Int) = ((y * 2 ^ s + x : Nat) : Int) := by
  have key : ∀ x y, bits .or .u64 x y = IntKind.u64.wrap (((BitVec.ofInt 64 x ||| BitVec.ofInt 64 y).toNat : Nat) : Int) := fun _ _ => rfl
  have hp : 2 ^ s ≤ 9223372036854775808 := Nat.le_trans (Nat.pow_le_pow_right (by decide) hs) (by decide)
  have e1 : (BitVec.ofInt 64 ((y * 2 ^ s : Nat) : Int)).toNat = y <<< s := by
    rw [BitVec.toNat_ofInt, Nat.shiftLeft_eq]
    generalize y * 2 ^ s = z at *
    omega
  have e2 : (BitVec.ofInt 64 (x : Int)).toNat = x := by
    rw [BitVec.toNat_ofInt]
    omega
  have hlt : y * 2 ^ s + x < 18446744073709551616 := by
    rcases Nat.lt_or_ge y (2 ^ (64 - s)) with h | h
    · have h2 : (y + 1) * 2 ^ s ≤ 2 ^ (64 - s) * 2 ^ s := Nat.mul_le_mul_right _ h
      rw [← Nat.pow_add, show 64 - s + s = 64 by omega, Nat.add_mul, Nat.one_mul] at h2
      have : (2 : Nat) ^ 64 = 18446744073709551616 := rfl
      omega
    · have h2 : 2 ^ (64 - s) * 2 ^ s ≤ y * 2 ^ s := Nat.mul_le_mul_right _ h
      rw [← Nat.pow_add, show 64 - s + s = 64 by omega] at h2
      have : (2 : Nat) ^ 64 = 18446744073709551616 := rfl
      omega
  rw [key, BitVec.toNat_or, e1, e2, ← Nat.shiftLeft_add_eq_or_of_lt hx, Nat.shiftLeft_eq]
  exact wrapN _ hlt

theorem prep (hi lo y s : Nat) (hlt : hi < y) (hlo : lo < 18446744073709551616) (hs : s ≤ 63) (h1 : 9223372036854775808 ≤ y * 2 ^ s) (h2 : y * 2 ^ s < 18446744073709551616) :
    ∃ Y y1 y0 u a b : Nat, IntKind.u64.wrap ((y : Int) * 2 ^ s) = (Y : Int) ∧ (Y : Int) / 4294967296 = (y1 : Int) ∧ bits .and .u64 (Y : Int) 4294967295 = (y0 : Int) ∧
      bits .or .u64 (IntKind.u64.wrap ((hi : Int) * 2 ^ s)) ((lo : Int) / 2 ^ (64 - s)) = (u : Int) ∧ IntKind.u64.wrap ((lo : Int) * 2 ^ s) / 4294967296 = (a : Int) ∧ bits .and .u64 (IntKind.u64.wrap ((lo : Int) * 2 ^ s)) 4294967295 = (b : Int) ∧
      Y = y1 * 4294967296 + y0 ∧ 2147483648 ≤ y1 ∧ y1 < 4294967296 ∧ y0 < 4294967296 ∧ u < Y ∧ a < 4294967296 ∧ b < 4294967296 ∧ Y < 18446744073709551616 ∧
      (hi * 18446744073709551616 + lo) / y = (u * 4294967296 + a) / Y * 4294967296 + ((u * 4294967296 + a) % Y * 4294967296 + b) / Y ∧
      (hi * 18446744073709551616 + lo) % y = ((u * 4294967296 + a) % Y * 4294967296 + b) % Y / 2 ^ s := by
  have hp := Nat.two_pow_pos s
  have ip : (2 : Int) ^ s = ((2 ^ s : Nat) : Int) := by simp
  have ip2 : (2 : Int) ^ (64 - s) = ((2 ^ (64 - s) : Nat) : Int) := by simp
  have hpp : 2 ^ (64 - s) * 2 ^ s = 18446744073709551616 := by
    rw [← Nat.pow_add, show 64 - s + s = 64 by omega]
  have hhi : (hi + 1) * 2 ^ s ≤ y * 2 ^ s := Nat.mul_le_mul_right _ hlt
  rw [Nat.add_mul, Nat.one_mul] at hhi
  have hd : lo / 2 ^ (64 - s) < 2 ^ s := Nat.div_lt_of_lt_mul (by rw [hpp]; exact hlo)
  have hlow : lo * 2 ^ s / 18446744073709551616 = lo / 2 ^ (64 - s) := by
    rw [← hpp]; exact Nat.mul_div_mul_right _ _ hp
  have hm := Nat.div_add_mod (lo * 2 ^ s) 18446744073709551616
  have hml := Nat.mod_lt (lo * 2 ^ s) (show 0 < 18446744073709551616 by decide)
  rw [hlow] at hm
  have e5 : IntKind.u64.wrap ((lo : Int) * 2 ^ s) = ((lo * 2 ^ s % 18446744073709551616 : Nat) : Int) := by
    rw [ip, ← Int.natCast_mul, wrapM]
  have sc := scaled (hi * 18446744073709551616 + lo) y (2 ^ s) hp
  have eU : (hi * 18446744073709551616 + lo) * 2 ^ s = (hi * 2 ^ s + lo / 2 ^ (64 - s)) * 18446744073709551616 + (lo * 2 ^ s % 18446744073709551616 / 4294967296 * 4294967296 + lo * 2 ^ s % 18446744073709551616 % 4294967296) := by
    rw [Nat.add_mul, Nat.mul_right_comm, Nat.add_mul]
    generalize hi * 2 ^ s = x at *
    generalize lo * 2 ^ s = z at *
    generalize lo / 2 ^ (64 - s) = t at *
    omega
  have ts := two_steps (hi * 2 ^ s + lo / 2 ^ (64 - s)) (lo * 2 ^ s % 18446744073709551616 / 4294967296) (lo * 2 ^ s % 18446744073709551616 % 4294967296) (y * 2 ^ s) (by omega)
  rw [← eU, sc.1] at ts
  have sc2 := sc.2
  rw [ts.2] at sc2
  refine ⟨y * 2 ^ s, y * 2 ^ s / 4294967296, y * 2 ^ s % 4294967296, hi * 2 ^ s + lo / 2 ^ (64 - s), lo * 2 ^ s % 18446744073709551616 / 4294967296, lo * 2 ^ s % 18446744073709551616 % 4294967296, ?_, ?_, ?_, ?_, ?_, ?_, ?_, ?_, ?_, ?_, ?_, ?_, ?_, h2, ts.1, sc2.symm⟩
  · rw [ip, ← Int.natCast_mul, wrapN _ h2]
  · exact divN _
  · exact maskN _ h2
  · rw [ip, ip2, ← Int.natCast_mul, ← Int.natCast_ediv, wrapN _ (by omega)]
    exact or_high _ _ _ hd (by omega) hs
  · rw [e5]; exact divN _
  · rw [e5]; exact maskN _ hml
  all_goals
    generalize hi * 2 ^ s = x at *
    generalize lo * 2 ^ s = z at *
    generalize lo / 2 ^ (64 - s) = t at *
    generalize y * 2 ^ s = Y at *
    generalize 2 ^ s = p at *
    clear ts sc sc2 eU e5
    omega
theorem rem_wrap (u a z R : Nat) (h : z + R = u * 4294967296 + a) (hR : R < 18446744073709551616) : IntKind.u64.wrap (IntKind.u64.wrap (IntKind.u64.wrap ((u : Int) * 4294967296) + (a : Int)) - IntKind.u64.wrap (z : Int)) = (R : Int) := by
  rw [IntKind.wrap_u64, IntKind.wrap_u64, IntKind.wrap_u64, IntKind.wrap_u64]
  omega
theorem pow_div (r s : Nat) : (r : Int) / 2 ^ s = ((r / 2 ^ s : Nat) : Int) := by
  rw [Int.natCast_ediv]; simp
theorem two_eq {a b c d : Int} (h1 : a = b) (h2 : c = d) : Value.tuple #[.int .u64 a, .int .u64 c] = .tuple #[.int .u64 b, .int .u64 d] := by rw [h1, h2]
end Go.Proofs.Ytofeoeknmlkjgaa.Dv
end
section
/- The contract of fix.Sqrt. -/
set_option linter.unusedVariables false
namespace Go.Proofs.Ytofeoeknmlkjgaa
open Go.RowKit Fx

namespace Fx
def rootTo (M : Nat) : Nat → Nat
  | 0 => 0
  | k + 1 => if (rootTo M k + 2 ^ (47 - k)) * (rootTo M k + 2 ^ (47 - k)) ≤ M then rootTo M k + 2 ^ (47 - k) else rootTo M k
def root (M : Nat) : Nat := rootTo M 48
end Fx

end Go.Proofs.Ytofeoeknmlkjgaa
end
section
/- The contracts of vec's reckoner: see, add, sub, mul: it remembers whether anything was bent. -/
set_option linter.unusedVariables false
namespace Go.Proofs.Ytofeoeknmlkjgaa
open Go.RowKit Fx

theorem grown_set (w : World) (g i : Nat) (u : Value) : w.grownBy (w.setCell ⟨g, i, none⟩ u) (some g) := ⟨rfl, rfl, rfl, by simp [World.setCell], fun k _ hne => Below.heap_setCell _ _ _ _ (by simpa using hne)⟩
theorem grown_trans {w w1 w2 : World} {row : Option Nat} (h : w.grownBy w1 row) (k : w1.grownBy w2 row) : w.grownBy w2 row :=
  ⟨k.os.trans h.os, k.tape.trans h.tape, k.output.trans h.output, Nat.le_trans h.size k.size, fun j hj hne => (k.block j (Nat.lt_of_lt_of_le hj h.size) hne).trans (h.block j hj hne)⟩
theorem grown_below {w w' : World} {row : Option Nat} (h : Below w.heap.size w w') : w.grownBy w' row := ⟨h.os, h.tape, h.output, h.size, fun j hj _ => h.block j hj⟩

end Go.Proofs.Ytofeoeknmlkjgaa
end
