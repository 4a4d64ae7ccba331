/- The contracts of fix.Add, fix.Sub, fix.Of, fix.Floor, fix.bound. -/
import Derived.Test.YtnhklfdchfndjaaFixBits
set_option linter.unusedVariables false
namespace Go.Proofs.Ytnhklfdchfndjaa
open Go.RowKit

namespace Fx
/-- a number, stopped at the ends -/
def cl (x : Int) : Int := if x < -9223372036854775808 then -9223372036854775808 else if 9223372036854775807 < x then 9223372036854775807 else x
/-- did it stop? -/
def out (x : Int) : Bool := decide (x < -9223372036854775808 ∨ 9223372036854775807 < x)
/-- a number of 64 bits -/
def In (x : Int) : Prop := -9223372036854775808 ≤ x ∧ x ≤ 9223372036854775807
theorem cl_lo {x : Int} (h : x < -9223372036854775808) : cl x = -9223372036854775808 ∧ out x = true := by unfold cl out; simp; omega
theorem cl_hi {x : Int} (h : 9223372036854775807 < x) : cl x = 9223372036854775807 ∧ out x = true := by unfold cl out; simp; omega
theorem cl_in {x : Int} (h : In x) : cl x = x ∧ out x = false := by unfold In at h; unfold cl out; simp; omega
theorem In_cl (x : Int) : In (cl x) := by unfold In cl; omega
/-- what Add, Sub, Mul, Div, Of answer -/
def res (x : Int) : Value := .tuple #[.int .i64 (cl x), .bool (out x)]
theorem res_lo {x : Int} (h : x < -9223372036854775808) : res x = .tuple #[.int .i64 (-9223372036854775808), .bool true] := by unfold res; rw [(cl_lo h).1, (cl_lo h).2]
theorem res_hi {x : Int} (h : 9223372036854775807 < x) : res x = .tuple #[.int .i64 9223372036854775807, .bool true] := by unfold res; rw [(cl_hi h).1, (cl_hi h).2]
theorem res_in {x : Int} (h : In x) : res x = .tuple #[.int .i64 x, .bool false] := by unfold res; rw [(cl_in h).1, (cl_in h).2]
end Fx
open Fx

set_option maxHeartbeats 1000000 in
theorem add_any (a b : Int) (ha : In a) (hb : In b) (w : World) :
    Calls Try.prog 21 #[.int .i64 a, .int .i64 b] w fun e w' => e = .returned (res (a + b)) ∧ w' = w := by
  obtain ⟨a0, a1⟩ := ha
  obtain ⟨b0, b1⟩ := hb
  by_cases h1 : 9223372036854775807 < a + b
  · rw [res_hi h1]
    have hw : IntKind.i64.wrap (a + b) = a + b - 18446744073709551616 := by rw [IntKind.wrap_i64]; omega
    generalize hs : a + b - 18446744073709551616 = s at *
    have q1 : 0 < a := by omega
    have q2 : 0 < b := by omega
    have q3 : s ≤ 0 := by omega
    go_enter Try.func21, Try.ntmps21
    go_wp2
    go_ret2
    exact ⟨rfl, rfl⟩
  · by_cases h2 : a + b < -9223372036854775808
    · rw [res_lo h2]
      have hw : IntKind.i64.wrap (a + b) = a + b + 18446744073709551616 := by rw [IntKind.wrap_i64]; omega
      generalize hs : a + b + 18446744073709551616 = s at *
      have q1 : a < 0 := by omega
      have q2 : b < 0 := by omega
      have q3 : 0 ≤ s := by omega
      go_enter Try.func21, Try.ntmps21
      go_wp2
      go_ret2
      exact ⟨rfl, rfl⟩
    · rw [res_in ⟨by omega, by omega⟩]
      go_enter Try.func21, Try.ntmps21
      go_wp2
      all_goals first | (exfalso; omega) | (go_ret2; exact ⟨rfl, rfl⟩)

set_option maxHeartbeats 1000000 in
theorem sub_any (a b : Int) (ha : In a) (hb : In b) (w : World) :
    Calls Try.prog 32 #[.int .i64 a, .int .i64 b] w fun e w' => e = .returned (res (a - b)) ∧ w' = w := by
  obtain ⟨a0, a1⟩ := ha
  obtain ⟨b0, b1⟩ := hb
  by_cases h1 : 9223372036854775807 < a - b
  · rw [res_hi h1]
    have hw : IntKind.i64.wrap (a - b) = a - b - 18446744073709551616 := by rw [IntKind.wrap_i64]; omega
    generalize hs : a - b - 18446744073709551616 = s at *
    have q1 : 0 ≤ a := by omega
    have q2 : b < 0 := by omega
    have q3 : s < 0 := by omega
    go_enter Try.func32, Try.ntmps32
    go_wp2
    go_ret2
    exact ⟨rfl, rfl⟩
  · by_cases h2 : a - b < -9223372036854775808
    · rw [res_lo h2]
      have hw : IntKind.i64.wrap (a - b) = a - b + 18446744073709551616 := by rw [IntKind.wrap_i64]; omega
      generalize hs : a - b + 18446744073709551616 = s at *
      have q1 : a < 0 := by omega
      have q2 : 0 < b := by omega
      have q3 : 0 ≤ s := by omega
      go_enter Try.func32, Try.ntmps32
      go_wp2
      go_ret2
      exact ⟨rfl, rfl⟩
    · rw [res_in ⟨by omega, by omega⟩]
      go_enter Try.func32, Try.ntmps32
      go_wp2
      all_goals first | (exfalso; omega) | (go_ret2; exact ⟨rfl, rfl⟩)

/-- a wide number, stopped at the ends -/
def wideV (neg : Bool) (v : Nat) : Value := .agg #[.bool neg, .int .u64 ((v / 18446744073709551616 : Nat) : Int), .int .u64 ((v % 18446744073709551616 : Nat) : Int)]

set_option maxHeartbeats 1000000 in
theorem bound_any (neg : Bool) (v : Nat) (w : World) :
    Calls Try.prog 39 #[wideV neg v] w fun e w' => e = .returned (res (if neg then -(v : Int) else (v : Int))) ∧ Below w.heap.size w w' := by
  unfold wideV
  generalize hh : v / 18446744073709551616 = h at *
  generalize hl : v % 18446744073709551616 = l at *
  cases neg
  · simp only [Bool.false_eq_true, if_false]
    by_cases h1 : 9223372036854775807 < v
    · rw [res_hi (by omega)]
      by_cases h0 : 0 < h
      · go_enter Try.func39, Try.ntmps39
        go_wp2
        go_ret2
        exact ⟨rfl, ((Below.refl _ w).alloc (Nat.le_refl _) _)⟩
      · obtain rfl : h = 0 := by omega
        have q : 9223372036854775807 < l := by omega
        go_enter Try.func39, Try.ntmps39
        go_wp2
        go_ret2
        exact ⟨rfl, ((Below.refl _ w).alloc (Nat.le_refl _) _)⟩
    · obtain rfl : h = 0 := by omega
      obtain rfl : l = v := by omega
      rw [res_in ⟨by omega, by omega⟩]
      go_enter Try.func39, Try.ntmps39
      go_wp2
      go_ret2
      exact ⟨rfl, ((Below.refl _ w).alloc (Nat.le_refl _) _)⟩
  · simp only [if_true]
    by_cases h1 : 9223372036854775808 < v
    · rw [res_lo (by omega)]
      by_cases h0 : 0 < h
      · go_enter Try.func39, Try.ntmps39
        go_wp2
        go_ret2
        exact ⟨rfl, ((Below.refl _ w).alloc (Nat.le_refl _) _)⟩
      · obtain rfl : h = 0 := by omega
        have q : 9223372036854775808 < l := by omega
        go_enter Try.func39, Try.ntmps39
        go_wp2
        go_ret2
        exact ⟨rfl, ((Below.refl _ w).alloc (Nat.le_refl _) _)⟩
    · obtain rfl : h = 0 := by omega
      obtain rfl : l = v := by omega
      rw [res_in ⟨by omega, by omega⟩]
      have hw : IntKind.i64.wrap (IntKind.u64.wrap (-(l : Int))) = -(l : Int) := by rw [IntKind.wrap_i64, IntKind.wrap_u64]; omega
      have hw2 : wrap64 (IntKind.u64.wrap (-(l : Int))) = -(l : Int) := by unfold wrap64; rw [IntKind.wrap_u64]; omega
      have HW := Lib.hid hw2
      clear hw hw2
      go_enter Try.func39, Try.ntmps39
      go_wp2
      go_ret2
      exact ⟨by rw [HW.out]; rfl, ((Below.refl _ w).alloc (Nat.le_refl _) _)⟩
end Go.Proofs.Ytnhklfdchfndjaa
