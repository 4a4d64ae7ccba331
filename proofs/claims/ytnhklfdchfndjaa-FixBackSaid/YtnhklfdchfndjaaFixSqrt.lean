/- The contract of fix.Sqrt. -/
import Derived.Test.YtnhklfdchfndjaaFixMul
set_option linter.unusedVariables false
namespace Go.Proofs.Ytnhklfdchfndjaa
open Go.RowKit Fx

namespace Fx
/-- the root's highest k bits of 48 -/
def rootTo (M : Nat) : Nat → Nat
  | 0 => 0
  | k + 1 => if (rootTo M k + 2 ^ (47 - k)) * (rootTo M k + 2 ^ (47 - k)) ≤ M then rootTo M k + 2 ^ (47 - k) else rootTo M k
/-- the greatest number whose square is at most M -/
def root (M : Nat) : Nat := rootTo M 48
theorem sq_lt {a b : Nat} (h : a * a < b * b) : a < b := by
  rcases Nat.lt_or_ge a b with h1 | h1
  · exact h1
  · have := Nat.mul_le_mul h1 h1
    omega
theorem rootTo_spec (M k : Nat) (hk : k ≤ 48) (hM : M < 79228162514264337593543950336) : rootTo M k * rootTo M k ≤ M ∧ M < (rootTo M k + 2 ^ (48 - k)) * (rootTo M k + 2 ^ (48 - k)) ∧ (∃ q, rootTo M k = q * 2 ^ (48 - k)) ∧ rootTo M k + 2 ^ (48 - k) ≤ 281474976710656 := by
  induction k with
  | zero => exact ⟨Nat.zero_le _, by simp [rootTo]; omega, ⟨0, by simp [rootTo]⟩, by simp [rootTo]⟩
  | succ k ih =>
    obtain ⟨h1, h2, ⟨q, h3⟩, h4⟩ := ih (by omega)
    have e : 2 ^ (48 - k) = 2 * 2 ^ (47 - k) := by rw [show 48 - k = 47 - k + 1 by omega, Nat.pow_succ, Nat.mul_comm]
    rw [show 48 - (k + 1) = 47 - k by omega]
    unfold rootTo
    generalize rootTo M k = r at *
    rw [e] at h2 h3 h4
    generalize 2 ^ (47 - k) = b at *
    by_cases hc : (r + b) * (r + b) ≤ M
    · rw [if_pos hc]
      refine ⟨hc, by rw [show r + b + b = r + 2 * b by omega]; exact h2, ⟨2 * q + 1, ?_⟩, by omega⟩
      rw [h3, Nat.add_mul, Nat.one_mul, Nat.mul_assoc, Nat.mul_left_comm]
    · rw [if_neg hc]
      refine ⟨h1, by omega, ⟨2 * q, ?_⟩, by omega⟩
      rw [h3, Nat.mul_assoc, Nat.mul_left_comm]
theorem root_spec (M : Nat) (hM : M < 79228162514264337593543950336) : root M * root M ≤ M ∧ M < (root M + 1) * (root M + 1) ∧ root M < 281474976710656 := by
  obtain ⟨h1, h2, _, h4⟩ := rootTo_spec M 48 (Nat.le_refl _) hM
  exact ⟨h1, h2, by unfold root; omega⟩
theorem or_bit (q n : Nat) (hn : n < 48) (h : q * 2 ^ (n + 1) < 18446744073709551616 - 2 ^ n) : bits .or .u64 ((q * 2 ^ (n + 1) : Nat) : Int) ((2 ^ n : Nat) : Int) = ((q * 2 ^ (n + 1) + 2 ^ n : Nat) : Int) := by
  have key : ∀ x y, bits .or .u64 x y = IntKind.u64.wrap (((BitVec.ofInt 64 x ||| BitVec.ofInt 64 y).toNat : Nat) : Int) := fun _ _ => rfl
  have hp : 2 ^ n < 2 ^ (n + 1) := Nat.pow_lt_pow_right (by decide) (by omega)
  have hp2 : 2 ^ n ≤ 140737488355328 := Nat.le_trans (Nat.pow_le_pow_right (by decide) (show n ≤ 47 by omega)) (by decide)
  have e1 : (BitVec.ofInt 64 ((q * 2 ^ (n + 1) : Nat) : Int)).toNat = q <<< (n + 1) := by
    rw [BitVec.toNat_ofInt, Nat.shiftLeft_eq]
    generalize q * 2 ^ (n + 1) = z at *
    omega
  have e2 : (BitVec.ofInt 64 ((2 ^ n : Nat) : Int)).toNat = 2 ^ n := by
    rw [BitVec.toNat_ofInt]
    generalize 2 ^ n = z at *
    omega
  rw [key, BitVec.toNat_or, e1, e2, ← Nat.shiftLeft_add_eq_or_of_lt hp, Nat.shiftLeft_eq]
  rw [IntKind.wrap_u64]
  generalize q * 2 ^ (n + 1) = z at *
  generalize 2 ^ n = y at *
  omega
end Fx

set_option maxRecDepth 100000 in
set_option maxHeartbeats 2000000 in
theorem sqrt_any (a : Int) (ha : In a) (w : World) :
    Calls Try.prog 24 #[.int .i64 a] w fun e w' => e = .returned (if a < 0 then .tuple #[.int .i64 0, .bool true] else .tuple #[.int .i64 ((root (a.toNat * 4294967296) : Nat) : Int), .bool false]) ∧ w' = w := by
  obtain ⟨a0, a1⟩ := ha
  by_cases hneg : a < 0
  · rw [if_pos hneg]
    go_enter Try.func24, Try.ntmps24
    go_wp2_with fail
    go_ret2
    exact ⟨rfl, rfl⟩
  · rw [if_neg hneg]
    obtain ⟨n, rfl⟩ := Int.eq_ofNat_of_zero_le (show 0 ≤ a by omega)
    simp only [Int.toNat_natCast]
    have K67 := fun (x y : Nat) (hx : x < 18446744073709551616) (hy : y < 18446744073709551616) W => Lib.hid (mul64_any x y hx hy W)
    have hsp : ∀ k, k ≤ 48 → _ := fun k hk => rootTo_spec (n * 4294967296) k hk (by omega)
    have hst : ∀ k, rootTo (n * 4294967296) (k + 1) = if (rootTo (n * 4294967296) k + 2 ^ (47 - k)) * (rootTo (n * 4294967296) k + 2 ^ (47 - k)) ≤ n * 4294967296 then rootTo (n * 4294967296) k + 2 ^ (47 - k) else rootTo (n * 4294967296) k := fun k => rfl
    have h00 : rootTo (n * 4294967296) 0 = 0 := rfl
    unfold root
    generalize hR : rootTo (n * 4294967296) = R at *
    have HS := Lib.hid hsp
    have HT := Lib.hid hst
    have H0 := Lib.hid h00
    clear hR hsp hst h00
    go_enter Try.func24, Try.ntmps24
    go_wp2_with fail
    have E1 : (n : Int) / 4294967296 = ((n / 4294967296 : Nat) : Int) := by omega
    have E2 : IntKind.u64.wrap ((n : Int) * 4294967296) = ((n % 4294967296 * 4294967296 : Nat) : Int) := by rw [IntKind.wrap_u64]; omega
    rw [E1, E2]
    clear E1 E2
    have hM : n * 4294967296 = n / 4294967296 * 18446744073709551616 + n % 4294967296 * 4294967296 := by omega
    have hlo : n % 4294967296 * 4294967296 < 18446744073709551616 := by omega
    obtain ⟨hi, hhi⟩ : ∃ hi, n / 4294967296 = hi := ⟨_, rfl⟩
    obtain ⟨lo, hlo2⟩ : ∃ lo, n % 4294967296 * 4294967296 = lo := ⟨_, rfl⟩
    have hhi2 : hi ≤ 2147483647 := by omega
    rw [hhi, hlo2]
    rw [hhi, hlo2] at hM
    rw [hlo2] at hlo
    clear hhi hlo2
    have HM := Lib.hid hM
    clear hM
    go_loop [6, 7] (fun r i => ∃ k : Nat, k ≤ 48 ∧ i = .int .i64 (47 - (k : Int)) ∧ r = .int .u64 ((R k : Nat) : Int)) (fun _ i => (intOf i + 1).toNat)
    case atStart => exact ⟨0, by omega, rfl, by rw [H0.out]; rfl⟩
    case round =>
      obtain ⟨k, hk, rfl, rfl⟩ := hrel
      by_cases hk8 : k < 48
      · obtain ⟨h1, h2, ⟨q, h3⟩, h4⟩ := HS.out k hk
        have ht := HT.out k
        obtain ⟨j, hj⟩ : ∃ j, 47 - k = j := ⟨_, rfl⟩
        rw [hj] at ht
        rw [show 48 - k = j + 1 by omega] at h3 h4
        have hjj : (47 : Int) - (k : Int) = (j : Int) := by omega
        rw [hjj]
        have hor := or_bit q j (by omega) (by rw [Nat.pow_succ] at h3 h4 ⊢; omega)
        rw [← h3] at hor
        have hpp : 2 ^ j ≤ 140737488355328 := Nat.le_trans (Nat.pow_le_pow_right (by decide) (show j ≤ 47 by omega)) (by decide)
        have ht2 : R k + 2 ^ j < 281474976710656 := by rw [Nat.pow_succ] at h4; have := Nat.one_le_two_pow (n := j); omega
        have hrlt : R k < 281474976710656 := Nat.lt_of_le_of_lt (Nat.le_add_right _ _) ht2
        generalize hr : R k = r at *
        generalize ht3 : r + 2 ^ j = t at *
        have hor2 : bits .or .u64 (r : Int) (IntKind.u64.wrap ((2 : Int) ^ j)) = ((t : Nat) : Int) := by
          have e : (2 : Int) ^ j = ((2 ^ j : Nat) : Int) := by simp
          rw [e, Fx.wrapN _ (by omega), hor]
        have HRK := Lib.hid ht
        clear hor h1 h2 h3 h4 hpp ht3 ht hr
        go_wp2_with fail
        refine ((K67 t t (by omega) (by omega) _).out).mono ?_
        rintro e w1 ⟨rfl, rfl⟩
        obtain ⟨s1, hs1⟩ : ∃ x, t * t / 18446744073709551616 = x := ⟨_, rfl⟩
        obtain ⟨s0, hs0⟩ : ∃ x, t * t % 18446744073709551616 = x := ⟨_, rfl⟩
        rw [hs1, hs0]
        by_cases hc : t * t ≤ n * 4294967296
        · have e1 := HRK.out
          rw [if_pos hc] at e1
          have HE := Lib.hid e1
          clear e1
          by_cases hlt : s1 < hi
          · clear hs1 hs0
            go_wp2_with fail
            go_round
            case rel => exact ⟨k + 1, by omega, by go_num, by rw [HE.out]⟩
            case measure => simp [intOf]
          · have e5 := HM.out
            obtain rfl : s1 = hi := by omega
            have hle : s0 ≤ lo := by omega
            have hb : ((s1 : Int) == (s1 : Int)) = true := by simp
            clear hs1 hs0 e5
            go_wp2_with fail
            go_round
            case rel => exact ⟨k + 1, by omega, by go_num, by rw [HE.out]⟩
            case measure => simp [intOf]
        · have e1 := HRK.out
          rw [if_neg hc] at e1
          have HE := Lib.hid e1
          clear e1
          have e5 := HM.out
          by_cases heq : s1 = hi
          · subst heq
            have hle : lo < s0 := by omega
            have hb : ((s1 : Int) == (s1 : Int)) = true := by simp
            clear hs1 hs0 e5
            go_wp2_with fail
            go_round
            case rel => exact ⟨k + 1, by omega, by go_num, by rw [HE.out]⟩
            case measure => simp [intOf]
          · have hgt : hi < s1 := by omega
            have hb : ((s1 : Int) == (hi : Int)) = false := by rw [beq_eq_false_iff_ne]; omega
            clear hs1 hs0 e5
            go_wp2_with fail
            go_round
            case rel => exact ⟨k + 1, by omega, by go_num, by rw [HE.out]⟩
            case measure => simp [intOf]
      · obtain rfl : k = 48 := by omega
        obtain ⟨_, _, _, hlt⟩ := HS.out 48 (by omega)
        have hr48 : R 48 < 281474976710656 := by
          generalize R 48 = z at *
          simp at hlt
          omega
        clear hlt
        simp only [Int.cast_ofNat_Int, Int.reduceSub]
        go_wp2_with fail
        go_ret2
        exact ⟨rfl, rfl⟩
end Go.Proofs.Ytnhklfdchfndjaa
