/- Merged: FixDiv. -/
import Derived.BigRegion
import Derived.Test.YtofeoeknmlkjgaaZ17
import Derived.Test.YtofeoeknmlkjgaaZ20
import Derived.Test.YtofeoeknmlkjgaaZ22
set_option linter.unusedVariables false
set_option linter.unusedSimpArgs false
section
/- The contract of fix.Div. -/
set_option linter.unusedVariables false
namespace Go.Proofs.Ytofeoeknmlkjgaa
open Go.RowKit Fx Dv

namespace Fx
def divR (a b : Int) : Int := if b = 0 then (if 0 < a then 9223372036854775807 else if a < 0 then -9223372036854775808 else 0) else cl (divZ a b)
def divB (a b : Int) : Bool := if b = 0 then true else out (divZ a b)
theorem In_divR (a b : Int) : In (divR a b) := by
  unfold divR
  split
  · unfold In; split <;> (try split) <;> omega
  · exact In_cl _
theorem div_words (A d : Nat) (hA : A ≤ 9223372036854775808) (hd : 0 < d) :
    ∃ hi lo H r1 L R : Nat, A / 4294967296 = hi ∧ A % 4294967296 * 4294967296 = lo ∧ hi / d = H ∧ hi % d = r1 ∧ r1 < d ∧ (r1 * 18446744073709551616 + lo) / d = L ∧ (r1 * 18446744073709551616 + lo) % d = R ∧
      lo < 18446744073709551616 ∧ H ≤ 2147483648 ∧ L < 18446744073709551616 ∧ R < d ∧ A * 4294967296 / d = H * 18446744073709551616 + L ∧ A * 4294967296 % d = R := by
  have hm := Nat.div_add_mod (A / 4294967296) d
  have hr := Nat.mod_lt (A / 4294967296) hd
  have e : A * 4294967296 = (A / 4294967296 % d * 18446744073709551616 + A % 4294967296 * 4294967296) + A / 4294967296 / d * 18446744073709551616 * d := by
    rw [Nat.mul_right_comm, Nat.mul_comm (A / 4294967296 / d) d]
    generalize A / 4294967296 % d = x at *
    generalize d * (A / 4294967296 / d) = y at *
    omega
  refine ⟨_, _, _, _, _, _, rfl, rfl, rfl, rfl, hr, rfl, rfl, by omega, ?_, ?_, Nat.mod_lt _ hd, ?_, ?_⟩
  · exact Nat.le_trans (Nat.div_le_self _ _) (by omega)
  · apply Nat.div_lt_of_lt_mul
    have h2 : (A / 4294967296 % d + 1) * 18446744073709551616 ≤ d * 18446744073709551616 := Nat.mul_le_mul_right _ hr
    generalize A / 4294967296 % d = x at *
    omega
  · rw [e, Nat.add_mul_div_right _ _ hd, Nat.add_comm]
  · rw [e, Nat.add_mul_mod_self_right]
end Fx

set_option maxRecDepth 100000 in
set_option maxHeartbeats 2000000 in
theorem div64_all (hi lo y : Nat) (hlt : hi < y) (hy : y < 18446744073709551616) (hlo : lo < 18446744073709551616) (w : World) :
    Calls Try.prog 108 #[.int .u64 hi, .int .u64 lo, .int .u64 y] w fun e w' => e = .returned (.tuple #[.int .u64 (((hi * 18446744073709551616 + lo) / y : Nat) : Int), .int .u64 (((hi * 18446744073709551616 + lo) % y : Nat) : Int)]) ∧ Below w.heap.size w w' := by
  by_cases h : hi = 0
  · subst h
    rw [Nat.zero_mul, Nat.zero_add]
    exact div64_low lo y hlt hy hlo w
  · exact div64_high hi lo y (by omega) hlt hy hlo w

set_option maxRecDepth 100000 in
set_option maxHeartbeats 2000000 in
theorem div_nz (a b : Int) (ha : In a) (hb : In b) (h0 : b ≠ 0) (w : World) :
    Calls Try.prog 92 #[.int .i64 a, .int .i64 b] w fun e w' => e = .returned (res (divZ a b)) ∧ Below w.heap.size w w' := by
  have K68 := fun (x : Int) (hx : In x) W => Lib.hid (size_any x hx.1 hx.2 W)
  have A69 := fun (x y : Nat) W => add64_run x y 0 (by decide) W
  have HA := Lib.hid ha
  have HB := Lib.hid hb
  have t0 : ((b : Int) == 0) = false := by rw [beq_eq_false_iff_ne]; exact h0
  obtain ⟨d, hd⟩ : ∃ d, b.natAbs = d := ⟨_, rfl⟩
  obtain ⟨A, hAA⟩ : ∃ A, a.natAbs = A := ⟨_, rfl⟩
  have hdp : 0 < d := by omega
  have hdb : d ≤ 9223372036854775808 := by unfold In at hb; omega
  have hAb : A ≤ 9223372036854775808 := by unfold In at ha; omega
  obtain ⟨hi, lo, H, r1, L, R, g1, g2, g3, g4, g5, g6, g7, g8, g9, g10, g11, g12, g13⟩ := div_words A d hAb hdp
  have K75 := fun W => div64_all r1 lo d g5 (by omega) g8 W
  rw [g6, g7] at K75
  have K75 := Lib.hid K75
  have e1 : (A : Int) / 4294967296 = (hi : Int) := by omega
  have e2 : IntKind.u64.wrap ((A : Int) * 4294967296) = (lo : Int) := by rw [IntKind.wrap_u64]; omega
  have e3 : IntKind.u64.wrap ((hi : Int).tdiv (d : Int)) = (H : Int) := by
    rw [Int.tdiv_eq_ediv_of_nonneg (by omega), ← Int.natCast_ediv, g3, Fx.wrapN _ (by omega)]
  have e4 : IntKind.u64.wrap ((hi : Int).tmod (d : Int)) = (r1 : Int) := by
    rw [Int.tmod_eq_emod_of_nonneg (by omega), ← Int.natCast_emod, g4, Fx.wrapN _ (by omega)]
  have e5 : ((hi : Int).tdiv (d : Int)) = (H : Int) := by
    rw [Int.tdiv_eq_ediv_of_nonneg (by omega), ← Int.natCast_ediv, g3]
  have e6 : ((hi : Int).tmod (d : Int)) = (r1 : Int) := by
    rw [Int.tmod_eq_emod_of_nonneg (by omega), ← Int.natCast_emod, g4]
  have hz : divZ a b = if (!(decide (a < 0) == decide (b < 0))) then -((H * 18446744073709551616 + L + (if d - R < R then 1 else 0) : Nat) : Int) else ((H * 18446744073709551616 + L + (if d - R ≤ R then 1 else 0) : Nat) : Int) := by
    unfold divZ quoN
    rw [hd, hAA, g12, g13]
    simp only [if_true, Bool.false_eq_true, if_false, decide_eq_true_eq]
  have HZ := Lib.hid hz
  have hne : ¬ ((d : Int) = 0) := by omega
  have HD := Lib.hid hd
  have HAA := Lib.hid hAA
  clear hz g1 g2 g3 g4 g6 g7 g12 g13 hd hAA h0 ha hb
  go_enter Try.func92, Try.ntmps92
  go_wp2_with fail
  refine ((K68 b HB.out _).out).mono ?_
  rw [HD.out]
  rintro e w1 ⟨rfl, rfl⟩
  go_wp2_with fail
  generalize hneg : (!(decide (a < 0) == decide (b < 0))) = neg
  have HN := Lib.hid hneg
  clear hneg
  refine ((K68 a HA.out _).out).mono ?_
  rw [HAA.out]
  rintro e w1 ⟨rfl, rfl⟩
  go_wp2_with fail
  refine ((K68 a HA.out _).out).mono ?_
  rw [HAA.out]
  rintro e w1 ⟨rfl, rfl⟩
  go_upto_region 11 with fail
  go_region
  go_wp2_with fail
  refine (K75.out _).mono ?_
  rintro e w2 ⟨rfl, hB⟩
  have hb := ((Blk.new w1 171 #[Value.bool neg, Value.int .u64 (H : Int), Value.int .u64 0]).drew).next hB
  have hsz : w1.heap.size < w2.heap.size := hb.lt
  have c0 := hb.cell 0
  have c1 := hb.cell 1
  have c2 := hb.cell 2
  have f0 := hb.frozen 0
  have f1 := hb.frozen 1
  have f2 := hb.frozen 2
  simp only [List.getElem?_toArray, List.getElem?_cons_zero, List.getElem?_cons_succ] at c0 c1 c2
  have HBB := Lib.hid hB
  have hz := HZ.out
  rw [HN.out] at hz
  clear hb hB HZ HN e1 e2 e3 e4 e5 e6 hne HD HAA HA HB K68
  have hLB := Lib.hid (below_next (((Below.refl w1.heap.size w1).alloc (Nat.le_refl _) (.cells #[Value.bool neg, Value.int .u64 (H : Int), Value.int .u64 0] 171)).drew) HBB.out)
  cases neg
  · simp only [Bool.false_eq_true, if_false] at hz
    by_cases hup : d - R ≤ R
    · rw [if_pos hup] at hz
      have i1 : (d : Int) - (R : Int) ≤ (R : Int) := by omega
      obtain ⟨v, hv⟩ : ∃ v, H * 18446744073709551616 + L + 1 = v := ⟨_, rfl⟩
      rw [hv] at hz
      have a1 : ∀ W, (callFunc 106 #[.int .u64 (L : Int), .int .u64 1, .int .u64 0]).run Try.prog W = .ok (.value (.tuple #[.int .u64 (((L + 1) % 18446744073709551616 : Nat) : Int), .int .u64 (((L + 1) / 18446744073709551616 : Nat) : Int)])) W := fun W => A69 L 1 W
      obtain ⟨l2, hl2⟩ : ∃ x, (L + 1) % 18446744073709551616 = x := ⟨_, rfl⟩
      obtain ⟨c, hc⟩ : ∃ x, (L + 1) / 18446744073709551616 = x := ⟨_, rfl⟩
      rw [hl2, hc] at a1
      have E1 := Lib.hid (show (H : Int) + (c : Int) = ((v / 18446744073709551616 : Nat) : Int) by omega)
      have E2 := Lib.hid (show (l2 : Int) = ((v % 18446744073709551616 : Nat) : Int) by omega)
      have q0 : (H : Int) + (c : Int) ≤ 18446744073709551615 := by omega
      have HZ := Lib.hid hz
      clear hv hl2 hc hz hup
      go_wp2_with fail
      rw [E1.out, E2.out]
      refine (bound_any false v _).mono ?_
      rintro e w3 ⟨rfl, hB3⟩
      simp only [res, Bool.false_eq_true, if_false]
      go_wp2_with fail
      go_ret2
      exact ⟨by rw [HZ.out]; rfl, below_next (((((hLB.out).setCell (p := ⟨w1.heap.size, 2, none⟩) (Nat.le_refl _) _).setCell (p := ⟨w1.heap.size, 2, none⟩) (Nat.le_refl _) _).setCell (p := ⟨w1.heap.size, 1, none⟩) (Nat.le_refl _) _)) hB3⟩
    · rw [if_neg hup] at hz
      have i1 : (R : Int) < (d : Int) - (R : Int) := by omega
      obtain ⟨v, hv⟩ : ∃ v, H * 18446744073709551616 + L + 0 = v := ⟨_, rfl⟩
      rw [hv] at hz
      have E1 := Lib.hid (show (H : Int) = ((v / 18446744073709551616 : Nat) : Int) by omega)
      have E2 := Lib.hid (show (L : Int) = ((v % 18446744073709551616 : Nat) : Int) by omega)
      have HZ := Lib.hid hz
      clear hv hz hup
      go_wp2_with fail
      rw [E1.out, E2.out]
      refine (bound_any false v _).mono ?_
      rintro e w3 ⟨rfl, hB3⟩
      simp only [res, Bool.false_eq_true, if_false]
      go_wp2_with fail
      go_ret2
      exact ⟨by rw [HZ.out]; rfl, below_next (((hLB.out).setCell (p := ⟨w1.heap.size, 2, none⟩) (Nat.le_refl _) _)) hB3⟩
  · simp only [if_true] at hz
    by_cases hup : d - R < R
    · rw [if_pos hup] at hz
      have i1 : (d : Int) - (R : Int) < (R : Int) := by omega
      by_cases hup2 : (d : Int) - (R : Int) ≤ (R : Int)
      · obtain ⟨v, hv⟩ : ∃ v, H * 18446744073709551616 + L + 1 = v := ⟨_, rfl⟩
        rw [hv] at hz
        have a1 : ∀ W, (callFunc 106 #[.int .u64 (L : Int), .int .u64 1, .int .u64 0]).run Try.prog W = .ok (.value (.tuple #[.int .u64 (((L + 1) % 18446744073709551616 : Nat) : Int), .int .u64 (((L + 1) / 18446744073709551616 : Nat) : Int)])) W := fun W => A69 L 1 W
        obtain ⟨l2, hl2⟩ : ∃ x, (L + 1) % 18446744073709551616 = x := ⟨_, rfl⟩
        obtain ⟨c, hc⟩ : ∃ x, (L + 1) / 18446744073709551616 = x := ⟨_, rfl⟩
        rw [hl2, hc] at a1
        have E1 := Lib.hid (show (H : Int) + (c : Int) = ((v / 18446744073709551616 : Nat) : Int) by omega)
        have E2 := Lib.hid (show (l2 : Int) = ((v % 18446744073709551616 : Nat) : Int) by omega)
        have q0 : (H : Int) + (c : Int) ≤ 18446744073709551615 := by omega
        have HZ := Lib.hid hz
        clear hv hl2 hc hz hup
        go_wp2_with fail
        rw [E1.out, E2.out]
        refine (bound_any true v _).mono ?_
        rintro e w3 ⟨rfl, hB3⟩
        simp only [res, if_true]
        go_wp2_with fail
        go_ret2
        exact ⟨by rw [HZ.out]; rfl, below_next (((((hLB.out).setCell (p := ⟨w1.heap.size, 2, none⟩) (Nat.le_refl _) _).setCell (p := ⟨w1.heap.size, 2, none⟩) (Nat.le_refl _) _).setCell (p := ⟨w1.heap.size, 1, none⟩) (Nat.le_refl _) _)) hB3⟩
      · exfalso; omega
    · rw [if_neg hup] at hz
      have i1 : (R : Int) ≤ (d : Int) - (R : Int) := by omega
      by_cases hup2 : (d : Int) - (R : Int) ≤ (R : Int)
      · obtain ⟨v, hv⟩ : ∃ v, H * 18446744073709551616 + L + 0 = v := ⟨_, rfl⟩
        rw [hv] at hz
        have E1 := Lib.hid (show (H : Int) = ((v / 18446744073709551616 : Nat) : Int) by omega)
        have E2 := Lib.hid (show (L : Int) = ((v % 18446744073709551616 : Nat) : Int) by omega)
        have HZ := Lib.hid hz
        clear hv hz hup
        go_wp2_with fail
        rw [E1.out, E2.out]
        refine (bound_any true v _).mono ?_
        rintro e w3 ⟨rfl, hB3⟩
        simp only [res, if_true]
        go_wp2_with fail
        go_ret2
        exact ⟨by rw [HZ.out]; rfl, below_next (((hLB.out).setCell (p := ⟨w1.heap.size, 2, none⟩) (Nat.le_refl _) _)) hB3⟩
      · obtain ⟨v, hv⟩ : ∃ v, H * 18446744073709551616 + L + 0 = v := ⟨_, rfl⟩
        rw [hv] at hz
        have E1 := Lib.hid (show (H : Int) = ((v / 18446744073709551616 : Nat) : Int) by omega)
        have E2 := Lib.hid (show (L : Int) = ((v % 18446744073709551616 : Nat) : Int) by omega)
        have HZ := Lib.hid hz
        clear hv hz hup
        go_wp2_with fail
        rw [E1.out, E2.out]
        refine (bound_any true v _).mono ?_
        rintro e w3 ⟨rfl, hB3⟩
        simp only [res, if_true]
        go_wp2_with fail
        go_ret2
        exact ⟨by rw [HZ.out]; rfl, below_next (((hLB.out).setCell (p := ⟨w1.heap.size, 2, none⟩) (Nat.le_refl _) _)) hB3⟩

set_option maxRecDepth 100000 in
set_option maxHeartbeats 2000000 in
theorem div_zero (a : Int) (ha : In a) (w : World) :
    Calls Try.prog 92 #[.int .i64 a, .int .i64 0] w fun e w' => e = .returned (.tuple #[.int .i64 (if 0 < a then 9223372036854775807 else if a < 0 then -9223372036854775808 else 0), .bool true]) ∧ Below w.heap.size w w' := by
  by_cases h1 : 0 < a
  · rw [if_pos h1]
    go_enter Try.func92, Try.ntmps92
    go_wp2_with fail
    go_ret2
    exact ⟨rfl, Below.refl _ _⟩
  · rw [if_neg h1]
    by_cases h2 : a < 0
    · rw [if_pos h2]
      go_enter Try.func92, Try.ntmps92
      go_wp2_with fail
      go_ret2
      exact ⟨rfl, Below.refl _ _⟩
    · rw [if_neg h2]
      go_enter Try.func92, Try.ntmps92
      go_wp2_with fail
      go_ret2
      exact ⟨rfl, Below.refl _ _⟩

theorem div_any (a b : Int) (ha : In a) (hb : In b) (w : World) :
    Calls Try.prog 92 #[.int .i64 a, .int .i64 b] w fun e w' => e = .returned (.tuple #[.int .i64 (divR a b), .bool (divB a b)]) ∧ Below w.heap.size w w' := by
  by_cases h : b = 0
  · subst h
    have e1 : divR a 0 = if 0 < a then 9223372036854775807 else if a < 0 then -9223372036854775808 else 0 := by unfold divR; rw [if_pos rfl]
    have e2 : divB a 0 = true := by unfold divB; rw [if_pos rfl]
    rw [e1, e2]
    exact div_zero a ha w
  · have e1 : divR a b = cl (divZ a b) := by unfold divR; rw [if_neg h]
    have e2 : divB a b = out (divZ a b) := by unfold divB; rw [if_neg h]
    rw [e1, e2]
    exact div_nz a b ha hb h w
end Go.Proofs.Ytofeoeknmlkjgaa
end
