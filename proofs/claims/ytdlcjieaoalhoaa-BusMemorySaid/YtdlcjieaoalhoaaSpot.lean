/- The contract of spot: a number counted round. -/
import Derived.Test.YtdlcjieaoalhoaaProg
import Derived.Test.YtdlcjieaoalhoaaKit
set_option linter.unusedVariables false
namespace Go.Proofs.Ytdlcjieaoalhoaa
open Go.RowKit

theorem tmod_two {v n : Int} (hn : 1 ≤ n) : v.tmod n = v % n ∨ v.tmod n = v % n - n := by
  rw [Int.tmod_eq_emod]
  by_cases hc : 0 ≤ v ∨ n ∣ v
  · left; rw [if_pos hc]; simp
  · right; rw [if_neg hc, Int.natAbs_of_nonneg (by omega)]
theorem spot_neg {v n : Int} (hn : 1 ≤ n) (h : v.tmod n < 0) : v.tmod n + n = v % n := by
  have h0 := Int.emod_nonneg v (b := n) (by omega)
  rcases tmod_two (v := v) hn with e | e <;> omega
theorem spot_pos {v n : Int} (hn : 1 ≤ n) (h : ¬ v.tmod n < 0) : v.tmod n = v % n := by
  have h0 := Int.emod_lt_of_pos v (b := n) (by omega)
  rcases tmod_two (v := v) hn with e | e <;> omega

theorem spot_any (v n : Int) (w : World) (hn : 1 ≤ n) (hn' : n ≤ 4611686018427387904) :
    Calls Try.prog 9 #[.int .i64 v, .int .i64 n] w fun e w' => e = .returned (.int .i64 (v % n)) ∧ w = w' := by
  have hne : (n == 0) = false := by simp; omega
  have b1 := Int.emod_nonneg v (b := n) (by omega)
  have b2 := Int.emod_lt_of_pos v (b := n) (by omega)
  have b3 : -4611686018427387904 ≤ v.tmod n := by
    rcases tmod_two (v := v) hn with e | e <;> omega
  have hp := fun h => spot_pos (v := v) hn h
  have hm := fun h => spot_neg (v := v) hn h
  have HP := Lib.hid hp
  have HM := Lib.hid hm
  clear hp hm
  by_cases h : v.tmod n < 0
  · go_enter Try.func9, Try.ntmps9
    go_wp2
    go_ret
    exact ⟨ret_i64 (HM.out h), rfl⟩
  · go_enter Try.func9, Try.ntmps9
    go_wp2
    go_ret
    exact ⟨ret_i64 (HP.out h), rfl⟩
end Go.Proofs.Ytdlcjieaoalhoaa
