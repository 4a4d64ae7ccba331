/- mat.Good, and a matrix as numbers by index. -/
import Derived.Test.YtnhklfdchfndjaaVecReck
import Derived.Test.YtnhklfdchfndjaaFixOpen
import Derived.BigGuard
set_option linter.unusedVariables false
namespace Go.Proofs.Ytnhklfdchfndjaa.Mt
open Go.RowKit Go.Proofs.Ytnhklfdchfndjaa Fx

/-- is a matrix one? -/
def goodB (N : Int) (l : Nat) : Bool := decide (1 ≤ N ∧ N ≤ 6 ∧ (l : Int) = N * N)

set_option maxRecDepth 100000 in
set_option maxHeartbeats 1000000 in
theorem Good_any (N : Int) (A : Option Addr) (l c : Nat) (w : World) (hl : l ≤ 9223372036854775807) :
    Calls Try.prog 25 #[.agg #[.int .i64 N, .slice A l c]] w fun e w' => e = .returned (.bool (goodB N l)) ∧ Below w.heap.size w w' := by
  by_cases h1 : 1 ≤ N
  · by_cases h2 : N ≤ 6
    · have hp : 0 ≤ N * N ∧ N * N ≤ 36 := by
        have : N = 1 ∨ N = 2 ∨ N = 3 ∨ N = 4 ∨ N = 5 ∨ N = 6 := by omega
        rcases this with rfl | rfl | rfl | rfl | rfl | rfl <;> decide
      have hg : goodB N l = decide ((l : Int) = N * N) := by unfold goodB; simp [h1, h2]
      rw [hg]
      obtain ⟨hp1, hp2⟩ := hp
      have t1 : decide (1 ≤ N) = true := decide_eq_true h1
      have t2 : decide (N ≤ 6) = true := decide_eq_true h2
      go_enter Try.func25, Try.ntmps25
      go_wp2_with fail
      go_ret
      exact ⟨rfl, (Below.refl _ _).alloc (Nat.le_refl _) _⟩
    · have hg : goodB N l = false := by unfold goodB; simp [h2]
      rw [hg]
      have t1 : decide (1 ≤ N) = true := decide_eq_true h1
      have t2 : decide (N ≤ 6) = false := decide_eq_false h2
      go_enter Try.func25, Try.ntmps25
      go_wp2_with fail
      go_ret
      exact ⟨rfl, (Below.refl _ _).alloc (Nat.le_refl _) _⟩
  · have hg : goodB N l = false := by unfold goodB; simp [h1]
    rw [hg]
    have t1 : decide (1 ≤ N) = false := decide_eq_false h1
    go_enter Try.func25, Try.ntmps25
    go_wp2_with fail
    go_ret
    exact ⟨rfl, (Below.refl _ _).alloc (Nat.le_refl _) _⟩
end Go.Proofs.Ytnhklfdchfndjaa.Mt
