/- mat.put, mat.at: a number of a matrix at work is written, is read. -/
import Derived.Test.YtnhklfdchfndjaaMatFresh
set_option linter.unusedVariables false
namespace Go.Proofs.Ytnhklfdchfndjaa.Mt
open Go.RowKit Go.Proofs.Ytnhklfdchfndjaa Fx

theorem idx_lt {n i k : Nat} (hi : i < n) (hk : k < n) : i * n + k < n * n := by
  have : i * n + n ≤ n * n := by
    have := Nat.mul_le_mul_right n (Nat.succ_le_of_lt hi)
    rwa [Nat.succ_mul] at this
  omega

set_option maxRecDepth 100000 in
set_option maxHeartbeats 1000000 in
theorem put_any (n g b i k : Nat) (v : Int) (f : Nat → Int) (h6 : n ≤ 6) (hi : i < n) (hk : k < n) (w : World) (h : Blk w g 3 (tabN (n * n) f)) :
    Calls Try.prog 27 #[workV n g b, .int .i64 i, .int .i64 k, .int .i64 v] w fun e w' => e = .returned (.tuple #[]) ∧ Blk w' g 3 (tabN (n * n) (updI f (i * n + k) v)) ∧ w.grownBy w' (some g) := by
  have hlt := idx_lt hi hk
  have hp : n * n ≤ 36 := Nat.le_trans (Nat.mul_le_mul h6 h6) (by omega)
  have hq1 : (0 : Int) ≤ (i : Int) * (n : Int) := by exact_mod_cast Nat.zero_le (i * n)
  have hq2 : (i : Int) * (n : Int) ≤ 36 := by exact_mod_cast (show i * n ≤ 36 by omega)
  have hq3 : (i : Int) * (n : Int) + (k : Int) ≤ 36 := by exact_mod_cast (show i * n + k ≤ 36 by omega)
  have hq4 : (i : Int) * (n : Int) + (k : Int) < ((n * n : Nat) : Int) := by exact_mod_cast hlt
  have e1 : ((i : Int) * (n : Int) + (k : Int)).toNat = i * n + k := by
    rw [show (i : Int) * (n : Int) + (k : Int) = ((i * n + k : Nat) : Int) by push_cast; rfl]; rfl
  unfold workV
  have d0 := (Blk.alloc h (.cells #[.int .i64 n, .slice (some ⟨g, 0, none⟩) (n * n) (n * n), .pointer (some ⟨b, 0, none⟩)] 57)).cell (i * n + k)
  have f0 := (Blk.alloc h (.cells #[.int .i64 n, .slice (some ⟨g, 0, none⟩) (n * n) (n * n), .pointer (some ⟨b, 0, none⟩)] 57)).frozen (i * n + k)
  rw [tabN_get f hlt] at d0
  have H := Lib.hid h
  go_enter Try.func27, Try.ntmps27
  go_wp2_with fail
  go_end0
  refine ⟨rfl, ?_, ?_⟩
  · rw [← tabN_set f hlt]
    exact (h.alloc _).set_ _ _
  · exact grown_trans (grown_below ((Below.refl _ _).alloc (Nat.le_refl _) _)) (grown_set _ g _ _)
end Go.Proofs.Ytnhklfdchfndjaa.Mt
