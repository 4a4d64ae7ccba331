/- mat.Turn, mat.Mul: what is no matrix is refused. -/
import Derived.Test.YtnhklfdchfndjaaMatMul
set_option linter.unusedVariables false
namespace Go.Proofs.Ytnhklfdchfndjaa.Mt
open Go.RowKit Go.Proofs.Ytnhklfdchfndjaa Fx

set_option maxRecDepth 100000 in
set_option maxHeartbeats 2000000 in
theorem Turn_bad (N : Int) (A : Option Addr) (l c : Nat) (hl : l ≤ 9223372036854775807) (hbad : goodB N l = false) (w : World) :
    Calls Try.prog 9 #[.agg #[.int .i64 N, .slice A l c]] w fun e w' => e = .returned (.tuple #[.agg #[.int .i64 0, .slice none 0 0], .int .i64 8]) ∧ Below w.heap.size w w' := by
  have kg := fun W => Good_any N A l c W hl
  rw [hbad] at kg
  have KG := Lib.hid kg
  clear kg
  go_enter Try.func9, Try.ntmps9
  go_wp2_with fail
  refine (KG.out _).mono ?_
  rintro e w1 ⟨rfl, hB1⟩
  have r0 := (Blk.at_ (w.alloc (.cells #[.int .i64 N, .slice A l c] 30)) (w.heap.size + 1) 30 #[.int .i64 0, .slice none 0 0] (by simp)).next hB1
  have b0 := below_next (((Below.refl w.heap.size w).alloc (Nat.le_refl _) (.cells #[.int .i64 N, .slice A l c] 30)).alloc (by simp) (.cells #[.int .i64 0, .slice none 0 0] 30)) hB1
  have d0 := r0.cell 0
  have d1 := r0.cell 1
  have f0 := r0.frozen 0
  have f1 := r0.frozen 1
  simp only [List.getElem?_toArray, List.getElem?_cons_zero, List.getElem?_cons_succ] at d0 d1
  have z1 := (r0.set_ 0 (.int .i64 0)).set_ 1 (.slice none 0 0)
  have Z1 := Lib.hid z1
  have B0 := Lib.hid b0
  clear z1 b0 r0 hB1
  go_wp2_with fail
  refine bodyPost_ret (v := .tuple #[.agg #[.int .i64 0, .slice none 0 0], .int .i64 8]) (turn_results Z1.out _ _ rfl rfl) rfl ⟨rfl, ?_⟩
  exact (B0.out.setCell (by simp) _).setCell (by simp) _
end Go.Proofs.Ytnhklfdchfndjaa.Mt
