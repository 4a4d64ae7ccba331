/- fourwatchkeep.same: two lists of the same numbers. -/
import Derived.Test.YtnhklfdchfndjaaMatOwn
import Derived.Deep.QuietTactic
set_option linter.unusedVariables false
namespace Go.Proofs.Ytnhklfdchfndjaa.Mt
open Go.RowKit Go.Proofs.Ytnhklfdchfndjaa Fx

def SameRel (n : Nat) (w : World) (i : Value) (wr : World) : Prop := ∃ j : Nat, j ≤ n ∧ i = .int .i64 j ∧ Below w.heap.size w wr

set_option maxRecDepth 100000 in
set_option maxHeartbeats 1000000 in
theorem same_true (A B : Option Addr) (n c d : Nat) (zs : List Int) (w : World) (h : Ints w .i64 A n zs) (h2 : Ints w .i64 B n zs) (hn : n ≤ 140737488355328) :
    Calls Try.prog 17 #[.slice A n c, .slice B n d] w fun e w' => e = .returned (.bool true) ∧ Below w.heap.size w w' := by
  have H := Lib.hid h
  have H2 := Lib.hid h2
  clear h h2
  have t1 : ((n : Int) != (n : Int)) = false := by simp
  go_enter Try.func17, Try.ntmps17
  go_wp2_with fail
  go_loopw [5] (fun i wr => SameRel n w i wr) (fun i _ => n - (intOf i).toNat)
  case atStart => exact ⟨0, by omega, rfl, Below.refl _ _⟩
  case round =>
    obtain ⟨j, hj, rfl, hb⟩ := hrel
    by_cases hjn : j < n
    · obtain ⟨b, off, rfl, hlt, hc⟩ := H.out.2 (by omega)
      obtain ⟨b2, off2, rfl, hlt2, hc2⟩ := H2.out.2 (by omega)
      have d0 := (hb.cell (p := ⟨b, off + j, none⟩) hlt).trans (hc j hjn)
      have d1 := (hb.cell (p := ⟨b2, off2 + j, none⟩) hlt2).trans (hc2 j hjn)
      clear hc hc2
      generalize zs.getD j 0 = z at *
      have t2 : (z != z) = false := by simp
      have hz1 : (0 : Int) ≤ (j : Int) := by omega
      have hz2 : (j : Int) < (n : Int) := by omega
      have HB := Lib.hid hb
      clear hb
      go_wp2_with fail
      go_quiet (fail)
      go_wp2_with fail
      go_roundw
      case rel => exact ⟨j + 1, by omega, by go_num, HB.out.trans (below_drewN _ _ _)⟩
      case measure => simp [intOf]; omega
    · obtain rfl : j = n := by omega
      go_wp2_with fail
      go_ret
      exact ⟨rfl, hb⟩
end Go.Proofs.Ytnhklfdchfndjaa.Mt
