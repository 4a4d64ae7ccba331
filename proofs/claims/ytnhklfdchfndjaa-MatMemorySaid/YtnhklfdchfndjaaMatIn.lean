/- A matrix that came in: is it one? -/
import Derived.Test.YtnhklfdchfndjaaMatArg
set_option linter.unusedVariables false
namespace Go.Proofs.Ytnhklfdchfndjaa.Mt
open Go.RowKit Go.Proofs.Ytnhklfdchfndjaa Fx

theorem goodK {N : Int} {n : Nat} (h : goodB N n = true) : ∃ k : Nat, N = k ∧ n = k * k ∧ 1 ≤ k ∧ k ≤ 6 := by
  unfold goodB at h
  rw [decide_eq_true_iff] at h
  obtain ⟨h1, h2, h3⟩ := h
  obtain ⟨k, rfl⟩ := Int.eq_ofNat_of_zero_le (show 0 ≤ N by omega)
  exact ⟨k, rfl, by exact_mod_cast h3, by omega, by omega⟩
theorem blkInts {W : World} {g n : Nat} {t : TypeId} {f : Nat → Int} {zs : List Int} (h : Blk W g t (tabN n f)) (hl : zs.length = n) (hf : ∀ j, j < n → f j = zs.getD j 0) : Ints W .i64 (some ⟨g, 0, none⟩) n zs := by
  refine ⟨hl, fun _ => ⟨g, 0, rfl, h.lt, fun j hj => ?_⟩⟩
  rw [Nat.zero_add, h.cell j, tabN_get f hj, hf j hj]
theorem getD_in {zs : List Int} (hz : ∀ z ∈ zs, In z) (t : Nat) : In (zs.getD t 0) := by
  by_cases ht : t < zs.length
  · simp only [List.getD, List.getElem?_eq_getElem ht, Option.getD_some]; exact hz _ (List.getElem_mem ht)
  · simp only [List.getD, List.getElem?_eq_none (Nat.le_of_not_lt ht), Option.getD_none]; unfold In; omega
end Go.Proofs.Ytnhklfdchfndjaa.Mt
