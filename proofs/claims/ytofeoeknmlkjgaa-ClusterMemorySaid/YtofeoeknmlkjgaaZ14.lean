/- Merged: MemBegin. -/
import Derived.Test.YtofeoeknmlkjgaaZ08
import Derived.Test.YtofeoeknmlkjgaaZ11
set_option linter.unusedVariables false
set_option linter.unusedSimpArgs false
section
/- The contracts of member.Begin, verdict, keeps. -/
set_option linter.unusedVariables false
namespace Go.Proofs.Ytofeoeknmlkjgaa
open Go.RowKit Mb

namespace Mb
def RB0 : Rl := ⟨fun _ => true, fun _ => 0, fun _ => 0⟩
def RK (k : Nat) : Rl := ⟨fun i => decide (i < k), fun _ => 0, fun _ => 0⟩
theorem RK_succ (k : Nat) : (⟨upd (RK k).inn k true, (RK k).miss, (RK k).join⟩ : Rl) = RK (k + 1) := by
  unfold RK
  congr 1
  funext i
  unfold upd
  by_cases e : i = k
  · rw [if_pos e]; simp [e]
  · rw [if_neg e]
    have : (i < k) = (i < k + 1) := by rw [eq_iff_iff]; omega
    simp [this]
theorem RB0_good : Good RB0 := fun i _ => ⟨Int.le_refl 0, (by decide : (0 : Int) ≤ 2), Int.le_refl 0, (by decide : (0 : Int) < 3), fun _ => rfl, fun h => by cases h⟩
end Mb

def BeginRel (w : World) (g : Nat) (i : Value) (wr : World) : Prop := ∃ k : Nat, k ≤ 4 ∧ i = .int .i64 k ∧ RB wr g R0 ∧ RB wr (g + 1) (RK k) ∧ Below g w wr

set_option maxRecDepth 100000 in
set_option maxHeartbeats 2000000 in
theorem begin_any (w : World) : Calls Try.prog 49 #[] w fun e w' => e = .returned (.agg (rollC RB0)) ∧ Below w.heap.size w w' := by
  have HS : Hid (BeginRel w w.heap.size (.int .i64 0) ((w.alloc (.cells (rollC R0) 38)).alloc (.cells (rollC R0) 38))) :=
    ⟨0, by omega, rfl, (Blk.new _ _ _).alloc _, Blk.at_ _ _ _ _ (by simp), ((Below.refl _ _).alloc (Nat.le_refl _) _).alloc (by simp) _⟩
  go_enter Try.func49, Try.ntmps49
  go_wp2_with fail
  go_loopw [3] (fun i wr => BeginRel w w.heap.size i wr) (fun i _ => 4 - (intOf i).toNat)
  case atStart => exact HS.out
  case round =>
    clear HS
    obtain ⟨k, hk, rfl, hZ, hR, hB⟩ := hrel
    by_cases hk4 : k < 4
    · have ci := hR.inn hk4
      have fi := hR.free k
      have hs := hR.setInn hk4 true
      rw [RK_succ] at hs
      have HZ := Lib.hid hZ
      have HR := Lib.hid hs
      have HB := Lib.hid hB
      clear hZ hR hB hs
      go_wp2_with fail
      go_roundw
      case rel => exact ⟨k + 1, by omega, by go_num, HZ.out.far (by simp) _, HR.out, HB.out.setCell (by simp) _⟩
      case measure => simp [intOf]; omega
    · obtain rfl : k = 4 := by omega
      have HZ := Lib.hid hZ
      have HR := Lib.hid (show RB wr (w.heap.size + 1) RB0 from hR)
      have HB := Lib.hid hB
      clear hZ hR hB
      go_wp2_with (first
        | (refine wpList_load_roww rfl 38 (.tmp 1) rfl (w.heap.size + 1) rfl _ (rollC RB0) _ HR.out Try.underlying38 rfl (by kernel_rfl) ?_)
        | (refine wpList_store_blk rfl 38 (.tmp 0) (.tmp 10) rfl w.heap.size _ _ (rollC RB0) rfl rfl HZ.out rfl (by kernel_rfl) (rollC_one _) ?_; intro w2 hR2 hg2))
      refine bodyPost_ret (results_cell_row Try.results49 _ _ w.heap.size _ (rollC RB0) (0, 0) _ rfl hR2 Try.underlying38 rfl (by kernel_rfl)) rfl ⟨rfl, ?_⟩
      exact HB.out.grown hg2 HB.out.size (fun j hj => by cases hj; exact Nat.le_refl _)

def VerdPost (A : Nat → Bool) (w : World) (e : Ending) (w' : World) : Prop :=
  ∃ b c, e = .returned (.agg #[.int .i64 0, .bool true, .slice (some ⟨b, 0, none⟩) 4 c]) ∧ w.heap.size ≤ b ∧ b < w'.heap.size ∧ (∀ j, j < 4 → w'.cell? ⟨b, 0 + j, none⟩ = some (.bool (A j))) ∧ Below w.heap.size w w'

end Go.Proofs.Ytofeoeknmlkjgaa
end
