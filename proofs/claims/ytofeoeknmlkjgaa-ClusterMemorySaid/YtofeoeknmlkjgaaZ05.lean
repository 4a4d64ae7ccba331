/- Merged: Agree. -/
import Derived.BigRegion
import Derived.Test.YtofeoeknmlkjgaaZ01
import Derived.Test.YtofeoeknmlkjgaaZ03
import Derived.Test.YtofeoeknmlkjgaaZ04
set_option linter.unusedVariables false
set_option linter.unusedSimpArgs false
section
/- The contracts of agree's liar.next, Decide. -/
set_option linter.unusedVariables false
namespace Go.Proofs.Ytofeoeknmlkjgaa
open Go.RowKit Mj Ag

theorem decide_any (x y z : Int) (w : World) :
    Calls Try.prog 40 #[.int .i64 x, .int .i64 y, .int .i64 z] w fun e w' => e = .returned (.int .i64 (maj [x, y, z] 0)) ∧ Below w.heap.size w w' := by
  go_enter Try.func40, Try.ntmps40
  go_wp2_with fail
  refine (maj_any _ 3 3 [x, y, z] 0 _ ⟨rfl, fun _ => ⟨w.heap.size, 0, rfl, by simp, fun j hj => ?_⟩⟩ (by decide)).mono ?_
  · rw [Nat.zero_add, (Blk.new w _ _).cell j]
    match j, hj with
    | 0, _ => rfl
    | 1, _ => rfl
    | 2, _ => rfl
  · rintro e w' ⟨rfl, rfl⟩
    go_wp2_with fail
    go_ret
    exact ⟨rfl, (Below.refl _ _).alloc (Nat.le_refl _) _⟩
end Go.Proofs.Ytofeoeknmlkjgaa
end
