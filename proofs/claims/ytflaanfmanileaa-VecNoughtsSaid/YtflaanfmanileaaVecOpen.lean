/- What the statements on vectors share. -/
import Derived.Test.YtflaanfmanileaaVecOps
import Derived.Test.YtflaanfmanileaaVecLen
import Derived.Test.YtflaanfmanileaaFixOpen
set_option linter.unusedVariables false
namespace Go.Proofs.Ytflaanfmanileaa
open Go.RowKit Fx

/-- a vector lies in block g -/
def VB (W : World) (g : Nat) (a : V3) : Prop := Blk W g 23 #[.int .i64 a.x, .int .i64 a.y, .int .i64 a.z]
theorem VB.next {W W' : World} {g : Nat} {a : V3} (h : VB W g a) (hb : Below W.heap.size W W') : VB W' g a := Blk.next h hb
theorem VB.alloc {W : World} {g : Nat} {a : V3} (h : VB W g a) (o : Obj) : VB (W.alloc o) g a := Blk.alloc h o
theorem VB.new (W : World) (a : V3) {n : Nat} (hn : n = W.heap.size) : VB (W.alloc (.cells #[.int .i64 a.x, .int .i64 a.y, .int .i64 a.z] 23)) n a := Blk.at_ _ _ _ _ hn
theorem VB.c {W : World} {g : Nat} {a : V3} (h : VB W g a) : W.cell? ⟨g, 0, none⟩ = some (.int .i64 a.x) ∧ W.cell? ⟨g, 1, none⟩ = some (.int .i64 a.y) ∧ W.cell? ⟨g, 2, none⟩ = some (.int .i64 a.z) :=
  ⟨Blk.cell h 0, Blk.cell h 1, Blk.cell h 2⟩
theorem mul_swap (a b : Int) : mulZ a b = mulZ b a := by unfold mulZ; rw [Int.mul_comm]
theorem dot_swap (a b : V3) : dot3 a b = dot3 b a ∧ dotO a b = dotO b a := by
  unfold dotO dot3 dot2
  rw [mul_swap a.x, mul_swap a.y, mul_swap a.z]
  exact ⟨rfl, rfl⟩
theorem dot_test : cl (dot3 ⟨4294967296, 0, 0⟩ ⟨3, 0, 0⟩) = 3 := by decide
theorem test_in : V3.In ⟨4294967296, 0, 0⟩ ∧ V3.In ⟨3, 0, 0⟩ := by unfold V3.In Fx.In; decide
theorem Dot_test (w : World) : Calls Try.prog 25 #[.agg #[.int .i64 4294967296, .int .i64 0, .int .i64 0], .agg #[.int .i64 3, .int .i64 0, .int .i64 0]] w fun e w' => ∃ o, e = .returned (.tuple #[.int .i64 3, .bool o]) ∧ Below w.heap.size w w' := by
  have h := Dot_any ⟨4294967296, 0, 0⟩ ⟨3, 0, 0⟩ test_in.1 test_in.2 w
  rw [dot_test] at h
  exact h.mono fun e w' ⟨he, hb⟩ => ⟨_, he, hb⟩
theorem in3 {x y z : Int} (h0 : IntKind.i64.has x) (h1 : IntKind.i64.has y) (h2 : IntKind.i64.has z) : V3.In ⟨x, y, z⟩ := ⟨in_of h0, in_of h1, in_of h2⟩
end Go.Proofs.Ytflaanfmanileaa
