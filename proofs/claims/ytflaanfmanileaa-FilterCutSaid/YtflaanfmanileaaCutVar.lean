/- A statement that lays a new variable, in whatever order its block is made beside appends and calls. Over any program. -/
import Derived.Test.YtflaanfmanileaaAppend
set_option linter.unusedVariables false
namespace Go.Proofs.Ytflaanfmanileaa
open Go.RowKit

/-- the variable's block is laid -/
def VZ (W0 W : World) (q : Nat) (t : TypeId) (cs : Array Value) : Prop := Blk W q t cs ∧ W0.heap.size ≤ q
theorem VZ.next {W0 W W' : World} {q : Nat} {t : TypeId} {cs : Array Value} (h : VZ W0 W q t cs) (hb : Below W.heap.size W W') : VZ W0 W' q t cs := ⟨h.1.next hb, h.2⟩
theorem VZ.nextG {W0 W W' : World} {q : Nat} {t : TypeId} {cs : Array Value} (h : VZ W0 W q t cs) (hb : W.grownBy W' none) : VZ W0 W' q t cs := ⟨h.1.grown hb (by intro e; cases e), h.2⟩
theorem VZ.start0 {W0 w' : World} {t : TypeId} {cs : Array Value} (h : Below ((W0.alloc (.cells cs t)).drew).heap.size ((W0.alloc (.cells cs t)).drew) w') : VZ W0 w' W0.heap.size t cs :=
  ⟨((Blk.new _ _ _).drew).next h, Nat.le_refl _⟩
theorem VZ.startG0 {W0 w' : World} {t : TypeId} {cs : Array Value} (h : ((W0.alloc (.cells cs t)).drew).grownBy w' none) : VZ W0 w' W0.heap.size t cs :=
  ⟨((Blk.new _ _ _).drew).grown h (by intro e; cases e), Nat.le_refl _⟩
theorem VZ.start {W0 W w' : World} {t : TypeId} {cs : Array Value} (hF : Below W0.heap.size W0 W) (h : Below (W.alloc (.cells cs t)).heap.size (W.alloc (.cells cs t)) w') : VZ W0 w' W.heap.size t cs :=
  ⟨(Blk.new _ _ _).next h, hF.size⟩
theorem VZ.startG {W0 W w' : World} {t : TypeId} {cs : Array Value} (hF : Below W0.heap.size W0 W) (h : (W.alloc (.cells cs t)).grownBy w' none) : VZ W0 w' W.heap.size t cs :=
  ⟨(Blk.new _ _ _).grown h (by intro e; cases e), hF.size⟩
theorem V_start0 {W0 w' : World} {o : Obj} (h : Below ((W0.alloc o).drew).heap.size ((W0.alloc o).drew) w') : Below W0.heap.size W0 w' :=
  below_next (((Below.refl W0.heap.size W0).alloc (Nat.le_refl _) o).drew) h
theorem V_startG0 {W0 w' : World} {o : Obj} (h : ((W0.alloc o).drew).grownBy w' none) : Below W0.heap.size W0 w' :=
  (((Below.refl W0.heap.size W0).alloc (Nat.le_refl _) o).drew).grown h (by simp) (fun j hj => by cases hj)
theorem V_alloc {W0 W w' : World} {o : Obj} (hF : Below W0.heap.size W0 W) (h : Below (W.alloc o).heap.size (W.alloc o) w') : Below W0.heap.size W0 w' :=
  below_next (hF.alloc hF.size o) h
theorem V_allocG {W0 W w' : World} {o : Obj} (hF : Below W0.heap.size W0 W) (h : (W.alloc o).grownBy w' none) : Below W0.heap.size W0 w' :=
  (hF.alloc hF.size o).grown h (by have := hF.size; simp; omega) (fun j hj => by cases hj)
theorem V_nextG {W0 W w' : World} (hF : Below W0.heap.size W0 W) (h : W.grownBy w' none) : Below W0.heap.size W0 w' := hF.grown h hF.size (fun j hj => by cases hj)
/-- a new variable that holds the cells cs -/
def CutVar (W0 : World) (t : TypeId) (cs : Array Value) (sq : Value) (wx : World) : Prop := ∃ q, sq = .pointer (some ⟨q, 0, none⟩) ∧ Blk wx q t cs ∧ Below W0.heap.size W0 wx
end Go.Proofs.Ytflaanfmanileaa
