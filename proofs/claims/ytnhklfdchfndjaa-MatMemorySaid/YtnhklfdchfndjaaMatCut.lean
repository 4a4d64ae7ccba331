/- A statement that makes a matrix of several calls, in whatever order its variable is laid. -/
import Derived.Test.YtnhklfdchfndjaaMatArg
import Derived.Deep.CutRange
import Derived.Deep.DeepCutAuto
set_option linter.unusedVariables false
namespace Go.Proofs.Ytnhklfdchfndjaa.Mt
open Go.RowKit Go.Proofs.Ytnhklfdchfndjaa Fx

def zMat : Obj := .cells #[.int .i64 0, .slice none 0 0] 30
/-- the variable's block is laid -/
def ZB (W0 W : World) (q : Nat) : Prop := Blk W q 30 #[.int .i64 0, .slice none 0 0] ∧ W0.heap.size ≤ q
theorem ZB.next {W0 W W' : World} {q : Nat} (h : ZB W0 W q) (hb : Below W.heap.size W W') : ZB W0 W' q := ⟨h.1.next hb, h.2⟩
theorem ZB.cells {W0 W : World} {q : Nat} (h : ZB W0 W q) : W.cell? ⟨q, 0, none⟩ = some (.int .i64 0) ∧ W.cell? ⟨q, 1, none⟩ = some (.slice none 0 0) ∧ W.frozen? ⟨q, 0, none⟩ = false ∧ W.frozen? ⟨q, 1, none⟩ = false := ⟨h.1.cell 0, h.1.cell 1, h.1.frozen 0, h.1.frozen 1⟩
theorem ZB.start0 {W0 w' : World} (h : Below ((W0.alloc (.cells #[.int .i64 0, .slice none 0 0] 30)).drew).heap.size ((W0.alloc (.cells #[.int .i64 0, .slice none 0 0] 30)).drew) w') : ZB W0 w' W0.heap.size :=
  ⟨((Blk.new _ _ _).drew).next h, Nat.le_refl _⟩
theorem ZB.start {W0 W w' : World} (hF : Below W0.heap.size W0 W) (h : Below (W.alloc (.cells #[.int .i64 0, .slice none 0 0] 30)).heap.size (W.alloc (.cells #[.int .i64 0, .slice none 0 0] 30)) w') : ZB W0 w' W.heap.size :=
  ⟨(Blk.new _ _ _).next h, hF.size⟩
theorem F_start0 {W0 w' : World} {o : Obj} (h : Below ((W0.alloc o).drew).heap.size ((W0.alloc o).drew) w') : Below W0.heap.size W0 w' :=
  below_next (((Below.refl W0.heap.size W0).alloc (Nat.le_refl _) o).drew) h
theorem F_alloc {W0 W w' : World} {o : Obj} (hF : Below W0.heap.size W0 W) (h : Below (W.alloc o).heap.size (W.alloc o) w') : Below W0.heap.size W0 w' :=
  below_next (hF.alloc hF.size o) h
theorem Nums.alloc {w : World} {A : Option Addr} {m : Nat} {f : Nat → Int} (h : Nums w A m f) (o : Obj) : Nums (w.alloc o) A m f := h.below ((Below.refl _ _).alloc (Nat.le_refl _) _)
theorem Nums.drew {w : World} {A : Option Addr} {m : Nat} {f : Nat → Int} (h : Nums w A m f) : Nums w.drew A m f := h.below ((Below.refl _ _).drew)

/-- what such a statement leaves: a new variable that holds a new matrix -/
def CutMat (W0 : World) (n : Nat) (F : Nat → Int) (o : Bool) (s3 s4 s5 : Value) (wx : World) : Prop :=
  ∃ q g, s3 = .pointer (some ⟨q, 0, none⟩) ∧ s4 = .bool o ∧ s5 = .int .i64 0 ∧ Blk wx q 30 #[.int .i64 n, .slice (some ⟨g, 0, none⟩) (n * n) (n * n)] ∧ Blk wx g 3 (tabN (n * n) F) ∧ Below W0.heap.size W0 wx
theorem cut_mk1 {W0 W : World} {q g n : Nat} {F : Nat → Int} {o : Bool} (hZ : ZB W0 W q) (hb : Blk W g 3 (tabN (n * n) F)) (hF : Below W0.heap.size W0 W) :
    CutMat W0 n F o (.pointer (some ⟨q, 0, none⟩)) (.bool o) (.int .i64 0) ((W.setCell ⟨q, 0, none⟩ (.int .i64 n)).setCell ⟨q, 1, none⟩ (.slice (some ⟨g, 0, none⟩) (n * n) (n * n))) := by
  have hne : g ≠ q := hb.ne_ hZ.1 (by decide)
  exact ⟨q, g, rfl, rfl, rfl, (hZ.1.set_ 0 _).set_ 1 _, (hb.far hne _).far hne _, (hF.setCell hZ.2 _).setCell hZ.2 _⟩
theorem cut_mk2 {W0 W : World} {g n : Nat} {F : Nat → Int} {o : Bool} (hb : Blk W g 3 (tabN (n * n) F)) (hF : Below W0.heap.size W0 W) :
    CutMat W0 n F o (.pointer (some ⟨W.heap.size, 0, none⟩)) (.bool o) (.int .i64 0) (W.alloc (.cells #[.int .i64 n, .slice (some ⟨g, 0, none⟩) (n * n) (n * n)] 30)) :=
  ⟨_, g, rfl, rfl, rfl, Blk.new _ _ _, hb.alloc _, hF.alloc hF.size _⟩
end Go.Proofs.Ytnhklfdchfndjaa.Mt
