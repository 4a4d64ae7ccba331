/- The contracts of vec's reckoner: see, add, sub, mul: it remembers whether anything was bent. -/
import Derived.Test.YtflaanfmanileaaFixMul
import Derived.Test.YtflaanfmanileaaFixSqrt
import Derived.Deep.QuietTactic
import Derived.BigQuiet
import Derived.BigRegion
set_option linter.unusedVariables false
namespace Go.Proofs.Ytflaanfmanileaa
open Go.RowKit Fx

/-- the reckoner at block g remembers b -/
def Reck (w : World) (g : Nat) (b : Bool) : Prop := Blk w g 79 #[.bool b]
/-- what a reckoner's step leaves: it remembers b now; no other block that was there is changed -/
def RStep (w w' : World) (g : Nat) (b : Bool) : Prop := Reck w' g b ∧ w.grownBy w' (some g)

theorem grown_set (w : World) (g i : Nat) (u : Value) : w.grownBy (w.setCell ⟨g, i, none⟩ u) (some g) := ⟨rfl, rfl, rfl, by simp [World.setCell], fun k _ hne => Below.heap_setCell _ _ _ _ (by simpa using hne)⟩
theorem grown_trans {w w1 w2 : World} {row : Option Nat} (h : w.grownBy w1 row) (k : w1.grownBy w2 row) : w.grownBy w2 row :=
  ⟨k.os.trans h.os, k.tape.trans h.tape, k.output.trans h.output, Nat.le_trans h.size k.size, fun j hj hne => (k.block j (Nat.lt_of_lt_of_le hj h.size) hne).trans (h.block j hj hne)⟩
theorem grown_below {w w' : World} {row : Option Nat} (h : Below w.heap.size w w') : w.grownBy w' row := ⟨h.os, h.tape, h.output, h.size, fun j hj _ => h.block j hj⟩

theorem see_any (g : Nat) (n : Int) (b c : Bool) (w : World) (h : Reck w g b) :
    Calls Try.prog 66 #[.pointer (some ⟨g, 0, none⟩), .int .i64 n, .bool c] w fun e w' => e = .returned (.int .i64 n) ∧ RStep w w' g (b || c) := by
  have h0 := h.cell 0
  have f0 := h.frozen 0
  simp at h0
  have H := Lib.hid h
  clear h
  cases b
  · go_enter Try.func66, Try.ntmps66
    go_wp2_with fail
    go_ret
    exact ⟨rfl, H.out.set_ 0 _, grown_set _ _ _ _⟩
  · go_enter Try.func66, Try.ntmps66
    go_wp2_with fail
    go_ret
    exact ⟨rfl, H.out.set_ 0 _, grown_set _ _ _ _⟩

theorem radd_any (g : Nat) (a b : Int) (t : Bool) (w : World) (ha : In a) (hb : In b) (h : Reck w g t) :
    Calls Try.prog 62 #[.pointer (some ⟨g, 0, none⟩), .int .i64 a, .int .i64 b] w fun e w' => e = .returned (.int .i64 (cl (a + b))) ∧ RStep w w' g (t || out (a + b)) := by
  have k1 := fun W => add_any a b ha hb W
  simp only [Fx.res] at k1
  have K1 := Lib.hid k1
  have H := Lib.hid h
  clear k1 ha hb h
  generalize cl (a + b) = x at *
  generalize out (a + b) = o at *
  go_enter Try.func62, Try.ntmps62
  go_wp2_with fail
  refine (K1.out _).mono ?_
  rintro e w1 ⟨rfl, rfl⟩
  go_wp2_with fail
  refine (see_any g x t o _ H.out).mono ?_
  rintro e w2 ⟨rfl, hr, hg⟩
  go_wp2_with fail
  go_ret
  exact ⟨rfl, hr, hg⟩

theorem rsub_any (g : Nat) (a b : Int) (t : Bool) (w : World) (ha : In a) (hb : In b) (h : Reck w g t) :
    Calls Try.prog 72 #[.pointer (some ⟨g, 0, none⟩), .int .i64 a, .int .i64 b] w fun e w' => e = .returned (.int .i64 (cl (a - b))) ∧ RStep w w' g (t || out (a - b)) := by
  have k1 := fun W => sub_any a b ha hb W
  simp only [Fx.res] at k1
  have K1 := Lib.hid k1
  have H := Lib.hid h
  clear k1 ha hb h
  generalize cl (a - b) = x at *
  generalize out (a - b) = o at *
  go_enter Try.func72, Try.ntmps72
  go_wp2_with fail
  refine (K1.out _).mono ?_
  rintro e w1 ⟨rfl, rfl⟩
  go_wp2_with fail
  refine (see_any g x t o _ H.out).mono ?_
  rintro e w2 ⟨rfl, hr, hg⟩
  go_wp2_with fail
  go_ret
  exact ⟨rfl, hr, hg⟩

theorem rmul_any (g : Nat) (a b : Int) (t : Bool) (w : World) (ha : In a) (hb : In b) (h : Reck w g t) :
    Calls Try.prog 73 #[.pointer (some ⟨g, 0, none⟩), .int .i64 a, .int .i64 b] w fun e w' => e = .returned (.int .i64 (cl (mulZ a b))) ∧ RStep w w' g (t || out (mulZ a b)) := by
  have k1 := fun W => mul_any a b ha hb W
  simp only [Fx.res] at k1
  have K1 := Lib.hid k1
  have H := Lib.hid h
  clear k1 ha hb h
  generalize cl (mulZ a b) = x at *
  generalize out (mulZ a b) = o at *
  go_enter Try.func73, Try.ntmps73
  go_wp2_with fail
  refine (K1.out _).mono ?_
  rintro e w1 ⟨rfl, hB⟩
  go_wp2_with fail
  refine (see_any g x t o _ (H.out.next hB)).mono ?_
  rintro e w2 ⟨rfl, hr, hg⟩
  go_wp2_with fail
  go_ret
  exact ⟨rfl, hr, grown_trans (grown_below hB) hg⟩
end Go.Proofs.Ytflaanfmanileaa
