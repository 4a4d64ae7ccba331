/- mat.fresh: a matrix of noughts. -/
import Derived.Test.YtnhklfdchfndjaaMatBlk
set_option linter.unusedVariables false
namespace Go.Proofs.Ytnhklfdchfndjaa.Mt
open Go.RowKit Go.Proofs.Ytnhklfdchfndjaa Fx

/-- a matrix at work: its numbers lie in block g, its mark in block b -/
def Work (W : World) (n g b : Nat) (f : Nat → Int) (o : Bool) : Prop := Blk W g 3 (tabN (n * n) f) ∧ Blk W b 4 #[.bool o]
def workV (n g b : Nat) : Value := .agg #[.int .i64 n, .slice (some ⟨g, 0, none⟩) (n * n) (n * n), .pointer (some ⟨b, 0, none⟩)]
def NewWork (w : World) (n g b : Nat) (w' : World) : Prop := Work w' n g b (fun _ => 0) false ∧ w.heap.size ≤ g ∧ w.heap.size ≤ b ∧ Below w.heap.size w w'

set_option maxRecDepth 100000 in
set_option maxHeartbeats 1000000 in
theorem fresh_any (n : Nat) (h1 : 1 ≤ n) (h6 : n ≤ 6) (w : World) :
    Calls Try.prog 26 #[.int .i64 n] w fun e w' => ∃ g b, e = .returned (workV n g b) ∧ NewWork w n g b w' := by
  obtain ⟨i0, hi, hz0, hz1, hz2⟩ : ∃ i, Try.prog.info? 3 = some i ∧ i.zero = some (.int .i64 0) ∧ i.size = 1 ∧ i.bytes = 8 := by
    have := infoInt
    cases he : Try.prog.info? 3 with
    | none => rw [he] at this; cases this
    | some i => rw [he] at this; simp at this; exact ⟨i, rfl, this.1, this.2.1, this.2.2⟩
  have hp : n * n ≤ 36 := Nat.le_trans (Nat.mul_le_mul h6 h6) (by omega)
  have hq1 : (0 : Int) ≤ (n : Int) * (n : Int) := by exact_mod_cast Nat.zero_le (n * n)
  have hq2 : (n : Int) * (n : Int) ≤ 36 := by exact_mod_cast hp
  go_enter Try.func26, Try.ntmps26
  go_wp2_with (refine wpList_make_ints rfl (.tmp 6) (.tmp 6) 28 rfl 3 i0 Try.underlying28 hi hz0 hz1 hz2 _ (n * n) rfl rfl (by rfl) (by omega) ?_)
  have HZ := ((Blk.new w 57 #[.int .i64 n, .slice (some ⟨w.heap.size + 1, 0, none⟩) (n * n) (n * n), .pointer (some ⟨w.heap.size + 1 + 1, 0, none⟩)]).alloc (.cells (tabN (n * n) fun x => 0) 3)).alloc (.cells #[.bool false] 4)
  refine bodyPost_ret (results_cell_row Try.results26 _ _ w.heap.size _ _ (0, 0) _ rfl HZ Try.underlying57 rfl (by kernel_rfl)) rfl ?_
  exact ⟨w.heap.size + 1, w.heap.size + 1 + 1, rfl, ⟨(Blk.at_ _ _ _ _ (by simp)).alloc _, Blk.at_ _ _ _ _ (by simp)⟩, by omega, by omega, (((Below.refl _ _).alloc (Nat.le_refl _) _).alloc (by simp) _).alloc (by simp; omega) _⟩
end Go.Proofs.Ytnhklfdchfndjaa.Mt
