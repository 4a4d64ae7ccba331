/- fourwatchkeep.own: a copy. -/
import Derived.Test.YtflaanfmanileaaMatGood
import Derived.Test.YtflaanfmanileaaAppend
set_option linter.unusedVariables false
namespace Go.Proofs.Ytflaanfmanileaa.Mt
open Go.RowKit Go.Proofs.Ytflaanfmanileaa Fx

theorem infoInt : (Try.prog.info? 3).map (fun i => (i.zero, i.size, i.bytes)) = some (some (.int .i64 0), 1, 8) := by kernel_rfl

set_option maxRecDepth 100000 in
set_option maxHeartbeats 1000000 in
theorem own_any (N : Int) (A : Option Addr) (n c : Nat) (zs : List Int) (w : World) (h : Ints w .i64 A n zs) (hA : A = none → n = 0 ∧ c = 0) (hn : n * 8 ≤ 140737488355328) :
    Calls Try.prog 28 #[.agg #[.int .i64 N, .slice A n c]] w fun e w' => ∃ A' c', e = .returned (.agg #[.int .i64 N, .slice A' n c']) ∧ w'.ownsRow w.heap.size 3 1 (.slice A' n c') n (zs.map (Value.int .i64)) ∧ Below w.heap.size w w' := by
  obtain ⟨i0, hi, hz0, hz1, hz2⟩ : ∃ i, Try.prog.info? 3 = some i ∧ i.zero = some (.int .i64 0) ∧ i.size = 1 ∧ i.bytes = 8 := by
    have := infoInt
    cases he : Try.prog.info? 3 with
    | none => rw [he] at this; cases this
    | some i => rw [he] at this; simp at this; exact ⟨i, rfl, this.1, this.2.1, this.2.2⟩
  have H := Lib.hid h
  have HA := Lib.hid hA
  clear h hA
  go_enter Try.func28, Try.ntmps28
  go_wp2_with (at_builtin; refine wpList_append_ints rfl _ _ 29 rfl w.heap.size 3 i0 (.int .i64 0) .i64 8 Try.underlying29 hi hz0 hz1 hz2 rfl _ 0 [] rfl (World.ownsRow_nil _ _ _ _) A n c zs rfl HA.out ((H.out.alloc _).alloc _) (by unfold maxLen; omega) (by omega) (by simp; omega) ?_; intro v1 w1 hown1 hg1; (simp only [Nat.zero_add, List.nil_append] at hown1); obtain ⟨A1, c1, rfl⟩ := own_shape hown1; have b0 := Blk.grown ((Blk.new w 31 #[.int .i64 N, .slice A n c]).alloc (.cells #[.int .i64 0, .slice none 0 0] 31)) hg1 (by intro e; cases e); have b1 := Blk.grown (Blk.at_ (w.alloc (.cells #[.int .i64 N, .slice A n c] 31)) (w.heap.size + 1) 31 #[.int .i64 0, .slice none 0 0] (by simp)) hg1 (by intro e; cases e); have d0 := b0.cell 0; have d1 := b0.cell 1; have d2 := b1.cell 0; have d3 := b1.cell 1; (simp only [List.getElem?_toArray, List.getElem?_cons_zero, List.getElem?_cons_succ] at d0 d1 d2 d3); have f0 := b0.frozen 1; have f1 := b1.frozen 0; have f2 := b1.frozen 1; have HOW := Lib.hid hown1; have HG := Lib.hid hg1; have HB0 := Lib.hid b0; have HB1 := Lib.hid b1; clear hown1 hg1 b0 b1)
  have hsz := HG.out.size
  simp only [World.size_alloc] at hsz
  have hne0 : some w.heap.size ≠ (Value.slice A1 n c1).ownBlock := own_blk_ne HOW.out HB0.out (by decide)
  have hne1 : some (w.heap.size + 1) ≠ (Value.slice A1 n c1).ownBlock := own_blk_ne HOW.out HB1.out (by decide)
  have HZ : Blk (((w1.setCell ⟨w.heap.size, 1, none⟩ (.slice A1 n c1)).setCell ⟨w.heap.size + 1, 0, none⟩ (.int .i64 N)).setCell ⟨w.heap.size + 1, 1, none⟩ (.slice A1 n c1)) (w.heap.size + 1) 31 #[.int .i64 N, .slice A1 n c1] := ((HB1.out.far (by simp) _).set_ 0 _).set_ 1 _
  refine bodyPost_ret (results_cell_row Try.results28 _ _ (w.heap.size + 1) _ _ (0, 0) _ rfl HZ Try.underlying31 rfl (by kernel_rfl)) rfl ⟨A1, c1, rfl, own_set (own_set (own_set HOW.out hne0 _) hne1 _) hne1 _, ?_⟩
  have hb : Below w.heap.size w w1 := (((Below.refl _ _).alloc (Nat.le_refl _) _).alloc (by simp) _).grown HG.out (by simp; omega) (fun j hj => by cases hj)
  exact ((hb.setCell (by simp) _).setCell (by simp) _).setCell (by simp) _
end Go.Proofs.Ytflaanfmanileaa.Mt
