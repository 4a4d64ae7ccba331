/- The walk of VoteMasks: whatever the fourth node says, the verdict is strong and the three others'. -/
import Derived.Test.YtllgjbjcdenchaaVoteMore
import Derived.Test.YtllgjbjcdenchaaOpen
set_option linter.unusedVariables false
namespace Go.Proofs.Ytllgjbjcdenchaa.lawVoteMasks
open Go.RowKit Go.Proofs.Ytllgjbjcdenchaa

set_option maxRecDepth 100000 in
set_option maxHeartbeats 1000000 in
theorem walk0 (good lie bad : Int) (b0 b1 b2 b3 : Bool) (hg : IntKind.i64.has good) (hl : IntKind.i64.has lie) (hj : bad % 4 = 0) (w : World) :
    Calls Try.prog 4 #[.int .i64 good, .int .i64 lie, .int .i64 bad, .agg #[.bool b0, .bool b1, .bool b2, .bool b3]] w fun e w' => e = .returned (.bool true) ∧ Below w.heap.size w w' := by
  have ks := fun (W : World) => spot_any bad 4 W (by decide) (by decide)
  rw [hj] at ks
  have kv := fun (W : World) => vote_mask0 good lie b0 hg hl W
  have Ks := Lib.hid ks
  have Kv := Lib.hid kv
  clear ks kv hj hg hl
  go_enter Try.func4, Try.ntmps4
  go_wp2_with fail
  refine (Ks.out _).mono ?_
  rintro e w1 ⟨rfl, rfl⟩
  go_wp2_with fail
  refine wp_loop_rounds 5 ?_
  rw [rounds_succ]
  go_wp2_with fail
  rw [rounds_succ]
  go_wp2_with fail
  rw [rounds_succ]
  go_wp2_with fail
  rw [rounds_succ]
  go_wp2_with fail
  rw [rounds_succ]
  go_wp2_with fail
  refine (Kv.out _).mono ?_
  rintro e w1 ⟨v, rfl, hown, hb⟩
  obtain ⟨g, cap, rfl, hg1, hg2, hcap⟩ := own_form hown (by omega)
  have c0 := hown.cellAt 0 (by omega)
  have c1 := hown.cellAt 1 (by omega)
  have c2 := hown.cellAt 2 (by omega)
  have c3 := hown.cellAt 3 (by omega)
  simp only [List.getElem?_cons_zero, List.getElem?_cons_succ] at c0 c1 c2 c3
  clear hown
  obtain ⟨hc, hf⟩ := bcell hb
  have hz := hb.size
  simp only [World.size_alloc] at hz
  have hz1 : w.heap.size < w1.heap.size := by omega
  have hz2 : w.heap.size + 1 < w1.heap.size := by omega
  have hz3 : g < w1.heap.size + 1 := by omega
  go_wp2_with fail
  refine (votes_any _).mono ?_
  rintro e w2 ⟨rfl, hb2⟩
  obtain ⟨hc2, hf2⟩ := bcell hb2
  go_wp2_with fail
  have hx : ((lie == good) != (lie == good)) = false := by simp
  refine wp_loop_rounds 5 ?_
  rw [rounds_succ]
  go_wp2_with fail
  go_quiet (fail)
  go_wp2_with fail
  rw [rounds_succ]
  go_wp2_with fail
  go_quiet (fail)
  go_wp2_with fail
  rw [rounds_succ]
  go_wp2_with fail
  go_quiet (fail)
  go_wp2_with fail
  rw [rounds_succ]
  go_wp2_with fail
  go_quiet (fail)
  go_wp2_with fail
  rw [rounds_succ]
  go_wp2_with fail
  go_ret
  refine ⟨rfl, ?_⟩
  have h1 : Below w.heap.size w w1 := (((Below.refl _ _).alloc (Nat.le_refl _) _).alloc (by simp) _).trans (hb.mono (by simp; omega))
  have h2 : Below w.heap.size w w2 := (h1.alloc h1.size _).trans (hb2.mono (by simp; omega))
  exact h2.trans (below_drewN _ _ _)

set_option maxRecDepth 100000 in
set_option maxHeartbeats 1000000 in
theorem walk1 (good lie bad : Int) (b0 b1 b2 b3 : Bool) (hg : IntKind.i64.has good) (hl : IntKind.i64.has lie) (hj : bad % 4 = 1) (w : World) :
    Calls Try.prog 4 #[.int .i64 good, .int .i64 lie, .int .i64 bad, .agg #[.bool b0, .bool b1, .bool b2, .bool b3]] w fun e w' => e = .returned (.bool true) ∧ Below w.heap.size w w' := by
  have ks := fun (W : World) => spot_any bad 4 W (by decide) (by decide)
  rw [hj] at ks
  have kv := fun (W : World) => vote_mask1 good lie b1 hg hl W
  have Ks := Lib.hid ks
  have Kv := Lib.hid kv
  clear ks kv hj hg hl
  go_enter Try.func4, Try.ntmps4
  go_wp2_with fail
  refine (Ks.out _).mono ?_
  rintro e w1 ⟨rfl, rfl⟩
  go_wp2_with fail
  refine wp_loop_rounds 5 ?_
  rw [rounds_succ]
  go_wp2_with fail
  rw [rounds_succ]
  go_wp2_with fail
  rw [rounds_succ]
  go_wp2_with fail
  rw [rounds_succ]
  go_wp2_with fail
  rw [rounds_succ]
  go_wp2_with fail
  refine (Kv.out _).mono ?_
  rintro e w1 ⟨v, rfl, hown, hb⟩
  obtain ⟨g, cap, rfl, hg1, hg2, hcap⟩ := own_form hown (by omega)
  have c0 := hown.cellAt 0 (by omega)
  have c1 := hown.cellAt 1 (by omega)
  have c2 := hown.cellAt 2 (by omega)
  have c3 := hown.cellAt 3 (by omega)
  simp only [List.getElem?_cons_zero, List.getElem?_cons_succ] at c0 c1 c2 c3
  clear hown
  obtain ⟨hc, hf⟩ := bcell hb
  have hz := hb.size
  simp only [World.size_alloc] at hz
  have hz1 : w.heap.size < w1.heap.size := by omega
  have hz2 : w.heap.size + 1 < w1.heap.size := by omega
  have hz3 : g < w1.heap.size + 1 := by omega
  go_wp2_with fail
  refine (votes_any _).mono ?_
  rintro e w2 ⟨rfl, hb2⟩
  obtain ⟨hc2, hf2⟩ := bcell hb2
  go_wp2_with fail
  have hx : ((lie == good) != (lie == good)) = false := by simp
  refine wp_loop_rounds 5 ?_
  rw [rounds_succ]
  go_wp2_with fail
  go_quiet (fail)
  go_wp2_with fail
  rw [rounds_succ]
  go_wp2_with fail
  go_quiet (fail)
  go_wp2_with fail
  rw [rounds_succ]
  go_wp2_with fail
  go_quiet (fail)
  go_wp2_with fail
  rw [rounds_succ]
  go_wp2_with fail
  go_quiet (fail)
  go_wp2_with fail
  rw [rounds_succ]
  go_wp2_with fail
  go_ret
  refine ⟨rfl, ?_⟩
  have h1 : Below w.heap.size w w1 := (((Below.refl _ _).alloc (Nat.le_refl _) _).alloc (by simp) _).trans (hb.mono (by simp; omega))
  have h2 : Below w.heap.size w w2 := (h1.alloc h1.size _).trans (hb2.mono (by simp; omega))
  exact h2.trans (below_drewN _ _ _)

set_option maxRecDepth 100000 in
set_option maxHeartbeats 1000000 in
theorem walk2 (good lie bad : Int) (b0 b1 b2 b3 : Bool) (hg : IntKind.i64.has good) (hl : IntKind.i64.has lie) (hj : bad % 4 = 2) (w : World) :
    Calls Try.prog 4 #[.int .i64 good, .int .i64 lie, .int .i64 bad, .agg #[.bool b0, .bool b1, .bool b2, .bool b3]] w fun e w' => e = .returned (.bool true) ∧ Below w.heap.size w w' := by
  have ks := fun (W : World) => spot_any bad 4 W (by decide) (by decide)
  rw [hj] at ks
  have kv := fun (W : World) => vote_mask2 good lie b2 hg hl W
  have Ks := Lib.hid ks
  have Kv := Lib.hid kv
  clear ks kv hj hg hl
  go_enter Try.func4, Try.ntmps4
  go_wp2_with fail
  refine (Ks.out _).mono ?_
  rintro e w1 ⟨rfl, rfl⟩
  go_wp2_with fail
  refine wp_loop_rounds 5 ?_
  rw [rounds_succ]
  go_wp2_with fail
  rw [rounds_succ]
  go_wp2_with fail
  rw [rounds_succ]
  go_wp2_with fail
  rw [rounds_succ]
  go_wp2_with fail
  rw [rounds_succ]
  go_wp2_with fail
  refine (Kv.out _).mono ?_
  rintro e w1 ⟨v, rfl, hown, hb⟩
  obtain ⟨g, cap, rfl, hg1, hg2, hcap⟩ := own_form hown (by omega)
  have c0 := hown.cellAt 0 (by omega)
  have c1 := hown.cellAt 1 (by omega)
  have c2 := hown.cellAt 2 (by omega)
  have c3 := hown.cellAt 3 (by omega)
  simp only [List.getElem?_cons_zero, List.getElem?_cons_succ] at c0 c1 c2 c3
  clear hown
  obtain ⟨hc, hf⟩ := bcell hb
  have hz := hb.size
  simp only [World.size_alloc] at hz
  have hz1 : w.heap.size < w1.heap.size := by omega
  have hz2 : w.heap.size + 1 < w1.heap.size := by omega
  have hz3 : g < w1.heap.size + 1 := by omega
  go_wp2_with fail
  refine (votes_any _).mono ?_
  rintro e w2 ⟨rfl, hb2⟩
  obtain ⟨hc2, hf2⟩ := bcell hb2
  go_wp2_with fail
  have hx : ((lie == good) != (lie == good)) = false := by simp
  refine wp_loop_rounds 5 ?_
  rw [rounds_succ]
  go_wp2_with fail
  go_quiet (fail)
  go_wp2_with fail
  rw [rounds_succ]
  go_wp2_with fail
  go_quiet (fail)
  go_wp2_with fail
  rw [rounds_succ]
  go_wp2_with fail
  go_quiet (fail)
  go_wp2_with fail
  rw [rounds_succ]
  go_wp2_with fail
  go_quiet (fail)
  go_wp2_with fail
  rw [rounds_succ]
  go_wp2_with fail
  go_ret
  refine ⟨rfl, ?_⟩
  have h1 : Below w.heap.size w w1 := (((Below.refl _ _).alloc (Nat.le_refl _) _).alloc (by simp) _).trans (hb.mono (by simp; omega))
  have h2 : Below w.heap.size w w2 := (h1.alloc h1.size _).trans (hb2.mono (by simp; omega))
  exact h2.trans (below_drewN _ _ _)

set_option maxRecDepth 100000 in
set_option maxHeartbeats 1000000 in
theorem walk3 (good lie bad : Int) (b0 b1 b2 b3 : Bool) (hg : IntKind.i64.has good) (hl : IntKind.i64.has lie) (hj : bad % 4 = 3) (w : World) :
    Calls Try.prog 4 #[.int .i64 good, .int .i64 lie, .int .i64 bad, .agg #[.bool b0, .bool b1, .bool b2, .bool b3]] w fun e w' => e = .returned (.bool true) ∧ Below w.heap.size w w' := by
  have ks := fun (W : World) => spot_any bad 4 W (by decide) (by decide)
  rw [hj] at ks
  have kv := fun (W : World) => vote_mask3 good lie b3 hg hl W
  have Ks := Lib.hid ks
  have Kv := Lib.hid kv
  clear ks kv hj hg hl
  go_enter Try.func4, Try.ntmps4
  go_wp2_with fail
  refine (Ks.out _).mono ?_
  rintro e w1 ⟨rfl, rfl⟩
  go_wp2_with fail
  refine wp_loop_rounds 5 ?_
  rw [rounds_succ]
  go_wp2_with fail
  rw [rounds_succ]
  go_wp2_with fail
  rw [rounds_succ]
  go_wp2_with fail
  rw [rounds_succ]
  go_wp2_with fail
  rw [rounds_succ]
  go_wp2_with fail
  refine (Kv.out _).mono ?_
  rintro e w1 ⟨v, rfl, hown, hb⟩
  obtain ⟨g, cap, rfl, hg1, hg2, hcap⟩ := own_form hown (by omega)
  have c0 := hown.cellAt 0 (by omega)
  have c1 := hown.cellAt 1 (by omega)
  have c2 := hown.cellAt 2 (by omega)
  have c3 := hown.cellAt 3 (by omega)
  simp only [List.getElem?_cons_zero, List.getElem?_cons_succ] at c0 c1 c2 c3
  clear hown
  obtain ⟨hc, hf⟩ := bcell hb
  have hz := hb.size
  simp only [World.size_alloc] at hz
  have hz1 : w.heap.size < w1.heap.size := by omega
  have hz2 : w.heap.size + 1 < w1.heap.size := by omega
  have hz3 : g < w1.heap.size + 1 := by omega
  go_wp2_with fail
  refine (votes_any _).mono ?_
  rintro e w2 ⟨rfl, hb2⟩
  obtain ⟨hc2, hf2⟩ := bcell hb2
  go_wp2_with fail
  have hx : ((lie == good) != (lie == good)) = false := by simp
  refine wp_loop_rounds 5 ?_
  rw [rounds_succ]
  go_wp2_with fail
  go_quiet (fail)
  go_wp2_with fail
  rw [rounds_succ]
  go_wp2_with fail
  go_quiet (fail)
  go_wp2_with fail
  rw [rounds_succ]
  go_wp2_with fail
  go_quiet (fail)
  go_wp2_with fail
  rw [rounds_succ]
  go_wp2_with fail
  go_quiet (fail)
  go_wp2_with fail
  rw [rounds_succ]
  go_wp2_with fail
  go_ret
  refine ⟨rfl, ?_⟩
  have h1 : Below w.heap.size w w1 := (((Below.refl _ _).alloc (Nat.le_refl _) _).alloc (by simp) _).trans (hb.mono (by simp; omega))
  have h2 : Below w.heap.size w w2 := (h1.alloc h1.size _).trans (hb2.mono (by simp; omega))
  exact h2.trans (below_drewN _ _ _)

theorem walk' (good lie bad : Int) (b0 b1 b2 b3 : Bool) (hg : IntKind.i64.has good) (hl : IntKind.i64.has lie) (w : World) :
    Calls Try.prog 4 #[.int .i64 good, .int .i64 lie, .int .i64 bad, .agg #[.bool b0, .bool b1, .bool b2, .bool b3]] w fun e w' => e = .returned (.bool true) ∧ Below w.heap.size w w' := by
  have h : bad % 4 = 0 ∨ bad % 4 = 1 ∨ bad % 4 = 2 ∨ bad % 4 = 3 := by omega
  rcases h with h | h | h | h
  · exact walk0 good lie bad b0 b1 b2 b3 hg hl h w
  · exact walk1 good lie bad b0 b1 b2 b3 hg hl h w
  · exact walk2 good lie bad b0 b1 b2 b3 hg hl h w
  · exact walk3 good lie bad b0 b1 b2 b3 hg hl h w

theorem walk {H : Type} {enc : TypeId × Value → H} {d0 d1 d2 d3 : DataW H} {p0 p1 p2 p3 : List MemPlace} (v0 v1 v2 v3 : Value) (W : World) (base : Nat)
    (h0 : Value.okWide Try.prog W .any base 3 v0) (_ : DataW.Trod enc Try.prog W 0 (fun _ => true) true 3 v0 d0 p0)
    (h1 : Value.okWide Try.prog W .any base 3 v1) (_ : DataW.Trod enc Try.prog W 0 (fun _ => true) true 3 v1 d1 p1)
    (h2 : Value.okWide Try.prog W .any base 3 v2) (_ : DataW.Trod enc Try.prog W 0 (fun _ => true) true 3 v2 d2 p2)
    (h3 : Value.okWide Try.prog W .any base 28 v3) (_ : DataW.Trod enc Try.prog W 0 (fun _ => true) true 28 v3 d3 p3) :
    Calls Try.prog 4 #[v0, v1, v2, v3] W fun e w' => e = .returned (.bool true) ∧ Below W.heap.size W w' := by
  obtain ⟨good, rfl, hg⟩ := ok_int Try.underlying3 h0
  obtain ⟨lie, rfl, hl⟩ := ok_int Try.underlying3 h1
  obtain ⟨bad, rfl, _⟩ := ok_int Try.underlying3 h2
  obtain ⟨b0, b1, b2, b3, rfl⟩ := ok_bools4 (u := 4) (.inr ⟨_, _, Try.underlying28⟩) (by kernel_rfl) (by kernel_rfl) Try.underlying4 h3
  exact walk' good lie bad b0 b1 b2 b3 hg hl W
end Go.Proofs.Ytllgjbjcdenchaa.lawVoteMasks
