/- fourwatchkeep.stands: mat answers. -/
import Derived.Test.YtnhklfdchfndjaaMatUnit
import Derived.Test.YtnhklfdchfndjaaMatSame
set_option linter.unusedVariables false
namespace Go.Proofs.Ytnhklfdchfndjaa.Mt
open Go.RowKit Go.Proofs.Ytnhklfdchfndjaa Fx
attribute [local go_sem ↓] Go.wp_at_zero Go.wp_at_succ

/-- two blocks of the same numbers are the same -/
theorem same_blks (g h n c d : Nat) (t u : TypeId) (f : Nat → Int) (w : World) (hg : Blk w g t (tabN n f)) (hh : Blk w h u (tabN n f)) (hn : n ≤ 36) :
    Calls Try.prog 17 #[.slice (some ⟨g, 0, none⟩) n c, .slice (some ⟨h, 0, none⟩) n d] w fun e w' => e = .returned (.bool true) ∧ Below w.heap.size w w' :=
  same_true _ _ n c d _ w (ints_blk hg) (ints_blk hh) (by omega)

set_option maxRecDepth 100000 in
set_option maxHeartbeats 2000000 in
theorem stands_any (w : World) : Calls Try.prog 15 #[] w fun e w' => e = .returned (.bool true) ∧ Below w.heap.size w w' := by
  have ku : ∀ W, Calls Try.prog 34 #[.int .i64 2] W fun e w' => ∃ g, e = .returned (.agg #[.int .i64 2, .slice (some ⟨g, 0, none⟩) 4 4]) ∧ NewMat W w' 2 g (unitF 2) := fun W => unit_any 2 (by omega) (by omega) W
  have k3 : ∀ W, Calls Try.prog 34 #[.int .i64 3] W fun e w' => ∃ g, e = .returned (.agg #[.int .i64 3, .slice (some ⟨g, 0, none⟩) 9 9]) ∧ NewMat W w' 3 g (unitF 3) := fun W => unit_any 3 (by omega) (by omega) W
  have km : ∀ W gA gB, Nums W (some ⟨gA, 0, none⟩) 4 (unitF 2) → Nums W (some ⟨gB, 0, none⟩) 4 (unitF 2) → Calls Try.prog 10 #[.agg #[.int .i64 2, .slice (some ⟨gA, 0, none⟩) 4 4], .agg #[.int .i64 2, .slice (some ⟨gB, 0, none⟩) 4 4]] W fun e w' => ∃ g, e = .returned (.tuple #[.agg #[.int .i64 2, .slice (some ⟨g, 0, none⟩) 4 4], .bool false, .int .i64 0]) ∧ NewMat W w' 2 g (unitF 2) := fun W gA gB hA hB => by
    have h := Mul_any 2 4 4 (some ⟨gA, 0, none⟩) (some ⟨gB, 0, none⟩) (unitF 2) (unitF 2) (by omega) (by omega) W hA hB (fun t _ => unitF_in 2 t) (fun t _ => unitF_in 2 t)
    rw [mul_unit_bent (unitF 2) (fun t => unitF_in 2 t)] at h
    refine h.mono ?_
    rintro e w' ⟨g, he, hg, hb, hB⟩
    refine ⟨g, he, hg, ?_, hB⟩
    rw [tabN_congr (g := unitF 2) (fun t ht => mul_unit (unitF 2) (fun t => unitF_in 2 t) ht)] at hb
    exact hb
  have g3 : ∀ W g, Calls Try.prog 25 #[.agg #[.int .i64 3, .slice (some ⟨g, 0, none⟩) 9 9]] W fun e w' => e = .returned (.bool true) ∧ Below W.heap.size W w' := fun W g => Good_any 3 (some ⟨g, 0, none⟩) 9 9 W (by decide)
  have g0 : ∀ W, Calls Try.prog 25 #[.agg #[.int .i64 0, .slice none 0 0]] W fun e w' => e = .returned (.bool false) ∧ Below W.heap.size W w' := fun W => Good_any 0 none 0 0 W (by decide)
  have ks : ∀ W g h, Blk W g 3 (tabN 4 (unitF 2)) → Blk W h 3 (tabN 4 (unitF 2)) → Calls Try.prog 17 #[.slice (some ⟨g, 0, none⟩) 4 4, .slice (some ⟨h, 0, none⟩) 4 4] W fun e w' => e = .returned (.bool true) ∧ Below W.heap.size W w' := fun W g h hg hh => same_blks g h 4 4 4 _ _ (unitF 2) W hg hh (by omega)
  have hfd : ∀ (W : World) (gu : Nat), (Instr.field 30 (.agg #[.int .i64 2, .slice (some ⟨gu, 0, none⟩) 4 4]) 1).run Try.prog W = .ok (.slice (some ⟨gu, 0, none⟩) 4 4) W := fun _ _ => by kernel_rfl
  have KU := Lib.hid ku
  have K3 := Lib.hid k3
  have KM := Lib.hid km
  have G3 := Lib.hid g3
  have G0 := Lib.hid g0
  have KS := Lib.hid ks
  clear ku k3 km g3 g0 ks
  go_enter Try.func15, Try.ntmps15
  go_wp2_with fail
  refine (KU.out _).mono ?_
  rintro e w1 ⟨ga, rfl, hga, hba, hB1⟩
  have HBA := Lib.hid hba
  have B1 := Lib.hid hB1
  clear hba hB1
  go_wp2_with fail
  refine (KU.out _).mono ?_
  rintro e w2 ⟨gb, rfl, hgb, hbb, hB2⟩
  have HBB := Lib.hid hbb
  have HA2 := Lib.hid (HBA.out.next hB2)
  have B2 := Lib.hid (below_next B1.out hB2)
  clear hbb hB2 HBA B1
  go_wp2_with fail
  refine (KM.out _ ga gb (nums_blk HA2.out) (nums_blk HBB.out)).mono ?_
  rintro e w3 ⟨g, rfl, hg, hb, hB3⟩
  have h3B := below_next B2.out hB3
  have HG := Lib.hid ((hb.alloc (.cells #[.int .i64 2, .slice (some ⟨g, 0, none⟩) 4 4] 30)).drew)
  have HP := Lib.hid ((Blk.new w3 30 #[.int .i64 2, .slice (some ⟨g, 0, none⟩) 4 4]).drew)
  have HB := Lib.hid ((h3B.alloc h3B.size (.cells #[.int .i64 2, .slice (some ⟨g, 0, none⟩) 4 4] 30)).drew)
  clear hb hB3 h3B HA2 HBB B2 hga hgb hg KM
  go_upto_region 2 with fail
  have hG := HG.out
  have hP := HP.out
  have hB := HB.out
  clear HG HP HB
  go_region_held3 (fun w' => w'.cell? ⟨w3.heap.size, 1, none⟩ = some (.slice (some ⟨g, 0, none⟩) 4 4)) (exact hP.cell 1) (first
    | (go_at_call 34; (with_reducible refine (KU.out _).mono ?_); rintro e w4 ⟨gu, rfl, hgu, hbu, hB4⟩; have hG4 := hG.next hB4; have hP4 := hP.next hB4; have hB5 := below_next hB hB4; clear hG hP hB hB4; have hG := hG4; have hP := hP4; have hB := hB5; clear hG4 hP4 hB5)
    | (go_at_call 17; (with_reducible refine (KS.out _ g gu hG hbu).mono ?_); rintro e w4 ⟨rfl, hB4⟩; have hP4 := hP.next hB4; have hB5 := below_next hB hB4; clear hG hbu hP hB hB4; have hP := hP4; have hB := hB5; clear hP4 hB5)
    | (go_at_call 34; (with_reducible refine (K3.out _).mono ?_); rintro e w4 ⟨gv, rfl, hgv, hbv, hB4⟩; have hP4 := hP.next hB4; have hB5 := below_next hB hB4; clear hP hB hB4; have hP := hP4; have hB := hB5; clear hP4 hB5)
    | (go_at_call 25; (with_reducible refine (G3.out _ gv).mono ?_); rintro e w4 ⟨rfl, hB4⟩; have hP4 := hP.next hB4; have hB5 := below_next hB hB4; clear hP hB hB4; have hP := hP4; have hB := hB5; clear hP4 hB5)
    | (go_at_call 25; (with_reducible refine (G0.out _).mono ?_); rintro e w4 ⟨rfl, hB4⟩; have hP4 := hP.next hB4; have hB5 := below_next hB hB4; clear hP hB hB4; have hP := hP4; have hB := hB5; clear hP4 hB5))
  go_wp2_with fail
  go_ret
  exact ⟨rfl, hB⟩
end Go.Proofs.Ytnhklfdchfndjaa.Mt
