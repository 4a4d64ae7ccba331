/- The contracts of member.Step, Begin. -/
import Derived.Test.YtllgjbjcdenchaaMemPlain
set_option linter.unusedVariables false
namespace Go.Proofs.Ytllgjbjcdenchaa
open Go.RowKit Mb

theorem infoChange : (Try.prog.info? 63).map (fun i => (i.zero, i.size, i.bytes)) = some (some (.agg #[.int .i64 0, .int .i64 0]), 2, 16) := by kernel_rfl
/-- what Step answers -/
def StepPost (R : Rl) (A : Nat → Bool) (st : Bool) (w : World) (e : Ending) (w' : World) : Prop :=
  ∃ v, e = .returned (.tuple #[.agg (rollC (stepAll R A st).1), v, .int .i64 0]) ∧ w'.ownsRow w.heap.size 63 2 v (stepAll R A st).2.length (chC (stepAll R A st).2) ∧ Below w.heap.size w w'
/-- what holds at the head of the loop -/
def StepRel (w : World) (g : Nat) (R : Rl) (A : Nat → Bool) (s7 i : Value) (wr : World) : Prop :=
  ∃ (k : Nat) (v : Value), k ≤ 4 ∧ i = .int .i64 k ∧ s7 = v ∧ RB wr g (stepTo R A k).1 ∧ RB wr (g + 1 + 1) R0 ∧ wr.ownsRow g 63 2 v (stepTo R A k).2.length (chC (stepTo R A k).2) ∧ Below g w wr

theorem step_results {W : World} {g : Nat} {R : Rl} (h : RB W g R) (v : Value) (tmps : Array Value) (h4 : tmps.getD 4 undef = .pointer (some ⟨g, 0, none⟩)) (h5 : tmps.getD 5 undef = v) (h6 : tmps.getD 6 undef = .int .i64 0) :
    (results Try.f35 tmps).run Try.prog W = .ok (.tuple #[.agg (rollC R), v, .int .i64 0]) W := by
  have h4' : tmps[4]?.getD undef = .pointer (some ⟨g, 0, none⟩) := by simpa using h4
  have h5' : tmps[5]?.getD undef = v := by simpa using h5
  have h6' : tmps[6]?.getD undef = .int .i64 0 := by simpa using h6
  simp [results, Try.results35, h4', h5', h6', asAddr, run_loadVar_row (P := Try.prog) W g _ 56 (rollC R) (0, 0) _ h Try.underlying56 rfl (by kernel_rfl)]

set_option maxRecDepth 100000 in
set_option maxHeartbeats 4000000 in
theorem Step_any (R : Rl) (A : Nat → Bool) (vv : Int) (st : Bool) (b off c : Nat) (w : World) (hG : Mb.Good R) (hb : b < w.heap.size) (hA : ∀ j, j < 4 → w.cell? ⟨b, off + j, none⟩ = some (.bool (A j))) :
    Calls Try.prog 35 #[.agg (rollC R), .agg #[.int .i64 vv, .bool st, .slice (some ⟨b, off, none⟩) 4 c]] w (StepPost R A st w) := by
  have q0 : RB (((w.alloc (.cells (rollC R) 56)).alloc (.cells #[.int .i64 vv, .bool st, .slice (some ⟨b, off, none⟩) 4 c] 33)).alloc (.cells (rollC R0) 56)) w.heap.size R := ((Blk.at_ _ _ _ _ rfl).alloc _).alloc _
  have q2 : RB (((w.alloc (.cells (rollC R) 56)).alloc (.cells #[.int .i64 vv, .bool st, .slice (some ⟨b, off, none⟩) 4 c] 33)).alloc (.cells (rollC R0) 56)) (w.heap.size + 1 + 1) R0 := Blk.at_ _ _ _ _ (by simp)
  have q1 : Blk (((w.alloc (.cells (rollC R) 56)).alloc (.cells #[.int .i64 vv, .bool st, .slice (some ⟨b, off, none⟩) 4 c] 33)).alloc (.cells (rollC R0) 56)) (w.heap.size + 1) 33 #[.int .i64 vv, .bool st, .slice (some ⟨b, off, none⟩) 4 c] := (Blk.at_ _ _ _ _ (by simp)).alloc _
  have qB : Below w.heap.size w (((w.alloc (.cells (rollC R) 56)).alloc (.cells #[.int .i64 vv, .bool st, .slice (some ⟨b, off, none⟩) 4 c] 33)).alloc (.cells (rollC R0) 56)) := (((Below.refl _ _).alloc (by omega) _).alloc (by simp) _).alloc (by simp; omega) _
  have Q0 := Lib.hid q0
  have Q1 := Lib.hid q1
  have Q2 := Lib.hid q2
  have QB := Lib.hid qB
  have HGd := Lib.hid hG
  have HA := Lib.hid hA
  clear q0 q1 q2 qB hA hG
  go_enter Try.func35, Try.ntmps35
  have k1 := fun W => good_any R W
  have K1 := Lib.hid k1
  clear k1
  cases st with
  | false =>
    go_wp2_with (first
      | (refine wpList_load_roww rfl 56 (.tmp 2) rfl w.heap.size rfl _ (rollC R) _ Q0.out Try.underlying56 rfl (by kernel_rfl) ?_)
      | (go_at_call 38; (with_reducible refine (K1.out _).mono ?_); rintro e w1 ⟨gb, rfl, hgb, hB1⟩; obtain rfl : gb = true := hgb.2 HGd.out; have N0 := Lib.hid (RB.next Q0.out hB1); have N1 := Lib.hid (Blk.next Q1.out hB1); have N2 := Lib.hid (RB.next Q2.out hB1); have NB := Lib.hid (QB.out.trans (hB1.mono (Nat.le_trans (by simp; omega) (Nat.le_refl _)))); clear hB1 hgb; have d1 := N1.out.cell 1; have d2 := N1.out.cell 2; (simp only [List.getElem?_toArray, List.getElem?_cons_zero, List.getElem?_cons_succ] at d1 d2))
      | (refine wpList_load_roww rfl 56 (.tmp 2) rfl w.heap.size rfl _ (rollC R) _ N0.out Try.underlying56 rfl (by kernel_rfl) ?_)
      | (refine wpList_store_blk rfl 56 (.tmp 4) (.tmp 22) rfl (w.heap.size + 1 + 1) _ _ (rollC R) rfl rfl N2.out rfl (by kernel_rfl) (rollC_one R) ?_; intro w2 hR2 hg2))
    refine bodyPost_ret (v := .tuple #[.agg (rollC R), .slice none 0 0, .int .i64 0]) (step_results hR2 _ _ rfl rfl rfl) rfl ⟨_, rfl, World.ownsRow_nil _ _ _ _, ?_⟩
    exact NB.out.grown hg2 (by have := NB.out.size; omega) (fun j hj => by cases hj; omega)
  | true =>
    go_wp2_with (first
      | (refine wpList_load_roww rfl 56 (.tmp 2) rfl w.heap.size rfl _ (rollC R) _ Q0.out Try.underlying56 rfl (by kernel_rfl) ?_)
      | (go_at_call 38; (with_reducible refine (K1.out _).mono ?_); rintro e w1 ⟨gb, rfl, hgb, hB1⟩; obtain rfl : gb = true := hgb.2 HGd.out; have N0 := Lib.hid (RB.next Q0.out hB1); have N1 := Lib.hid (Blk.next Q1.out hB1); have N2 := Lib.hid (RB.next Q2.out hB1); have NB := Lib.hid (QB.out.trans (hB1.mono (Nat.le_trans (by simp; omega) (Nat.le_refl _)))); clear hB1 hgb; have d1 := N1.out.cell 1; have d2 := N1.out.cell 2; (simp only [List.getElem?_toArray, List.getElem?_cons_zero, List.getElem?_cons_succ] at d1 d2)))
    obtain ⟨i0, hi0, hz0, hz1, hz2⟩ := info_parts infoChange
    go_loopw [7, 26] (fun v i wr => StepRel w w.heap.size R A v i wr) (fun _ i _ => 4 - (intOf i).toNat)
    case atStart => exact ⟨0, _, by omega, rfl, rfl, N0.out, N2.out, World.ownsRow_nil _ _ _ _, NB.out⟩
    case round =>
      clear N0 N1 N2 NB d1 d2 Q0 Q1 Q2 QB K1
      obtain ⟨k, v, hk, rfl, hv, hR, hZ, hO, hB⟩ := hrel
      have hv2 := hv.symm
      clear hv
      subst hv2
      by_cases hk4 : k < 4
      · have hgP := step_good (A := A) HGd.out k hk
        have hL := step_len (R := R) (A := A) k
        have hca : wr.cell? ⟨b, off + k, none⟩ = some (.bool (A k)) := (hB.cell (p := ⟨b, off + k, none⟩) hb).trans (HA.out k hk4)
        have hst : stepTo R A (k + 1) = if (stepTo R A k).1.inn k = true then
            ((stay1 (stepTo R A k).1 k (A k)).1, if (stay1 (stepTo R A k).1 k (A k)).2 = true then (stepTo R A k).2 ++ [(1, (k : Int))] else (stepTo R A k).2)
          else ((wait1 (stepTo R A k).1 k (A k)).1, if (wait1 (stepTo R A k).1 k (A k)).2 = true then (stepTo R A k).2 ++ [(2, (k : Int))] else (stepTo R A k).2) := rfl
        generalize hP : (stepTo R A k).1 = P at *
        generalize hLl : (stepTo R A k).2 = l at *
        clear hP hLl
        have HGP := Lib.hid hgP
        clear hgP
        have hci := hR.inn hk4
        by_cases hin : P.inn k = true
        · rw [if_pos hin] at hst
          have HST := Lib.hid hst
          rw [hin] at hci
          have HIN := Lib.hid hin
          clear hst hin
          have HK := Lib.hid (stay_any P w.heap.size k (A k) wr hR hk4 (by have := HGP.out k hk4; unfold good1 at this; omega) (by have := HGP.out k hk4; unfold good1 at this; omega))
          generalize hs1 : (stay1 P k (A k)).1 = P1 at *
          generalize hs2 : (stay1 P k (A k)).2 = out at *
          have HR := Lib.hid hR
          have HZ := Lib.hid hZ
          have HO := Lib.hid hO
          have HB := Lib.hid hB
          have hwr := hB.size
          clear hs1 hs2 hR hZ hO hB
          cases out with
          | false =>
            go_wp2_with (first | (go_at_call 54; (with_reducible refine HK.out.mono ?_); rintro e w2 ⟨rfl, hR2, hg2⟩; have HR2 := Lib.hid hR2; have HG2 := Lib.hid hg2; clear hR2 hg2))
            go_roundw
            case rel =>
              refine ⟨k + 1, _, by omega, by go_num, rfl, ?_, (HZ.out.grown HG2.out (by simp; omega)), ?_, HB.out.grown HG2.out hwr (fun j hj => by cases hj; omega)⟩
              · rw [HST.out]; exact HR2.out
              · rw [HST.out]
                exact HO.out.kept HG2.out (.inr (fun e => own_blk_ne HO.out HR.out (by decide) e.symm))
            case measure => simp [intOf]; omega
          | true =>
            go_wp2_with (first | (go_at_call 54; (with_reducible refine HK.out.mono ?_); rintro e w2 ⟨rfl, hR2, hg2⟩; have HR2 := Lib.hid hR2; have HG2 := Lib.hid hg2; have hw2 := hg2.size; have HO2 := Lib.hid (HO.out.kept hg2 (.inr (fun e => own_blk_ne HO.out HR.out (by decide) e.symm))); clear hR2 hg2) | (at_builtin; go_loud (refine wpList_append_lies _ rfl _ _ 58 rfl w.heap.size 63 i0 (.agg #[.int .i64 0, .int .i64 0]) 2 16 Try.underlying58 hi0 hz0 hz1 hz2 rfl (by decide) v _ _ rfl (HO2.out.alloc _) ⟨w2.heap.size, 0, none⟩ 1 1 [.int .i64 1, .int .i64 (k : Nat)] rfl rfl (World.news_of_block (heap_alloc_new _ _)) (by intro u hu; simp at hu; rcases hu with rfl | rfl <;> rfl) (by decide) (by unfold maxLen; omega) (by omega) (by simp; omega) (w2.heap.size + 1) (by simp) ?_); intro g' cap w3 hown3 hg3 hat hlt3))
            go_roundw
            case rel =>
              have hne : some w.heap.size ≠ v.ownBlock := own_blk_ne HO2.out HR2.out (by decide)
              have hne2 : some (w.heap.size + 1 + 1) ≠ v.ownBlock := own_blk_ne HO2.out (HZ.out.grown HG2.out (by simp; omega)) (by decide)
              refine ⟨k + 1, _, by omega, by go_num, rfl, ?_, (Blk.grown (Blk.alloc (HZ.out.grown HG2.out (by simp; omega)) _) hg3 hne2), ?_, ((HB.out.grown HG2.out hwr (fun j hj => by cases hj; omega)).alloc (by omega) _).grown hg3 (by simp; omega) (fun j hj => (HO2.out.lt j hj).1)⟩
              · rw [HST.out]; exact Blk.grown (Blk.alloc HR2.out _) hg3 hne
              · rw [HST.out]
                simp only [Bool.false_eq_true, if_false, if_true, List.length_append, List.length_singleton, chC_snoc]
                exact hown3
            case measure => simp [intOf]; omega
        · rw [if_neg hin] at hst
          have HST := Lib.hid hst
          have hif : P.inn k = false := by simpa using hin
          rw [hif] at hci
          have HIN := Lib.hid hif
          clear hst hin hif
          have HK := Lib.hid (wait_any P w.heap.size k (A k) wr hR hk4 (by have := HGP.out k hk4; unfold good1 at this; omega) (by have := HGP.out k hk4; unfold good1 at this; omega))
          generalize hs1 : (wait1 P k (A k)).1 = P1 at *
          generalize hs2 : (wait1 P k (A k)).2 = out at *
          have HR := Lib.hid hR
          have HZ := Lib.hid hZ
          have HO := Lib.hid hO
          have HB := Lib.hid hB
          have hwr := hB.size
          clear hs1 hs2 hR hZ hO hB
          cases out with
          | false =>
            go_wp2_with (first | (go_at_call 55; (with_reducible refine HK.out.mono ?_); rintro e w2 ⟨rfl, hR2, hg2⟩; have HR2 := Lib.hid hR2; have HG2 := Lib.hid hg2; clear hR2 hg2))
            go_roundw
            case rel =>
              refine ⟨k + 1, _, by omega, by go_num, rfl, ?_, (HZ.out.grown HG2.out (by simp; omega)), ?_, HB.out.grown HG2.out hwr (fun j hj => by cases hj; omega)⟩
              · rw [HST.out]; exact HR2.out
              · rw [HST.out]
                exact HO.out.kept HG2.out (.inr (fun e => own_blk_ne HO.out HR.out (by decide) e.symm))
            case measure => simp [intOf]; omega
          | true =>
            go_wp2_with (first | (go_at_call 55; (with_reducible refine HK.out.mono ?_); rintro e w2 ⟨rfl, hR2, hg2⟩; have HR2 := Lib.hid hR2; have HG2 := Lib.hid hg2; have hw2 := hg2.size; have HO2 := Lib.hid (HO.out.kept hg2 (.inr (fun e => own_blk_ne HO.out HR.out (by decide) e.symm))); clear hR2 hg2) | (at_builtin; go_loud (refine wpList_append_lies _ rfl _ _ 58 rfl w.heap.size 63 i0 (.agg #[.int .i64 0, .int .i64 0]) 2 16 Try.underlying58 hi0 hz0 hz1 hz2 rfl (by decide) v _ _ rfl (HO2.out.alloc _) ⟨w2.heap.size, 0, none⟩ 1 1 [.int .i64 2, .int .i64 (k : Nat)] rfl rfl (World.news_of_block (heap_alloc_new _ _)) (by intro u hu; simp at hu; rcases hu with rfl | rfl <;> rfl) (by decide) (by unfold maxLen; omega) (by omega) (by simp; omega) (w2.heap.size + 1) (by simp) ?_); intro g' cap w3 hown3 hg3 hat hlt3))
            go_roundw
            case rel =>
              have hne : some w.heap.size ≠ v.ownBlock := own_blk_ne HO2.out HR2.out (by decide)
              have hne2 : some (w.heap.size + 1 + 1) ≠ v.ownBlock := own_blk_ne HO2.out (HZ.out.grown HG2.out (by simp; omega)) (by decide)
              refine ⟨k + 1, _, by omega, by go_num, rfl, ?_, (Blk.grown (Blk.alloc (HZ.out.grown HG2.out (by simp; omega)) _) hg3 hne2), ?_, ((HB.out.grown HG2.out hwr (fun j hj => by cases hj; omega)).alloc (by omega) _).grown hg3 (by simp; omega) (fun j hj => (HO2.out.lt j hj).1)⟩
              · rw [HST.out]; exact Blk.grown (Blk.alloc HR2.out _) hg3 hne
              · rw [HST.out]
                simp only [Bool.false_eq_true, if_false, if_true, List.length_append, List.length_singleton, chC_snoc]
                exact hown3
            case measure => simp [intOf]; omega
      · obtain rfl : k = 4 := by omega
        have HR := Lib.hid hR
        have HZ := Lib.hid hZ
        have HO := Lib.hid hO
        have HB := Lib.hid hB
        have hwr := hB.size
        clear hR hZ hO hB
        go_wp2_with (first
          | (refine wpList_load_roww rfl 56 (.tmp 2) rfl w.heap.size rfl _ (rollC (stepTo R A 4).1) _ HR.out Try.underlying56 rfl (by kernel_rfl) ?_)
          | (refine wpList_store_blk rfl 56 (.tmp 4) (.tmp 54) rfl (w.heap.size + 1 + 1) _ _ (rollC (stepTo R A 4).1) rfl rfl HZ.out rfl (by kernel_rfl) (rollC_one _) ?_; intro w2 hR2 hg2))
        refine bodyPost_ret (step_results hR2 _ _ rfl rfl rfl) rfl ⟨_, rfl, ?_, ?_⟩
        · exact HO.out.kept hg2 (.inr (fun e => own_blk_ne HO.out HZ.out (by decide) e.symm))
        · exact HB.out.grown hg2 hwr (fun j hj => by cases hj; omega)
end Go.Proofs.Ytllgjbjcdenchaa
