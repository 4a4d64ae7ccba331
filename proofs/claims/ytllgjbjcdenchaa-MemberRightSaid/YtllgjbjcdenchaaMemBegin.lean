/- The contracts of member.Begin, verdict, keeps. -/
import Derived.Test.YtllgjbjcdenchaaMemStep
import Derived.Test.YtllgjbjcdenchaaAppend
set_option linter.unusedVariables false
namespace Go.Proofs.Ytllgjbjcdenchaa
open Go.RowKit Mb

namespace Mb
/-- the roll at first -/
def RB0 : Rl := ⟨fun _ => true, fun _ => 0, fun _ => 0⟩
def RK (k : Nat) : Rl := ⟨fun i => decide (i < k), fun _ => 0, fun _ => 0⟩
theorem RK_succ (k : Nat) : (⟨upd (RK k).inn k true, (RK k).miss, (RK k).join⟩ : Rl) = RK (k + 1) := by
  unfold RK
  congr 1
  funext i
  unfold upd
  by_cases e : i = k
  · rw [if_pos e]; simp [e]
  · rw [if_neg e]
    have : (i < k) = (i < k + 1) := by rw [eq_iff_iff]; omega
    simp [this]
theorem RB0_good : Good RB0 := fun i _ => ⟨Int.le_refl 0, (by decide : (0 : Int) ≤ 2), Int.le_refl 0, (by decide : (0 : Int) < 3), fun _ => rfl, fun h => by cases h⟩
end Mb

def BeginRel (w : World) (g : Nat) (i : Value) (wr : World) : Prop := ∃ k : Nat, k ≤ 4 ∧ i = .int .i64 k ∧ RB wr g R0 ∧ RB wr (g + 1) (RK k) ∧ Below g w wr

set_option maxRecDepth 100000 in
set_option maxHeartbeats 2000000 in
theorem begin_any (w : World) : Calls Try.prog 34 #[] w fun e w' => e = .returned (.agg (rollC RB0)) ∧ Below w.heap.size w w' := by
  have HS : Hid (BeginRel w w.heap.size (.int .i64 0) ((w.alloc (.cells (rollC R0) 56)).alloc (.cells (rollC R0) 56))) :=
    ⟨0, by omega, rfl, (Blk.new _ _ _).alloc _, Blk.at_ _ _ _ _ (by simp), ((Below.refl _ _).alloc (Nat.le_refl _) _).alloc (by simp) _⟩
  go_enter Try.func34, Try.ntmps34
  go_wp2_with fail
  go_loopw [3] (fun i wr => BeginRel w w.heap.size i wr) (fun i _ => 4 - (intOf i).toNat)
  case atStart => exact HS.out
  case round =>
    clear HS
    obtain ⟨k, hk, rfl, hZ, hR, hB⟩ := hrel
    by_cases hk4 : k < 4
    · have ci := hR.inn hk4
      have fi := hR.free k
      have hs := hR.setInn hk4 true
      rw [RK_succ] at hs
      have HZ := Lib.hid hZ
      have HR := Lib.hid hs
      have HB := Lib.hid hB
      clear hZ hR hB hs
      go_wp2_with fail
      go_roundw
      case rel => exact ⟨k + 1, by omega, by go_num, HZ.out.far (by simp) _, HR.out, HB.out.setCell (by simp) _⟩
      case measure => simp [intOf]; omega
    · obtain rfl : k = 4 := by omega
      have HZ := Lib.hid hZ
      have HR := Lib.hid (show RB wr (w.heap.size + 1) RB0 from hR)
      have HB := Lib.hid hB
      clear hZ hR hB
      go_wp2_with (first
        | (refine wpList_load_roww rfl 56 (.tmp 1) rfl (w.heap.size + 1) rfl _ (rollC RB0) _ HR.out Try.underlying56 rfl (by kernel_rfl) ?_)
        | (refine wpList_store_blk rfl 56 (.tmp 0) (.tmp 10) rfl w.heap.size _ _ (rollC RB0) rfl rfl HZ.out rfl (by kernel_rfl) (rollC_one _) ?_; intro w2 hR2 hg2))
      refine bodyPost_ret (results_cell_row Try.results34 _ _ w.heap.size _ (rollC RB0) (0, 0) _ rfl hR2 Try.underlying56 rfl (by kernel_rfl)) rfl ⟨rfl, ?_⟩
      exact HB.out.grown hg2 HB.out.size (fun j hj => by cases hj; exact Nat.le_refl _)

set_option maxRecDepth 100000 in
set_option maxHeartbeats 2000000 in
theorem keeps_any (w : World) : Calls Try.prog 37 #[] w fun e w' => e = .returned (.bool true) ∧ Below w.heap.size w w' := by
  have k2 : ∀ W, Calls Try.prog 39 #[.agg (rollC RB0)] W fun e w' => e = .returned (.int .i64 4) ∧ Below W.heap.size W w' := fun W => count_any RB0 W
  have K2 := Lib.hid k2
  clear k2
  go_enter Try.func37, Try.ntmps37
  go_wp2_with fail
  refine (begin_any _).mono ?_
  rintro e w1 ⟨rfl, hB1⟩
  have hn : RB (w1.alloc (.cells (rollC R0) 56)) w1.heap.size R0 := Blk.new _ _ _
  have HN := Lib.hid hn
  have HB1 := Lib.hid (hB1.alloc hB1.size (.cells (rollC R0) 56))
  have hs1 := hB1.size
  clear hn hB1
  go_wp2_with (first
    | (refine wpList_store_blk rfl 56 (.tmp 1) (.tmp 2) rfl w1.heap.size _ _ (rollC RB0) rfl rfl HN.out rfl (by kernel_rfl) (rollC_one _) ?_; intro w2 hR2 hg2; have HR2 := Lib.hid hR2; have HB2 := Lib.hid (HB1.out.grown hg2 (by simp; omega) (fun j hj => by cases hj; omega)); clear hR2 hg2)
    | (refine wpList_load_roww rfl 56 (.tmp 1) rfl w1.heap.size rfl _ (rollC RB0) _ HR2.out Try.underlying56 rfl (by kernel_rfl) ?_)
    | (go_at_call 39; (with_reducible refine (K2.out _).mono ?_); rintro e w3 ⟨rfl, hB3⟩; have HR3 := Lib.hid (Blk.next HR2.out hB3); have HB3 := Lib.hid (below_next HB2.out hB3); clear hB3)
    | (refine wpList_load_roww rfl 56 (.tmp 1) rfl w1.heap.size rfl _ (rollC RB0) _ HR3.out Try.underlying56 rfl (by kernel_rfl) ?_)
    | (go_at_call 38; (with_reducible refine (good_any RB0 _).mono ?_); rintro e w4 ⟨gb, rfl, hgb, hB4⟩; obtain rfl : gb = true := hgb.2 RB0_good; have HB4 := Lib.hid (below_next HB3.out hB4); clear hgb hB4))
  go_ret
  exact ⟨rfl, HB4.out⟩

def VerdPost (A : Nat → Bool) (w : World) (e : Ending) (w' : World) : Prop :=
  ∃ b c, e = .returned (.agg #[.int .i64 0, .bool true, .slice (some ⟨b, 0, none⟩) 4 c]) ∧ w.heap.size ≤ b ∧ b < w'.heap.size ∧ (∀ j, j < 4 → w'.cell? ⟨b, 0 + j, none⟩ = some (.bool (A j))) ∧ Below w.heap.size w w'

set_option maxRecDepth 100000 in
set_option maxHeartbeats 2000000 in
theorem verdict_any (A : Nat → Bool) (w : World) : Calls Try.prog 36 #[.agg #[.bool (A 0), .bool (A 1), .bool (A 2), .bool (A 3)]] w (VerdPost A w) := by
  obtain ⟨i0, hi0, hz0, hz1, hz2⟩ := info_parts (show (Try.prog.info? 4).map (fun i => (i.zero, i.size, i.bytes)) = some (some (.bool false), 1, 1) from by kernel_rfl)
  have hb : Blk ((w.alloc (.cells #[.bool (A 0), .bool (A 1), .bool (A 2), .bool (A 3)] 28)).alloc (.cells #[.int .i64 0, .bool false, .slice none 0 0] 33)) w.heap.size 28 #[.bool (A 0), .bool (A 1), .bool (A 2), .bool (A 3)] := (Blk.new _ _ _).alloc _
  have hv : Blk ((w.alloc (.cells #[.bool (A 0), .bool (A 1), .bool (A 2), .bool (A 3)] 28)).alloc (.cells #[.int .i64 0, .bool false, .slice none 0 0] 33)) (w.heap.size + 1) 33 #[.int .i64 0, .bool false, .slice none 0 0] := Blk.at_ _ _ _ _ (by simp)
  have hn : ∀ j u, [Value.bool (A 0), .bool (A 1), .bool (A 2), .bool (A 3)][j]? = some u → ((w.alloc (.cells #[.bool (A 0), .bool (A 1), .bool (A 2), .bool (A 3)] 28)).alloc (.cells #[.int .i64 0, .bool false, .slice none 0 0] 33)).cell? ((⟨w.heap.size, 0, none⟩ : Addr).add j) = some u := by
    intro j u hu
    rw [show (⟨w.heap.size, 0, none⟩ : Addr).add j = ⟨w.heap.size, 0 + j, none⟩ by unfold Addr.add; split <;> simp_all, Nat.zero_add, hb.cell j]
    simpa using hu
  have HV := Lib.hid hv
  have HN := Lib.hid hn
  clear hb hv hn
  go_enter Try.func36, Try.ntmps36
  go_wp2_with (first
    | (at_builtin; refine wpList_append_lies _ rfl _ _ 31 rfl w.heap.size 4 i0 (.bool false) 1 1 Try.underlying31 hi0 hz0 hz1 hz2 rfl (by decide) _ 0 [] rfl (World.ownsRow_nil _ _ _ _) ⟨w.heap.size, 0, none⟩ 4 4 [.bool (A 0), .bool (A 1), .bool (A 2), .bool (A 3)] rfl rfl HN.out (by intro u hu; simp at hu; rcases hu with rfl | rfl | rfl | rfl <;> rfl) (by decide) (by decide) (by decide) (by simp; omega) (w.heap.size + 1 + 1) (by simp) ?_; intro g cap w2 hown2 hg2 hat hlt2; have HV2 := HV.out.grown hg2 (fun e => by cases e); have e0 := HV2.cell 0; have e1 := HV2.cell 1; have e2 := HV2.cell 2; have f0 := HV2.frozen 0; have f1 := HV2.frozen 1; have f2 := HV2.frozen 2; (simp only [List.getElem?_toArray, List.getElem?_cons_zero, List.getElem?_cons_succ] at e0 e1 e2)))
  have hbk := ((HV2.set_ 0 (.int .i64 0)).set_ 1 (.bool true)).set_ 2 (.slice (some ⟨g, 0, none⟩) 4 cap)
  have hbk2 : Blk (((w2.setCell ⟨w.heap.size + 1, 0, none⟩ (.int .i64 0)).setCell ⟨w.heap.size + 1, 1, none⟩ (.bool true)).setCell ⟨w.heap.size + 1, 2, none⟩ (.slice (some ⟨g, 0, none⟩) 4 cap)) (w.heap.size + 1) 33 #[.int .i64 0, .bool true, .slice (some ⟨g, 0, none⟩) 4 cap] := by simpa using hbk
  have hgg : g = w.heap.size + 1 + 1 := hat.elim (fun e => by cases e) id
  refine bodyPost_ret (results_cell_row Try.results36 _ _ (w.heap.size + 1) _ _ (0, 0) _ rfl hbk2 Try.underlying33 rfl (by kernel_rfl)) rfl ⟨g, cap, rfl, by omega, by simp [World.setCell]; exact hlt2, fun j hj => ?_, ?_⟩
  · rw [World.cell?_setCell_other _ _ _ _ (by intro e; have := congrArg Addr.block e; simp at this; omega), World.cell?_setCell_other _ _ _ _ (by intro e; have := congrArg Addr.block e; simp at this; omega), World.cell?_setCell_other _ _ _ _ (by intro e; have := congrArg Addr.block e; simp at this; omega), Nat.zero_add, hown2.cellAt j (by omega)]
    match j, hj with
    | 0, _ => rfl
    | 1, _ => rfl
    | 2, _ => rfl
    | 3, _ => rfl
  · exact ((((((Below.refl w.heap.size w).alloc (Nat.le_refl _) _).alloc (by simp) _).grown hg2 (by simp; omega) (fun j hj => by cases hj)).setCell (by simp) _).setCell (by simp) _).setCell (by simp) _
end Go.Proofs.Ytllgjbjcdenchaa
