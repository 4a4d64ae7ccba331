/- The contract of agree.Vectors: what each node takes for said by each. -/
import Derived.Test.YtllgjbjcdenchaaAgreeOne
set_option linter.unusedVariables false
namespace Go.Proofs.Ytllgjbjcdenchaa
open Go.RowKit Mj Ag

/-- four values, by number -/
def x4 (x0 x1 x2 x3 : Int) (s : Nat) : Int := if s = 0 then x0 else if s = 1 then x1 else if s = 2 then x2 else x3
/-- a table of 16 numbers as cells -/
def tab (M : Nat → Nat → Int) : Array Value := #[.int .i64 (M 0 0), .int .i64 (M 0 1), .int .i64 (M 0 2), .int .i64 (M 0 3), .int .i64 (M 1 0), .int .i64 (M 1 1), .int .i64 (M 1 2), .int .i64 (M 1 3),
  .int .i64 (M 2 0), .int .i64 (M 2 1), .int .i64 (M 2 2), .int .i64 (M 2 3), .int .i64 (M 3 0), .int .i64 (M 3 1), .int .i64 (M 3 2), .int .i64 (M 3 3)]
theorem tab_one (M : Nat → Nat → Int) : (tab M).all (·.oneCell') = true := by simp [tab, Value.oneCell']
theorem tab_eq (M : Nat → Nat → Int) : AN 16 (fun i => .int .i64 (M (i / 4) (i % 4))) = tab M := rfl

/-- what holds at the head of the loop -/
def VecL (w : World) (g : Nat) (x0 x1 x2 x3 bad : Int) (A : Option Addr) (n c : Nat) (i : Value) (wr : World) : Prop :=
  ∃ (k p : Nat) (M : Nat → Nat → Int), k ≤ 4 ∧ i = .int .i64 k ∧ Blk wr g 30 #[.int .i64 x0, .int .i64 x1, .int .i64 x2, .int .i64 x3] ∧ Blk wr (g + 1) 51 (tab fun _ _ => 0) ∧
    Blk wr (g + 1 + 1) 51 (AN 16 fun i => .int .i64 (M (i / 4) (i % 4))) ∧ Liar wr (g + 1 + 1 + 1) A n c p ∧ (∀ s, s < k → Agr s (x4 x0 x1 x2 x3 s) bad (fun q => M q s)) ∧ Below g w wr

set_option maxRecDepth 100000 in
set_option maxHeartbeats 4000000 in
theorem vectors_any (x0 x1 x2 x3 bad : Int) (A : Option Addr) (n c : Nat) (zs : List Int) (w : World) (hi : Ints w .i64 A n zs) (hA : ∀ ad, A = some ad → ad.block < w.heap.size) (hn : n ≤ 1152921504606846976) :
    Calls Try.prog 33 #[.agg #[.int .i64 x0, .int .i64 x1, .int .i64 x2, .int .i64 x3], .int .i64 bad, .slice A n c] w fun e w' => ∃ M : Nat → Nat → Int, e = .returned (.agg (tab M)) ∧
      (∀ s, s < 4 → Agr s (x4 x0 x1 x2 x3 s) bad (fun q => M q s)) ∧ Below w.heap.size w w' := by
  obtain ⟨g, hg⟩ : ∃ g, w.heap.size = g := ⟨_, rfl⟩
  have HG := Lib.hid hg
  have HI := Lib.hid hi
  have HA := Lib.hid hA
  have HS : Hid (VecL w g x0 x1 x2 x3 bad A n c (.int .i64 0) ((((w.alloc (.cells #[.int .i64 x0, .int .i64 x1, .int .i64 x2, .int .i64 x3] 30)).alloc (.cells (tab fun _ _ => 0) 51)).alloc (.cells (tab fun _ _ => 0) 51)).alloc (.cells #[.slice A n c, .int .i64 0] 91))) :=
    ⟨0, 0, fun _ _ => 0, by omega, rfl, (((Blk.at_ _ _ _ _ hg.symm).alloc _).alloc _).alloc _, ((Blk.at_ _ _ _ _ (by simp [hg])).alloc _).alloc _, (Blk.at_ _ _ _ _ (by simp [hg])).alloc _, Blk.at_ _ _ _ _ (by simp [hg]), fun s hs => by omega,
      ((((Below.refl _ _).alloc (by omega) _).alloc (by simp; omega) _).alloc (by simp; omega) _).alloc (by simp; omega) _⟩
  unfold tab at HS
  clear hg hi hA
  go_enter Try.func33, Try.ntmps33
  go_wp2_with fail
  rw [HG.out]
  go_loopw [13] (fun i wr => VecL w g x0 x1 x2 x3 bad A n c i wr) (fun i _ => 4 - (intOf i).toNat)
  case atStart => exact HS.out
  case round =>
    clear HS
    obtain ⟨k, p, M, hk, rfl, hX, hR, hO, hL, hM, hB⟩ := hrel
    by_cases hk4 : k < 4
    · have hxk : wr.cell? ⟨g, k, none⟩ = some (.int .i64 (x4 x0 x1 x2 x3 k)) := by
        rw [hX.cell k]
        match k, hk4 with
        | 0, _ => rfl
        | 1, _ => rfl
        | 2, _ => rfl
        | 3, _ => rfl
      have H1 := Lib.hid hX
      have H2 := Lib.hid hR
      have H3 := Lib.hid hO
      have H4 := Lib.hid hL
      have H5 := Lib.hid hM
      have H6 := Lib.hid hB
      clear hX hR hO hL hM hB
      obtain ⟨y, hy⟩ : ∃ y, x4 x0 x1 x2 x3 k = y := ⟨_, rfl⟩
      rw [hy] at hxk
      have HY := Lib.hid hy
      clear hy
      go_wp2_with fail
      refine (one_any k hk4 y bad (g + 1 + 1) (g + 1 + 1 + 1) (g + 1 + 1) _ A n c p zs wr H3.out H4.out (HI.out.below H6.out (fun ad e => by have := HA.out ad e; have := HG.out; omega)) (by omega) (by omega) (fun ad e => by have := HA.out ad e; have := HG.out; omega) hn).mono ?_
      rintro e w1 ⟨O, p', rfl, hag, hO1, hL1, hB1⟩
      have K1 := Lib.hid hag
      have K2 := Lib.hid hO1
      have K3 := Lib.hid hL1
      have K4 := Lib.hid hB1
      clear hag hO1 hL1 hB1
      go_wp2_with fail
      go_roundw
      case rel =>
        refine ⟨k + 1, p', fun q s => if s = k then O q else M q s, by omega, by go_num, H1.out.below K4.out (by omega), H2.out.below K4.out (by omega), ?_, K3.out, fun s hs => ?_, H6.out.trans (K4.out.mono (by omega))⟩
        · rw [AN_congr (g := fun i => if i % 4 = k then .int .i64 (O (i / 4)) else .int .i64 (M (i / 4) (i % 4))) (fun i _ => by simp only []; split <;> rfl)]
          exact K2.out
        · by_cases e : s = k
          · subst e
            simp only [if_true]
            rw [HY.out]
            exact K1.out
          · simp only [if_neg e]
            exact H5.out s (by omega)
      case measure => simp [intOf]; omega
    · obtain rfl : k = 4 := by omega
      rw [tab_eq] at hO
      have hT : Hid (∀ s, s < 4 → Agr s (x4 x0 x1 x2 x3 s) bad (fun q => M q s)) := Lib.hid hM
      have HB := Lib.hid hB
      have HO := Lib.hid hO
      have HR := Lib.hid hR
      clear hM hB hX hL hR hO
      go_wp2_with (first
        | (refine wpList_load_row rfl 51 (.tmp 7) rfl (g + 1 + 1) rfl _ (tab M) (0, 0) _ HO.out Try.underlying51 rfl (by kernel_rfl) ?_)
        | (refine wpList_store_blk rfl 51 (.tmp 6) (.tmp 24) rfl (g + 1) _ _ (tab M) rfl rfl HR.out rfl (by kernel_rfl) (tab_one M) ?_; intro w2 hR2 hg2))
      refine bodyPost_ret (v := .agg (tab M)) (results_cell_row Try.results33 _ _ (g + 1) _ (tab M) (0, 0) _ rfl hR2 Try.underlying51 rfl (by kernel_rfl)) rfl ⟨M, rfl, hT.out, ?_⟩
      rw [HG.out]
      exact HB.out.grown hg2 (Nat.le_trans (by rw [HG.out]; exact Nat.le_refl _) HB.out.size) (fun j hj => by cases hj; omega)
end Go.Proofs.Ytllgjbjcdenchaa
