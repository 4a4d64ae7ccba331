/- fourwatchkeep.unit: the unit matrix. -/
import Derived.Test.YtnhklfdchfndjaaMatBad
set_option linter.unusedVariables false
namespace Go.Proofs.Ytnhklfdchfndjaa.Mt
open Go.RowKit Go.Proofs.Ytnhklfdchfndjaa Fx

def unitTo (n i : Nat) : Nat → Int := fun t => if t % n = t / n ∧ t / n < i then 4294967296 else 0
theorem unitTo_zero (n : Nat) : unitTo n 0 = fun _ => 0 := by funext t; simp [unitTo]
theorem unitTo_step {n i : Nat} (hi : i < n) : updI (unitTo n i) (i * n + i) 4294967296 = unitTo n (i + 1) := by
  funext t
  unfold updI
  by_cases h : t = i * n + i
  · subst h
    rw [if_pos rfl]
    unfold unitTo
    rw [mod_at hi, div_at hi, if_pos ⟨rfl, by omega⟩]
  · rw [if_neg h]
    unfold unitTo
    by_cases h2 : t % n = t / n ∧ t / n < i
    · rw [if_pos h2, if_pos ⟨h2.1, by omega⟩]
    · rw [if_neg h2, if_neg]
      rintro ⟨h3, h4⟩
      have h5 : t / n = i := by
        have := h2
        rcases Nat.lt_or_ge (t / n) i with h6 | h6
        · exact absurd ⟨h3, h6⟩ h2
        · omega
      have e := Nat.div_add_mod t n
      rw [h3, h5, Nat.mul_comm] at e
      omega
theorem unitTo_all (n : Nat) : tabN (n * n) (unitTo n n) = tabN (n * n) (unitF n) := by
  apply tabN_congr
  intro t ht
  have := div_lt ht
  unfold unitTo unitF
  by_cases h : t % n = t / n
  · rw [if_pos ⟨h, this⟩, if_pos h]
  · rw [if_neg (fun h2 => h h2.1), if_neg h]
theorem unitF_in (n t : Nat) : In (unitF n t) := by unfold unitF In; split <;> omega

/-- what stands while the unit matrix is made -/
def UFr (w0 W : World) (n : Nat) (F : Nat → Int) : Prop :=
  Blk W w0.heap.size 30 #[.int .i64 0, .slice none 0 0] ∧ Blk W (w0.heap.size + 1) 3 (tabN (n * n) F) ∧ Blk W (w0.heap.size + 1 + 1) 30 #[.int .i64 n, .slice (some ⟨w0.heap.size + 1, 0, none⟩) (n * n) (n * n)] ∧ Below w0.heap.size w0 W
def URel (w0 : World) (n : Nat) (iv : Value) (W : World) : Prop := ∃ i : Nat, i ≤ n ∧ iv = .int .i64 i ∧ UFr w0 W n (unitTo n i)

set_option maxRecDepth 100000 in
set_option maxHeartbeats 2000000 in
theorem unit_any (n : Nat) (h1 : 1 ≤ n) (h6 : n ≤ 6) (w : World) :
    Calls Try.prog 34 #[.int .i64 n] w fun e w' => ∃ g, e = .returned (matV n g) ∧ NewMat w w' n g (unitF n) := by
  obtain ⟨i0, hi, hz0, hz1, hz2⟩ : ∃ i, Try.prog.info? 3 = some i ∧ i.zero = some (.int .i64 0) ∧ i.size = 1 ∧ i.bytes = 8 := by
    have := infoInt
    cases he : Try.prog.info? 3 with
    | none => rw [he] at this; cases this
    | some i => rw [he] at this; simp at this; exact ⟨i, rfl, this.1, this.2.1, this.2.2⟩
  have hp : n * n ≤ 36 := Nat.le_trans (Nat.mul_le_mul h6 h6) (by omega)
  have hq1 : (0 : Int) ≤ (n : Int) * (n : Int) := by exact_mod_cast Nat.zero_le (n * n)
  have hq2 : (n : Int) * (n : Int) ≤ 36 := by exact_mod_cast hp
  go_enter Try.func34, Try.ntmps34
  go_wp2_with (refine wpList_make_ints rfl (.tmp 8) (.tmp 8) 28 rfl 3 i0 Try.underlying28 hi hz0 hz1 hz2 _ (n * n) rfl rfl (by rfl) (by omega) ?_)
  have hU : UFr w (((w.alloc (.cells #[.int .i64 0, .slice none 0 0] 30)).alloc (.cells (tabN (n * n) fun _ => 0) 3)).alloc (.cells #[.int .i64 n, .slice (some ⟨w.heap.size + 1, 0, none⟩) (n * n) (n * n)] 30)) n (unitTo n 0) := by
    rw [unitTo_zero]
    exact ⟨((Blk.new _ _ _).alloc _).alloc _, (Blk.at_ _ _ _ _ (by simp)).alloc _, Blk.at_ _ _ _ _ (by simp), (((Below.refl _ _).alloc (Nat.le_refl _) _).alloc (by simp) _).alloc (by simp; omega) _⟩
  have HU := Lib.hid hU
  clear hU
  go_loopw [4] (fun i wr => URel w n i wr) (fun i _ => n - (intOf i).toNat)
  case atStart => exact ⟨0, by omega, rfl, HU.out⟩
  case round =>
    clear HU
    obtain ⟨i, hi, rfl, hU⟩ := hrel
    have c0 := hU.2.2.1.cell 0
    have c1 := hU.2.2.1.cell 1
    have c2 := hU.1.cell 0
    have c3 := hU.1.cell 1
    have f2 := hU.1.frozen 0
    have f3 := hU.1.frozen 1
    simp only [List.getElem?_toArray, List.getElem?_cons_zero, List.getElem?_cons_succ] at c0 c1 c2 c3
    by_cases hin : i < n
    · have hlt := idx_lt hin hin
      have d0 := hU.2.1.cell (i * n + i)
      rw [tabN_get _ hlt] at d0
      have f0 := hU.2.1.frozen (i * n + i)
      have hq1 : (0 : Int) ≤ (i : Int) * (n : Int) := by exact_mod_cast Nat.zero_le (i * n)
      have hq2 : (i : Int) * (n : Int) ≤ 36 := by exact_mod_cast (show i * n ≤ 36 by omega)
      have hq3 : (i : Int) * (n : Int) + (i : Int) ≤ 36 := by exact_mod_cast (show i * n + i ≤ 36 by omega)
      have hq5 : (0 : Int) ≤ (i : Int) * (n : Int) + (i : Int) := by exact_mod_cast Nat.zero_le (i * n + i)
      have hq4 : (i : Int) * (n : Int) + (i : Int) < (n : Int) * (n : Int) := by exact_mod_cast hlt
      have e1 : ((i : Int) * (n : Int) + (i : Int)).toNat = i * n + i := by
        rw [show (i : Int) * (n : Int) + (i : Int) = ((i * n + i : Nat) : Int) by push_cast; rfl]; rfl
      have hst := unitTo_step hin
      have HST := Lib.hid hst
      have HU := Lib.hid hU
      clear hU hst
      go_wp2_with fail
      go_roundw
      case rel =>
        refine ⟨i + 1, by omega, by go_num, ?_⟩
        rw [← HST.out]
        refine ⟨HU.out.1.far (by simp) _, ?_, HU.out.2.2.1.far (by simp) _, HU.out.2.2.2.setCell (by simp) _⟩
        rw [← tabN_set _ hlt]
        exact HU.out.2.1.set_ _ _
      case measure => simp [intOf]; omega
    · obtain rfl : n = i := by omega
      have z1 := (hU.1.set_ 0 (.int .i64 n)).set_ 1 (.slice (some ⟨w.heap.size + 1, 0, none⟩) (n * n) (n * n))
      have z2 := hU.2.1
      rw [unitTo_all] at z2
      have Z1 := Lib.hid z1
      have Z2 := Lib.hid z2
      have Z3 := Lib.hid hU.2.2.2
      clear hU z1 z2
      go_wp2_with fail
      refine bodyPost_ret (v := matV n (w.heap.size + 1)) (results_cell_row Try.results34 _ _ w.heap.size _ _ (0, 0) _ rfl Z1.out Try.underlying30 rfl (by kernel_rfl)) rfl ⟨w.heap.size + 1, rfl, by omega, ?_, ?_⟩
      · exact (Z2.out.far (by simp) _).far (by simp) _
      · exact (Z3.out.setCell (by simp) _).setCell (by simp) _
end Go.Proofs.Ytnhklfdchfndjaa.Mt
