/- The contracts of member.stay and wait. -/
import Derived.Test.YtllgjbjcdenchaaMember
import Derived.Deep.RegionWith
set_option linter.unusedVariables false
namespace Go.Proofs.Ytllgjbjcdenchaa
open Go.RowKit Mb

theorem grown_drew (w : World) (row : Option Nat) : w.grownBy w.drew row := grown_below (Below.refl _ _).drew

set_option maxRecDepth 100000 in
set_option maxHeartbeats 4000000 in
theorem stay_any (R : Rl) (g i : Nat) (a : Bool) (w : World) (h : RB w g R) (hi : i < 4) (h0 : 0 ≤ R.miss i) (h2 : R.miss i ≤ 2) :
    Calls Try.prog 54 #[.pointer (some ⟨g, 0, none⟩), .int .i64 (i : Nat), .bool a] w fun e w' => e = .returned (.bool (stay1 R i a).2) ∧ RB w' g (stay1 R i a).1 ∧ w.grownBy w' (some g) := by
  have cm := h.miss hi
  have cf := h.free (4 + i)
  have z0 : (0 : Int) ≤ (i : Int) := by omega
  have z1 : (i : Int) < 4 := by omega
  cases a with
  | true =>
    have hs := h.setMiss hi 0
    have HS := Lib.hid hs
    clear hs h
    go_enter Try.func54, Try.ntmps54
    go_wp2_with fail
    go_ret
    exact ⟨rfl, HS.out, grown_set _ _ _ _⟩
  | false =>
    have hs := (h.setMiss hi (R.miss i + 1)).drewN 1
    have hg0 := grown_trans (grown_set w g (4 + i) (.int .i64 (R.miss i + 1))) (grown_drew _ _)
    have cm1 := RB.miss hs hi
    have cf1 := hs.free (4 + i)
    have HG := Lib.hid hg0
    have HS := Lib.hid hs
    have hm : upd R.miss i (R.miss i + 1) i = R.miss i + 1 := by unfold upd; rw [if_pos rfl]
    simp only [hm] at cm1
    have hst : stay1 R i false = if R.miss i + 1 < 2 ∨ cntIn R 4 ≤ 2 then (⟨R.inn, upd R.miss i (min (R.miss i + 1) 2), R.join⟩, false) else (⟨upd R.inn i false, upd R.miss i 0, upd R.join i 0⟩, true) := rfl
    have huu : ∀ x y, upd (upd R.miss i x) i y = upd R.miss i y := by intro x y; funext j; unfold upd; split <;> rfl
    have HST := Lib.hid hst
    have HUU := Lib.hid huu
    generalize R.miss i = m at *
    clear hs hg0 h hm hst huu
    go_enter Try.func54, Try.ntmps54
    go_wp2_with fail
    go_region
    generalize hW1 : (w.setCell ⟨g, 4 + i, none⟩ (.int .i64 (m + 1))).drew = W1
    have HS1 : Hid (RB W1 g ⟨R.inn, upd R.miss i (m + 1), R.join⟩) := by rw [← hW1]; exact HS
    have HG1 : Hid (w.grownBy W1 (some g)) := by rw [← hW1]; exact HG
    have cm2 : W1.cell? ⟨g, 4 + i, none⟩ = some (.int .i64 (m + 1)) := by rw [← hW1]; exact cm1
    have cf2 : W1.frozen? ⟨g, 4 + i, none⟩ = false := by rw [← hW1]; exact cf1
    clear cm cf cm1 cf1 HS HG hW1
    by_cases h1 : m + 1 < 2
    · have hmin : min (m + 1) 2 = m + 1 := by omega
      have HM := Lib.hid hmin
      clear hmin
      go_wp2_with fail
      go_region
      all_goals (go_wp2_with fail; go_ret)
      rw [HST.out, if_pos (.inl h1), HM.out]
      have hf := HS1.out.setMiss hi (m + 1)
      simp only [HUU.out] at hf
      exact ⟨rfl, hf.drewN 1, grown_trans HG1.out (grown_trans (grown_set W1 g (4 + i) _) (grown_drew _ _))⟩
    · have hm2 : decide (m + 1 < 2) = false := by simpa using h1
      have k1 := fun W => count_any ⟨R.inn, upd R.miss i (m + 1), R.join⟩ W
      have hc : cntIn ⟨R.inn, upd R.miss i (m + 1), R.join⟩ 4 = cntIn R 4 := rfl
      rw [hc] at k1
      have K1 := Lib.hid k1
      have hcl := cntIn_le R 4
      clear k1 hc
      generalize cntIn R 4 = c at *
      by_cases hc2 : c ≤ 2
      · have hcm : ∃ n : Int, n = min (m + 1) 2 ∧ (n = 2) := ⟨2, by omega, rfl⟩
        have HM : Hid (min (m + 1) 2 = 2) := by have h : min (m + 1) 2 = 2 := (by omega); exact Lib.hid h
        clear hcm
        go_wp2_with (first | (refine wpList_load_roww rfl 56 (.tmp 32) rfl g rfl _ _ _ HS1.out Try.underlying56 rfl (by kernel_rfl) ?_) | (go_at_call 39; (with_reducible refine (K1.out _).mono ?_); rintro e w2 ⟨rfl, hB2⟩; have HS2 := Lib.hid (HS1.out.next hB2); have HG2 := Lib.hid (grown_trans HG1.out (grown_below (row := some g) hB2)); clear hB2; have cm3 := HS2.out.miss hi; have cf3 := HS2.out.free (4 + i); (simp only [upd, if_true] at cm3)))
        have hv : (if 2 < m + 1 then (2 : Int) else m + 1) = 2 := by split <;> omega
        have HV := Lib.hid hv
        clear hv
        go_region
        rw [HV.out]
        go_wp2_with fail
        go_ret
        rw [HST.out, if_pos (.inr hc2), HM.out]
        have hf := HS2.out.setMiss hi 2
        simp only [HUU.out] at hf
        exact ⟨rfl, hf.drewN 1, grown_trans HG2.out (grown_trans (grown_set w2 g (4 + i) _) (grown_drew _ _))⟩
      · have hc3 : ¬ (m + 1 < 2 ∨ c ≤ 2) := by omega
        have HC3 := Lib.hid hc3
        clear hc3
        go_wp2_with (first | (refine wpList_load_roww rfl 56 (.tmp 32) rfl g rfl _ _ _ HS1.out Try.underlying56 rfl (by kernel_rfl) ?_) | (go_at_call 39; (with_reducible refine (K1.out _).mono ?_); rintro e w2 ⟨rfl, hB2⟩; have HS2 := Lib.hid (HS1.out.next hB2); have HG2 := Lib.hid (grown_trans HG1.out (grown_below (row := some g) hB2)); clear hB2; have cm3 := HS2.out.miss hi; have cf3 := HS2.out.free (4 + i); (simp only [upd, if_true] at cm3)))
        have ci := HS2.out.inn hi
        have cj := HS2.out.join hi
        have fi := HS2.out.free i
        have fj := HS2.out.free (8 + i)
        go_region
        go_wp2_with fail
        go_ret
        rw [HST.out, if_neg HC3.out]
        have hf := ((HS2.out.setInn hi false).setMiss hi 0).setJoin hi 0
        simp only [HUU.out] at hf
        exact ⟨rfl, hf.drewN 1, grown_trans HG2.out (grown_trans (grown_trans (grown_trans (grown_set w2 g i _) (grown_set _ g (4 + i) _)) (grown_set _ g (8 + i) _)) (grown_drew _ _))⟩

set_option maxRecDepth 100000 in
set_option maxHeartbeats 4000000 in
theorem wait_any (R : Rl) (g i : Nat) (a : Bool) (w : World) (h : RB w g R) (hi : i < 4) (h0 : 0 ≤ R.join i) (h2 : R.join i < 3) :
    Calls Try.prog 55 #[.pointer (some ⟨g, 0, none⟩), .int .i64 (i : Nat), .bool a] w fun e w' => e = .returned (.bool (wait1 R i a).2) ∧ RB w' g (wait1 R i a).1 ∧ w.grownBy w' (some g) := by
  have cj := h.join hi
  have cf := h.free (8 + i)
  have z0 : (0 : Int) ≤ (i : Int) := by omega
  have z1 : (i : Int) < 4 := by omega
  cases a with
  | false =>
    have hs := h.setJoin hi 0
    have HS := Lib.hid hs
    clear hs h
    go_enter Try.func55, Try.ntmps55
    go_wp2_with fail
    go_ret
    exact ⟨rfl, HS.out, grown_set _ _ _ _⟩
  | true =>
    have hs := (h.setJoin hi (R.join i + 1)).drewN 1
    have hg0 := grown_trans (grown_set w g (8 + i) (.int .i64 (R.join i + 1))) (grown_drew _ _)
    have cj1 := RB.join hs hi
    have cf1 := hs.free (8 + i)
    have HG := Lib.hid hg0
    have HS := Lib.hid hs
    have hm : upd R.join i (R.join i + 1) i = R.join i + 1 := by unfold upd; rw [if_pos rfl]
    simp only [hm] at cj1
    have hst : wait1 R i true = if R.join i + 1 < 3 then (⟨R.inn, R.miss, upd R.join i (R.join i + 1)⟩, false) else (⟨upd R.inn i true, upd R.miss i 0, upd R.join i 0⟩, true) := rfl
    have huu : ∀ x y, upd (upd R.join i x) i y = upd R.join i y := by intro x y; funext j; unfold upd; split <;> rfl
    have HST := Lib.hid hst
    have HUU := Lib.hid huu
    generalize R.join i = m at *
    clear hs hg0 h hm hst huu
    go_enter Try.func55, Try.ntmps55
    go_wp2_with fail
    go_region
    generalize hW1 : (w.setCell ⟨g, 8 + i, none⟩ (.int .i64 (m + 1))).drew = W1
    have HS1 : Hid (RB W1 g ⟨R.inn, R.miss, upd R.join i (m + 1)⟩) := by rw [← hW1]; exact HS
    have HG1 : Hid (w.grownBy W1 (some g)) := by rw [← hW1]; exact HG
    have cj2 : W1.cell? ⟨g, 8 + i, none⟩ = some (.int .i64 (m + 1)) := by rw [← hW1]; exact cj1
    have cf2 : W1.frozen? ⟨g, 8 + i, none⟩ = false := by rw [← hW1]; exact cf1
    clear cj cf cj1 cf1 HS HG hW1
    by_cases h1 : m + 1 < 3
    · go_wp2_with fail
      go_ret
      rw [HST.out, if_pos h1]
      exact ⟨rfl, HS1.out, HG1.out⟩
    · have cm := HS1.out.miss hi
      have ci := HS1.out.inn hi
      have fi := HS1.out.free i
      have fm := HS1.out.free (4 + i)
      go_wp2_with fail
      go_region
      go_wp2_with fail
      go_ret
      rw [HST.out, if_neg (by omega)]
      have hf := ((HS1.out.setInn hi true).setMiss hi 0).setJoin hi 0
      simp only [HUU.out] at hf
      exact ⟨rfl, hf.drewN 1, grown_trans HG1.out (grown_trans (grown_trans (grown_trans (grown_set W1 g i _) (grown_set _ g (4 + i) _)) (grown_set _ g (8 + i) _)) (grown_drew _ _))⟩
end Go.Proofs.Ytllgjbjcdenchaa
