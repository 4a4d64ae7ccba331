/- Merged: Member2 MemPlain MemStep MemBad. -/
import Derived.Deep.RegionWith
import Derived.Test.YtofeoeknmlkjgaaZ07
set_option linter.unusedVariables false
set_option linter.unusedSimpArgs false
section
/- The contracts of member.stay and wait. -/
set_option linter.unusedVariables false
namespace Go.Proofs.Ytofeoeknmlkjgaa
open Go.RowKit Mb

theorem grown_drew (w : World) (row : Option Nat) : w.grownBy w.drew row := grown_below (Below.refl _ _).drew

set_option maxRecDepth 100000 in
set_option maxHeartbeats 4000000 in
theorem stay_any (R : Rl) (g i : Nat) (a : Bool) (w : World) (h : RB w g R) (hi : i < 4) (h0 : 0 ≤ R.miss i) (h2 : R.miss i ≤ 2) :
    Calls Try.prog 60 #[.pointer (some ⟨g, 0, none⟩), .int .i64 (i : Nat), .bool a] w fun e w' => e = .returned (.bool (stay1 R i a).2) ∧ RB w' g (stay1 R i a).1 ∧ w.grownBy w' (some g) := by
  have cm := h.miss hi
  have cf := h.free (4 + i)
  have z0 : (0 : Int) ≤ (i : Int) := by omega
  have z1 : (i : Int) < 4 := by omega
  cases a with
  | true =>
    have hs := h.setMiss hi 0
    have HS := Lib.hid hs
    clear hs h
    go_enter Try.func60, Try.ntmps60
    go_wp2_with fail
    go_ret
    exact ⟨rfl, HS.out, grown_set _ _ _ _⟩
  | false =>
    have hs := (h.setMiss hi (R.miss i + 1)).drewN 1
    have hg0 := grown_trans (grown_set w g (4 + i) (.int .i64 (R.miss i + 1))) (grown_drew _ _)
    have cm1 := RB.miss hs hi
    have cf1 := hs.free (4 + i)
    have HG := Lib.hid hg0
    have HS := Lib.hid hs
    have hm : upd R.miss i (R.miss i + 1) i = R.miss i + 1 := by unfold upd; rw [if_pos rfl]
    simp only [hm] at cm1
    have hst : stay1 R i false = if R.miss i + 1 < 2 ∨ cntIn R 4 ≤ 2 then (⟨R.inn, upd R.miss i (min (R.miss i + 1) 2), R.join⟩, false) else (⟨upd R.inn i false, upd R.miss i 0, upd R.join i 0⟩, true) := rfl
    have huu : ∀ x y, upd (upd R.miss i x) i y = upd R.miss i y := by intro x y; funext j; unfold upd; split <;> rfl
    have HST := Lib.hid hst
    have HUU := Lib.hid huu
    generalize R.miss i = m at *
    clear hs hg0 h hm hst huu
    go_enter Try.func60, Try.ntmps60
    go_wp2_with fail
    go_region
    generalize hW1 : (w.setCell ⟨g, 4 + i, none⟩ (.int .i64 (m + 1))).drew = W1
    have HS1 : Hid (RB W1 g ⟨R.inn, upd R.miss i (m + 1), R.join⟩) := by rw [← hW1]; exact HS
    have HG1 : Hid (w.grownBy W1 (some g)) := by rw [← hW1]; exact HG
    have cm2 : W1.cell? ⟨g, 4 + i, none⟩ = some (.int .i64 (m + 1)) := by rw [← hW1]; exact cm1
    have cf2 : W1.frozen? ⟨g, 4 + i, none⟩ = false := by rw [← hW1]; exact cf1
    clear cm cf cm1 cf1 HS HG hW1
    by_cases h1 : m + 1 < 2
    · have hmin : min (m + 1) 2 = m + 1 := by omega
      have HM := Lib.hid hmin
      clear hmin
      go_wp2_with fail
      go_region
      all_goals (go_wp2_with fail; go_ret)
      rw [HST.out, if_pos (.inl h1), HM.out]
      have hf := HS1.out.setMiss hi (m + 1)
      simp only [HUU.out] at hf
      exact ⟨rfl, hf.drewN 1, grown_trans HG1.out (grown_trans (grown_set W1 g (4 + i) _) (grown_drew _ _))⟩
    · have hm2 : decide (m + 1 < 2) = false := by simpa using h1
      have k1 := fun W => count_any ⟨R.inn, upd R.miss i (m + 1), R.join⟩ W
      have hc : cntIn ⟨R.inn, upd R.miss i (m + 1), R.join⟩ 4 = cntIn R 4 := rfl
      rw [hc] at k1
      have K1 := Lib.hid k1
      have hcl := cntIn_le R 4
      clear k1 hc
      generalize cntIn R 4 = c at *
      by_cases hc2 : c ≤ 2
      · have hcm : ∃ n : Int, n = min (m + 1) 2 ∧ (n = 2) := ⟨2, by omega, rfl⟩
        have HM : Hid (min (m + 1) 2 = 2) := by have h : min (m + 1) 2 = 2 := (by omega); exact Lib.hid h
        clear hcm
        go_wp2_with (first | (refine wpList_load_roww rfl 38 (.tmp 32) rfl g rfl _ _ _ HS1.out Try.underlying38 rfl (by kernel_rfl) ?_) | (go_at_call 74; (with_reducible refine (K1.out _).mono ?_); rintro e w2 ⟨rfl, hB2⟩; have HS2 := Lib.hid (HS1.out.next hB2); have HG2 := Lib.hid (grown_trans HG1.out (grown_below (row := some g) hB2)); clear hB2; have cm3 := HS2.out.miss hi; have cf3 := HS2.out.free (4 + i); (simp only [upd, if_true] at cm3)))
        have hv : (if 2 < m + 1 then (2 : Int) else m + 1) = 2 := by split <;> omega
        have HV := Lib.hid hv
        clear hv
        go_region
        rw [HV.out]
        go_wp2_with fail
        go_ret
        rw [HST.out, if_pos (.inr hc2), HM.out]
        have hf := HS2.out.setMiss hi 2
        simp only [HUU.out] at hf
        exact ⟨rfl, hf.drewN 1, grown_trans HG2.out (grown_trans (grown_set w2 g (4 + i) _) (grown_drew _ _))⟩
      · have hc3 : ¬ (m + 1 < 2 ∨ c ≤ 2) := by omega
        have HC3 := Lib.hid hc3
        clear hc3
        go_wp2_with (first | (refine wpList_load_roww rfl 38 (.tmp 32) rfl g rfl _ _ _ HS1.out Try.underlying38 rfl (by kernel_rfl) ?_) | (go_at_call 74; (with_reducible refine (K1.out _).mono ?_); rintro e w2 ⟨rfl, hB2⟩; have HS2 := Lib.hid (HS1.out.next hB2); have HG2 := Lib.hid (grown_trans HG1.out (grown_below (row := some g) hB2)); clear hB2; have cm3 := HS2.out.miss hi; have cf3 := HS2.out.free (4 + i); (simp only [upd, if_true] at cm3)))
        have ci := HS2.out.inn hi
        have cj := HS2.out.join hi
        have fi := HS2.out.free i
        have fj := HS2.out.free (8 + i)
        go_region
        go_wp2_with fail
        go_ret
        rw [HST.out, if_neg HC3.out]
        have hf := ((HS2.out.setInn hi false).setMiss hi 0).setJoin hi 0
        simp only [HUU.out] at hf
        exact ⟨rfl, hf.drewN 1, grown_trans HG2.out (grown_trans (grown_trans (grown_trans (grown_set w2 g i _) (grown_set _ g (4 + i) _)) (grown_set _ g (8 + i) _)) (grown_drew _ _))⟩

set_option maxRecDepth 100000 in
set_option maxHeartbeats 4000000 in
theorem wait_any (R : Rl) (g i : Nat) (a : Bool) (w : World) (h : RB w g R) (hi : i < 4) (h0 : 0 ≤ R.join i) (h2 : R.join i < 3) :
    Calls Try.prog 61 #[.pointer (some ⟨g, 0, none⟩), .int .i64 (i : Nat), .bool a] w fun e w' => e = .returned (.bool (wait1 R i a).2) ∧ RB w' g (wait1 R i a).1 ∧ w.grownBy w' (some g) := by
  have cj := h.join hi
  have cf := h.free (8 + i)
  have z0 : (0 : Int) ≤ (i : Int) := by omega
  have z1 : (i : Int) < 4 := by omega
  cases a with
  | false =>
    have hs := h.setJoin hi 0
    have HS := Lib.hid hs
    clear hs h
    go_enter Try.func61, Try.ntmps61
    go_wp2_with fail
    go_ret
    exact ⟨rfl, HS.out, grown_set _ _ _ _⟩
  | true =>
    have hs := (h.setJoin hi (R.join i + 1)).drewN 1
    have hg0 := grown_trans (grown_set w g (8 + i) (.int .i64 (R.join i + 1))) (grown_drew _ _)
    have cj1 := RB.join hs hi
    have cf1 := hs.free (8 + i)
    have HG := Lib.hid hg0
    have HS := Lib.hid hs
    have hm : upd R.join i (R.join i + 1) i = R.join i + 1 := by unfold upd; rw [if_pos rfl]
    simp only [hm] at cj1
    have hst : wait1 R i true = if R.join i + 1 < 3 then (⟨R.inn, R.miss, upd R.join i (R.join i + 1)⟩, false) else (⟨upd R.inn i true, upd R.miss i 0, upd R.join i 0⟩, true) := rfl
    have huu : ∀ x y, upd (upd R.join i x) i y = upd R.join i y := by intro x y; funext j; unfold upd; split <;> rfl
    have HST := Lib.hid hst
    have HUU := Lib.hid huu
    generalize R.join i = m at *
    clear hs hg0 h hm hst huu
    go_enter Try.func61, Try.ntmps61
    go_wp2_with fail
    go_region
    generalize hW1 : (w.setCell ⟨g, 8 + i, none⟩ (.int .i64 (m + 1))).drew = W1
    have HS1 : Hid (RB W1 g ⟨R.inn, R.miss, upd R.join i (m + 1)⟩) := by rw [← hW1]; exact HS
    have HG1 : Hid (w.grownBy W1 (some g)) := by rw [← hW1]; exact HG
    have cj2 : W1.cell? ⟨g, 8 + i, none⟩ = some (.int .i64 (m + 1)) := by rw [← hW1]; exact cj1
    have cf2 : W1.frozen? ⟨g, 8 + i, none⟩ = false := by rw [← hW1]; exact cf1
    clear cj cf cj1 cf1 HS HG hW1
    by_cases h1 : m + 1 < 3
    · go_wp2_with fail
      go_ret
      rw [HST.out, if_pos h1]
      exact ⟨rfl, HS1.out, HG1.out⟩
    · have cm := HS1.out.miss hi
      have ci := HS1.out.inn hi
      have fi := HS1.out.free i
      have fm := HS1.out.free (4 + i)
      go_wp2_with fail
      go_region
      go_wp2_with fail
      go_ret
      rw [HST.out, if_neg (by omega)]
      have hf := ((HS1.out.setInn hi true).setMiss hi 0).setJoin hi 0
      simp only [HUU.out] at hf
      exact ⟨rfl, hf.drewN 1, grown_trans HG1.out (grown_trans (grown_trans (grown_trans (grown_set W1 g i _) (grown_set _ g (4 + i) _)) (grown_set _ g (8 + i) _)) (grown_drew _ _))⟩
end Go.Proofs.Ytofeoeknmlkjgaa
end
section
/- A step of the roll, in plain Lean. -/
set_option linter.unusedVariables false
namespace Go.Proofs.Ytofeoeknmlkjgaa.Mb
open Go.RowKit

def stepTo (R : Rl) (A : Nat → Bool) : Nat → Rl × List (Int × Int)
  | 0 => (R, [])
  | k + 1 =>
    if (stepTo R A k).1.inn k = true then
      ((stay1 (stepTo R A k).1 k (A k)).1, if (stay1 (stepTo R A k).1 k (A k)).2 = true then (stepTo R A k).2 ++ [(1, (k : Int))] else (stepTo R A k).2)
    else
      ((wait1 (stepTo R A k).1 k (A k)).1, if (wait1 (stepTo R A k).1 k (A k)).2 = true then (stepTo R A k).2 ++ [(2, (k : Int))] else (stepTo R A k).2)
theorem upd_same {α : Type} (f : Nat → α) (k : Nat) (x : α) : upd f k x k = x := by unfold upd; rw [if_pos rfl]
theorem upd_far {α : Type} (f : Nat → α) {k j : Nat} (x : α) (h : j ≠ k) : upd f k x j = f j := by unfold upd; rw [if_neg h]
theorem good_upd {R R' : Rl} {k : Nat} (h : Good R) (hk : good1 R' k) (hf : ∀ j, j ≠ k → R'.inn j = R.inn j ∧ R'.miss j = R.miss j ∧ R'.join j = R.join j) : Good R' := by
  intro j hj
  by_cases e : j = k
  · subst e; exact hk
  · obtain ⟨a, b, c⟩ := hf j e
    have := h j hj
    unfold good1 at this ⊢
    rw [a, b, c]
    exact this
theorem stay_good {R : Rl} {k : Nat} {a : Bool} (h : Good R) (hk : k < 4) (hi : R.inn k = true) : Good (stay1 R k a).1 := by
  obtain ⟨q0, q1, q2, q3, q4, q5⟩ := h k hk
  have qj := q4 hi
  unfold stay1
  by_cases ha : a = true
  · rw [if_pos ha]
    refine good_upd h ?_ (fun j hj => ⟨rfl, upd_far _ _ hj, rfl⟩)
    unfold good1
    simp only [upd_same, hi]
    refine ⟨?_, ?_, ?_, ?_, ?_, ?_⟩ <;> (try intro _) <;> first | omega | rfl | (simp_all; done)
  · rw [if_neg ha]
    by_cases hc : R.miss k + 1 < 2 ∨ cntIn R 4 ≤ 2
    · rw [if_pos hc]
      refine good_upd h ?_ (fun j hj => ⟨rfl, upd_far _ _ hj, rfl⟩)
      unfold good1
      simp only [upd_same, hi]
      refine ⟨?_, ?_, ?_, ?_, ?_, ?_⟩ <;> (try intro _) <;> first | omega | rfl | (simp_all; done)
    · rw [if_neg hc]
      refine good_upd h ?_ (fun j hj => ⟨upd_far _ _ hj, upd_far _ _ hj, upd_far _ _ hj⟩)
      unfold good1
      simp only [upd_same]
      refine ⟨?_, ?_, ?_, ?_, ?_, ?_⟩ <;> (try intro _) <;> first | omega | rfl | (simp_all; done)
theorem wait_good {R : Rl} {k : Nat} {a : Bool} (h : Good R) (hk : k < 4) (hi : R.inn k = false) : Good (wait1 R k a).1 := by
  obtain ⟨q0, q1, q2, q3, q4, q5⟩ := h k hk
  have qm := q5 hi
  unfold wait1
  by_cases ha : a = false
  · rw [if_pos ha]
    refine good_upd h ?_ (fun j hj => ⟨rfl, rfl, upd_far _ _ hj⟩)
    unfold good1
    simp only [upd_same, hi]
    refine ⟨?_, ?_, ?_, ?_, ?_, ?_⟩ <;> (try intro _) <;> first | omega | rfl | (simp_all; done)
  · rw [if_neg ha]
    by_cases hc : R.join k + 1 < 3
    · rw [if_pos hc]
      refine good_upd h ?_ (fun j hj => ⟨rfl, rfl, upd_far _ _ hj⟩)
      unfold good1
      simp only [upd_same, hi]
      refine ⟨?_, ?_, ?_, ?_, ?_, ?_⟩ <;> (try intro _) <;> first | omega | rfl | (simp_all; done)
    · rw [if_neg hc]
      refine good_upd h ?_ (fun j hj => ⟨upd_far _ _ hj, upd_far _ _ hj, upd_far _ _ hj⟩)
      unfold good1
      simp only [upd_same]
      refine ⟨?_, ?_, ?_, ?_, ?_, ?_⟩ <;> (try intro _) <;> first | omega | rfl | (simp_all; done)
theorem step_good {R : Rl} {A : Nat → Bool} (h : Good R) : ∀ k, k ≤ 4 → Good (stepTo R A k).1
  | 0, _ => h
  | k + 1, hk => by
    have ih := step_good (A := A) h k (by omega)
    unfold stepTo
    by_cases hi : (stepTo R A k).1.inn k = true
    · rw [if_pos hi]; exact stay_good ih (by omega) hi
    · rw [if_neg hi]; exact wait_good ih (by omega) (by simpa using hi)
theorem step_len {R : Rl} {A : Nat → Bool} : ∀ k, (stepTo R A k).2.length ≤ k
  | 0 => Nat.le_refl _
  | k + 1 => by
    have ih := step_len (R := R) (A := A) k
    unfold stepTo
    by_cases hi : (stepTo R A k).1.inn k = true
    · rw [if_pos hi]; simp only []; split <;> simp <;> omega
    · rw [if_neg hi]; simp only []; split <;> simp <;> omega
def stepAll (R : Rl) (A : Nat → Bool) (st : Bool) : Rl × List (Int × Int) := if st = true then stepTo R A 4 else (R, [])
def chC (l : List (Int × Int)) : List Value := l.flatMap fun p => [.int .i64 p.1, .int .i64 p.2]
theorem chC_snoc (l : List (Int × Int)) (p : Int × Int) : chC (l ++ [p]) = chC l ++ [.int .i64 p.1, .int .i64 p.2] := by
  unfold chC; rw [List.flatMap_append]; rfl
def R0 : Rl := ⟨fun _ => false, fun _ => 0, fun _ => 0⟩
end Go.Proofs.Ytofeoeknmlkjgaa.Mb
end
section
/- The contracts of member.Step, Begin. -/
set_option linter.unusedVariables false
namespace Go.Proofs.Ytofeoeknmlkjgaa
open Go.RowKit Mb

theorem infoChange : (Try.prog.info? 128).map (fun i => (i.zero, i.size, i.bytes)) = some (some (.agg #[.int .i64 0, .int .i64 0]), 2, 16) := by kernel_rfl
def StepPost (R : Rl) (A : Nat → Bool) (st : Bool) (w : World) (e : Ending) (w' : World) : Prop :=
  ∃ v, e = .returned (.tuple #[.agg (rollC (stepAll R A st).1), v, .int .i64 0]) ∧ w'.ownsRow w.heap.size 128 2 v (stepAll R A st).2.length (chC (stepAll R A st).2) ∧ Below w.heap.size w w'
def StepRel (w : World) (g : Nat) (R : Rl) (A : Nat → Bool) (s7 i : Value) (wr : World) : Prop :=
  ∃ (k : Nat) (v : Value), k ≤ 4 ∧ i = .int .i64 k ∧ s7 = v ∧ RB wr g (stepTo R A k).1 ∧ RB wr (g + 1 + 1) R0 ∧ wr.ownsRow g 128 2 v (stepTo R A k).2.length (chC (stepTo R A k).2) ∧ Below g w wr

theorem step_results {W : World} {g : Nat} {R : Rl} (h : RB W g R) (v : Value) (tmps : Array Value) (h4 : tmps.getD 4 undef = .pointer (some ⟨g, 0, none⟩)) (h5 : tmps.getD 5 undef = v) (h6 : tmps.getD 6 undef = .int .i64 0) :
    (results Try.f45 tmps).run Try.prog W = .ok (.tuple #[.agg (rollC R), v, .int .i64 0]) W := by
  have h4' : tmps[4]?.getD undef = .pointer (some ⟨g, 0, none⟩) := by simpa using h4
  have h5' : tmps[5]?.getD undef = v := by simpa using h5
  have h6' : tmps[6]?.getD undef = .int .i64 0 := by simpa using h6
  simp [results, Try.results45, h4', h5', h6', asAddr, run_loadVar_row (P := Try.prog) W g _ 38 (rollC R) (0, 0) _ h Try.underlying38 rfl (by kernel_rfl)]

set_option maxRecDepth 100000 in
set_option maxHeartbeats 4000000 in
theorem Step_any (R : Rl) (A : Nat → Bool) (vv : Int) (st : Bool) (b off c : Nat) (w : World) (hG : Mb.Good R) (hb : b < w.heap.size) (hA : ∀ j, j < 4 → w.cell? ⟨b, off + j, none⟩ = some (.bool (A j))) :
    Calls Try.prog 45 #[.agg (rollC R), .agg #[.int .i64 vv, .bool st, .slice (some ⟨b, off, none⟩) 4 c]] w (StepPost R A st w) := by
  have q0 : RB (((w.alloc (.cells (rollC R) 38)).alloc (.cells #[.int .i64 vv, .bool st, .slice (some ⟨b, off, none⟩) 4 c] 43)).alloc (.cells (rollC R0) 38)) w.heap.size R := ((Blk.at_ _ _ _ _ rfl).alloc _).alloc _
  have q2 : RB (((w.alloc (.cells (rollC R) 38)).alloc (.cells #[.int .i64 vv, .bool st, .slice (some ⟨b, off, none⟩) 4 c] 43)).alloc (.cells (rollC R0) 38)) (w.heap.size + 1 + 1) R0 := Blk.at_ _ _ _ _ (by simp)
  have q1 : Blk (((w.alloc (.cells (rollC R) 38)).alloc (.cells #[.int .i64 vv, .bool st, .slice (some ⟨b, off, none⟩) 4 c] 43)).alloc (.cells (rollC R0) 38)) (w.heap.size + 1) 43 #[.int .i64 vv, .bool st, .slice (some ⟨b, off, none⟩) 4 c] := (Blk.at_ _ _ _ _ (by simp)).alloc _
  have qB : Below w.heap.size w (((w.alloc (.cells (rollC R) 38)).alloc (.cells #[.int .i64 vv, .bool st, .slice (some ⟨b, off, none⟩) 4 c] 43)).alloc (.cells (rollC R0) 38)) := (((Below.refl _ _).alloc (by omega) _).alloc (by simp) _).alloc (by simp; omega) _
  have Q0 := Lib.hid q0
  have Q1 := Lib.hid q1
  have Q2 := Lib.hid q2
  have QB := Lib.hid qB
  have HGd := Lib.hid hG
  have HA := Lib.hid hA
  clear q0 q1 q2 qB hA hG
  go_enter Try.func45, Try.ntmps45
  have k1 := fun W => good_any R W
  have K1 := Lib.hid k1
  clear k1
  cases st with
  | false =>
    go_wp2_with (first
      | (refine wpList_load_roww rfl 38 (.tmp 2) rfl w.heap.size rfl _ (rollC R) _ Q0.out Try.underlying38 rfl (by kernel_rfl) ?_)
      | (go_at_call 14; (with_reducible refine (K1.out _).mono ?_); rintro e w1 ⟨gb, rfl, hgb, hB1⟩; obtain rfl : gb = true := hgb.2 HGd.out; have N0 := Lib.hid (RB.next Q0.out hB1); have N1 := Lib.hid (Blk.next Q1.out hB1); have N2 := Lib.hid (RB.next Q2.out hB1); have NB := Lib.hid (QB.out.trans (hB1.mono (Nat.le_trans (by simp; omega) (Nat.le_refl _)))); clear hB1 hgb; have d1 := N1.out.cell 1; have d2 := N1.out.cell 2; (simp only [List.getElem?_toArray, List.getElem?_cons_zero, List.getElem?_cons_succ] at d1 d2))
      | (refine wpList_load_roww rfl 38 (.tmp 2) rfl w.heap.size rfl _ (rollC R) _ N0.out Try.underlying38 rfl (by kernel_rfl) ?_)
      | (refine wpList_store_blk rfl 38 (.tmp 4) (.tmp 22) rfl (w.heap.size + 1 + 1) _ _ (rollC R) rfl rfl N2.out rfl (by kernel_rfl) (rollC_one R) ?_; intro w2 hR2 hg2))
    refine bodyPost_ret (v := .tuple #[.agg (rollC R), .slice none 0 0, .int .i64 0]) (step_results hR2 _ _ rfl rfl rfl) rfl ⟨_, rfl, World.ownsRow_nil _ _ _ _, ?_⟩
    exact NB.out.grown hg2 (by have := NB.out.size; omega) (fun j hj => by cases hj; omega)
  | true =>
    go_wp2_with (first
      | (refine wpList_load_roww rfl 38 (.tmp 2) rfl w.heap.size rfl _ (rollC R) _ Q0.out Try.underlying38 rfl (by kernel_rfl) ?_)
      | (go_at_call 14; (with_reducible refine (K1.out _).mono ?_); rintro e w1 ⟨gb, rfl, hgb, hB1⟩; obtain rfl : gb = true := hgb.2 HGd.out; have N0 := Lib.hid (RB.next Q0.out hB1); have N1 := Lib.hid (Blk.next Q1.out hB1); have N2 := Lib.hid (RB.next Q2.out hB1); have NB := Lib.hid (QB.out.trans (hB1.mono (Nat.le_trans (by simp; omega) (Nat.le_refl _)))); clear hB1 hgb; have d1 := N1.out.cell 1; have d2 := N1.out.cell 2; (simp only [List.getElem?_toArray, List.getElem?_cons_zero, List.getElem?_cons_succ] at d1 d2)))
    obtain ⟨i0, hi0, hz0, hz1, hz2⟩ := info_parts infoChange
    go_loopw [7, 26] (fun v i wr => StepRel w w.heap.size R A v i wr) (fun _ i _ => 4 - (intOf i).toNat)
    case atStart => exact ⟨0, _, by omega, rfl, rfl, N0.out, N2.out, World.ownsRow_nil _ _ _ _, NB.out⟩
    case round =>
      clear N0 N1 N2 NB d1 d2 Q0 Q1 Q2 QB K1
      obtain ⟨k, v, hk, rfl, hv, hR, hZ, hO, hB⟩ := hrel
      have hv2 := hv.symm
      clear hv
      subst hv2
      by_cases hk4 : k < 4
      · have hgP := step_good (A := A) HGd.out k hk
        have hL := step_len (R := R) (A := A) k
        have hca : wr.cell? ⟨b, off + k, none⟩ = some (.bool (A k)) := (hB.cell (p := ⟨b, off + k, none⟩) hb).trans (HA.out k hk4)
        have hst : stepTo R A (k + 1) = if (stepTo R A k).1.inn k = true then
            ((stay1 (stepTo R A k).1 k (A k)).1, if (stay1 (stepTo R A k).1 k (A k)).2 = true then (stepTo R A k).2 ++ [(1, (k : Int))] else (stepTo R A k).2)
          else ((wait1 (stepTo R A k).1 k (A k)).1, if (wait1 (stepTo R A k).1 k (A k)).2 = true then (stepTo R A k).2 ++ [(2, (k : Int))] else (stepTo R A k).2) := rfl
        generalize hP : (stepTo R A k).1 = P at *
        generalize hLl : (stepTo R A k).2 = l at *
        clear hP hLl
        have HGP := Lib.hid hgP
        clear hgP
        have hci := hR.inn hk4
        by_cases hin : P.inn k = true
        · rw [if_pos hin] at hst
          have HST := Lib.hid hst
          rw [hin] at hci
          have HIN := Lib.hid hin
          clear hst hin
          have HK := Lib.hid (stay_any P w.heap.size k (A k) wr hR hk4 (by have := HGP.out k hk4; unfold good1 at this; omega) (by have := HGP.out k hk4; unfold good1 at this; omega))
          generalize hs1 : (stay1 P k (A k)).1 = P1 at *
          generalize hs2 : (stay1 P k (A k)).2 = out at *
          have HR := Lib.hid hR
          have HZ := Lib.hid hZ
          have HO := Lib.hid hO
          have HB := Lib.hid hB
          have hwr := hB.size
          clear hs1 hs2 hR hZ hO hB
          cases out with
          | false =>
            go_wp2_with (first | (go_at_call 60; (with_reducible refine HK.out.mono ?_); rintro e w2 ⟨rfl, hR2, hg2⟩; have HR2 := Lib.hid hR2; have HG2 := Lib.hid hg2; clear hR2 hg2))
            go_roundw
            case rel =>
              refine ⟨k + 1, _, by omega, by go_num, rfl, ?_, (HZ.out.grown HG2.out (by simp; omega)), ?_, HB.out.grown HG2.out hwr (fun j hj => by cases hj; omega)⟩
              · rw [HST.out]; exact HR2.out
              · rw [HST.out]
                exact HO.out.kept HG2.out (.inr (fun e => own_blk_ne HO.out HR.out (by decide) e.symm))
            case measure => simp [intOf]; omega
          | true =>
            go_wp2_with (first | (go_at_call 60; (with_reducible refine HK.out.mono ?_); rintro e w2 ⟨rfl, hR2, hg2⟩; have HR2 := Lib.hid hR2; have HG2 := Lib.hid hg2; have hw2 := hg2.size; have HO2 := Lib.hid (HO.out.kept hg2 (.inr (fun e => own_blk_ne HO.out HR.out (by decide) e.symm))); clear hR2 hg2) | (at_builtin; go_loud (refine wpList_append_lies _ rfl _ _ 105 rfl w.heap.size 128 i0 (.agg #[.int .i64 0, .int .i64 0]) 2 16 Try.underlying105 hi0 hz0 hz1 hz2 rfl (by decide) v _ _ rfl (HO2.out.alloc _) ⟨w2.heap.size, 0, none⟩ 1 1 [.int .i64 1, .int .i64 (k : Nat)] rfl rfl (World.news_of_block (heap_alloc_new _ _)) (by intro u hu; simp at hu; rcases hu with rfl | rfl <;> rfl) (by decide) (by unfold maxLen; omega) (by omega) (by simp; omega) (w2.heap.size + 1) (by simp) ?_); intro g' cap w3 hown3 hg3 hat hlt3))
            go_roundw
            case rel =>
              have hne : some w.heap.size ≠ v.ownBlock := own_blk_ne HO2.out HR2.out (by decide)
              have hne2 : some (w.heap.size + 1 + 1) ≠ v.ownBlock := own_blk_ne HO2.out (HZ.out.grown HG2.out (by simp; omega)) (by decide)
              refine ⟨k + 1, _, by omega, by go_num, rfl, ?_, (Blk.grown (Blk.alloc (HZ.out.grown HG2.out (by simp; omega)) _) hg3 hne2), ?_, ((HB.out.grown HG2.out hwr (fun j hj => by cases hj; omega)).alloc (by omega) _).grown hg3 (by simp; omega) (fun j hj => (HO2.out.lt j hj).1)⟩
              · rw [HST.out]; exact Blk.grown (Blk.alloc HR2.out _) hg3 hne
              · rw [HST.out]
                simp only [Bool.false_eq_true, if_false, if_true, List.length_append, List.length_singleton, chC_snoc]
                exact hown3
            case measure => simp [intOf]; omega
        · rw [if_neg hin] at hst
          have HST := Lib.hid hst
          have hif : P.inn k = false := by simpa using hin
          rw [hif] at hci
          have HIN := Lib.hid hif
          clear hst hin hif
          have HK := Lib.hid (wait_any P w.heap.size k (A k) wr hR hk4 (by have := HGP.out k hk4; unfold good1 at this; omega) (by have := HGP.out k hk4; unfold good1 at this; omega))
          generalize hs1 : (wait1 P k (A k)).1 = P1 at *
          generalize hs2 : (wait1 P k (A k)).2 = out at *
          have HR := Lib.hid hR
          have HZ := Lib.hid hZ
          have HO := Lib.hid hO
          have HB := Lib.hid hB
          have hwr := hB.size
          clear hs1 hs2 hR hZ hO hB
          cases out with
          | false =>
            go_wp2_with (first | (go_at_call 61; (with_reducible refine HK.out.mono ?_); rintro e w2 ⟨rfl, hR2, hg2⟩; have HR2 := Lib.hid hR2; have HG2 := Lib.hid hg2; clear hR2 hg2))
            go_roundw
            case rel =>
              refine ⟨k + 1, _, by omega, by go_num, rfl, ?_, (HZ.out.grown HG2.out (by simp; omega)), ?_, HB.out.grown HG2.out hwr (fun j hj => by cases hj; omega)⟩
              · rw [HST.out]; exact HR2.out
              · rw [HST.out]
                exact HO.out.kept HG2.out (.inr (fun e => own_blk_ne HO.out HR.out (by decide) e.symm))
            case measure => simp [intOf]; omega
          | true =>
            go_wp2_with (first | (go_at_call 61; (with_reducible refine HK.out.mono ?_); rintro e w2 ⟨rfl, hR2, hg2⟩; have HR2 := Lib.hid hR2; have HG2 := Lib.hid hg2; have hw2 := hg2.size; have HO2 := Lib.hid (HO.out.kept hg2 (.inr (fun e => own_blk_ne HO.out HR.out (by decide) e.symm))); clear hR2 hg2) | (at_builtin; go_loud (refine wpList_append_lies _ rfl _ _ 105 rfl w.heap.size 128 i0 (.agg #[.int .i64 0, .int .i64 0]) 2 16 Try.underlying105 hi0 hz0 hz1 hz2 rfl (by decide) v _ _ rfl (HO2.out.alloc _) ⟨w2.heap.size, 0, none⟩ 1 1 [.int .i64 2, .int .i64 (k : Nat)] rfl rfl (World.news_of_block (heap_alloc_new _ _)) (by intro u hu; simp at hu; rcases hu with rfl | rfl <;> rfl) (by decide) (by unfold maxLen; omega) (by omega) (by simp; omega) (w2.heap.size + 1) (by simp) ?_); intro g' cap w3 hown3 hg3 hat hlt3))
            go_roundw
            case rel =>
              have hne : some w.heap.size ≠ v.ownBlock := own_blk_ne HO2.out HR2.out (by decide)
              have hne2 : some (w.heap.size + 1 + 1) ≠ v.ownBlock := own_blk_ne HO2.out (HZ.out.grown HG2.out (by simp; omega)) (by decide)
              refine ⟨k + 1, _, by omega, by go_num, rfl, ?_, (Blk.grown (Blk.alloc (HZ.out.grown HG2.out (by simp; omega)) _) hg3 hne2), ?_, ((HB.out.grown HG2.out hwr (fun j hj => by cases hj; omega)).alloc (by omega) _).grown hg3 (by simp; omega) (fun j hj => (HO2.out.lt j hj).1)⟩
              · rw [HST.out]; exact Blk.grown (Blk.alloc HR2.out _) hg3 hne
              · rw [HST.out]
                simp only [Bool.false_eq_true, if_false, if_true, List.length_append, List.length_singleton, chC_snoc]
                exact hown3
            case measure => simp [intOf]; omega
      · obtain rfl : k = 4 := by omega
        have HR := Lib.hid hR
        have HZ := Lib.hid hZ
        have HO := Lib.hid hO
        have HB := Lib.hid hB
        have hwr := hB.size
        clear hR hZ hO hB
        go_wp2_with (first
          | (refine wpList_load_roww rfl 38 (.tmp 2) rfl w.heap.size rfl _ (rollC (stepTo R A 4).1) _ HR.out Try.underlying38 rfl (by kernel_rfl) ?_)
          | (refine wpList_store_blk rfl 38 (.tmp 4) (.tmp 54) rfl (w.heap.size + 1 + 1) _ _ (rollC (stepTo R A 4).1) rfl rfl HZ.out rfl (by kernel_rfl) (rollC_one _) ?_; intro w2 hR2 hg2))
        refine bodyPost_ret (step_results hR2 _ _ rfl rfl rfl) rfl ⟨_, rfl, ?_, ?_⟩
        · exact HO.out.kept hg2 (.inr (fun e => own_blk_ne HO.out HZ.out (by decide) e.symm))
        · exact HB.out.grown hg2 hwr (fun j hj => by cases hj; omega)
end Go.Proofs.Ytofeoeknmlkjgaa
end
section
/- member.Step of a roll that is not good. -/
set_option linter.unusedVariables false
namespace Go.Proofs.Ytofeoeknmlkjgaa
open Go.RowKit Mb

theorem step_results3 {W : World} {g : Nat} {R : Rl} (h : RB W g R) (v u : Value) (tmps : Array Value) (h4 : tmps.getD 4 undef = .pointer (some ⟨g, 0, none⟩)) (h5 : tmps.getD 5 undef = v) (h6 : tmps.getD 6 undef = u) :
    (results Try.f45 tmps).run Try.prog W = .ok (.tuple #[.agg (rollC R), v, u]) W := by
  have h4' : tmps[4]?.getD undef = .pointer (some ⟨g, 0, none⟩) := by simpa using h4
  have h5' : tmps[5]?.getD undef = v := by simpa using h5
  have h6' : tmps[6]?.getD undef = u := by simpa using h6
  simp [results, Try.results45, h4', h5', h6', asAddr, run_loadVar_row (P := Try.prog) W g _ 38 (rollC R) (0, 0) _ h Try.underlying38 rfl (by kernel_rfl)]
set_option maxRecDepth 100000 in
set_option maxHeartbeats 4000000 in
theorem Step_bad (R : Rl) (vv : Int) (st : Bool) (ad : Addr) (c : Nat) (w : World) (hG : ¬ Mb.Good R) :
    Calls Try.prog 45 #[.agg (rollC R), .agg #[.int .i64 vv, .bool st, .slice (some ad) 4 c]] w fun e w' => e = .returned (.tuple #[.agg (rollC R0), .slice none 0 0, .int .i64 3]) ∧ Below w.heap.size w w' := by
  have q0 : RB (((w.alloc (.cells (rollC R) 38)).alloc (.cells #[.int .i64 vv, .bool st, .slice (some ad) 4 c] 43)).alloc (.cells (rollC R0) 38)) w.heap.size R := ((Blk.at_ _ _ _ _ rfl).alloc _).alloc _
  have q2 : RB (((w.alloc (.cells (rollC R) 38)).alloc (.cells #[.int .i64 vv, .bool st, .slice (some ad) 4 c] 43)).alloc (.cells (rollC R0) 38)) (w.heap.size + 1 + 1) R0 := Blk.at_ _ _ _ _ (by simp)
  have qB : Below w.heap.size w (((w.alloc (.cells (rollC R) 38)).alloc (.cells #[.int .i64 vv, .bool st, .slice (some ad) 4 c] 43)).alloc (.cells (rollC R0) 38)) := (((Below.refl _ _).alloc (by omega) _).alloc (by simp) _).alloc (by simp; omega) _
  have Q0 := Lib.hid q0
  have Q2 := Lib.hid q2
  have QB := Lib.hid qB
  have HGd := Lib.hid hG
  clear q0 q2 qB hG
  go_enter Try.func45, Try.ntmps45
  have k1 := fun W => good_any R W
  have K1 := Lib.hid k1
  clear k1
  go_wp2_with (first
    | (refine wpList_load_roww rfl 38 (.tmp 2) rfl w.heap.size rfl _ (rollC R) _ Q0.out Try.underlying38 rfl (by kernel_rfl) ?_)
    | (go_at_call 14; (with_reducible refine (K1.out _).mono ?_); rintro e w1 ⟨gb, rfl, hgb, hB1⟩; obtain rfl : gb = false := (by cases gb with | false => rfl | true => exact absurd (hgb.1 rfl) HGd.out); have N2 := Lib.hid (RB.next Q2.out hB1); have NB := Lib.hid (QB.out.trans (hB1.mono (Nat.le_trans (by simp; omega) (Nat.le_refl _)))); clear hB1 hgb)
    | (refine wpList_store_blk rfl 38 (.tmp 4) (.tmp 18) rfl (w.heap.size + 1 + 1) _ _ (rollC R0) rfl rfl N2.out rfl (by kernel_rfl) (rollC_one R0) ?_; intro w2 hR2 hg2))
  refine bodyPost_ret (v := .tuple #[.agg (rollC R0), .slice none 0 0, .int .i64 3]) (step_results3 hR2 _ _ _ rfl rfl rfl) rfl ⟨rfl, ?_⟩
  exact NB.out.grown hg2 (by have := NB.out.size; omega) (fun j hj => by cases hj; omega)
end Go.Proofs.Ytofeoeknmlkjgaa
end
