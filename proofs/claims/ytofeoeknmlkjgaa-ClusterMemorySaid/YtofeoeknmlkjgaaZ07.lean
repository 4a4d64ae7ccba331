/- Merged: Member. -/
import Derived.BigRegion
import Derived.Test.YtofeoeknmlkjgaaProg
import Derived.Test.YtofeoeknmlkjgaaZ04
import Derived.Test.YtofeoeknmlkjgaaZ06
set_option linter.unusedVariables false
set_option linter.unusedSimpArgs false
section
/- The roll as data; the contracts of member.Count, Good, Begin, stay, wait. -/
set_option linter.unusedVariables false
namespace Go.Proofs.Ytofeoeknmlkjgaa
open Go.RowKit

namespace Mb
def upd {α : Type} (f : Nat → α) (k : Nat) (x : α) : Nat → α := fun i => if i = k then x else f i
structure Rl where
  inn : Nat → Bool
  miss : Nat → Int
  join : Nat → Int
def rcell (R : Rl) (i : Nat) : Value := if i < 4 then .bool (R.inn i) else if i < 8 then .int .i64 (R.miss (i - 4)) else .int .i64 (R.join (i - 8))
def rollC (R : Rl) : Array Value := #[.bool (R.inn 0), .bool (R.inn 1), .bool (R.inn 2), .bool (R.inn 3), .int .i64 (R.miss 0), .int .i64 (R.miss 1), .int .i64 (R.miss 2), .int .i64 (R.miss 3),
  .int .i64 (R.join 0), .int .i64 (R.join 1), .int .i64 (R.join 2), .int .i64 (R.join 3)]
theorem rollC_eq (R : Rl) : AN 12 (rcell R) = rollC R := rfl
theorem rollC_one (R : Rl) : (rollC R).all (·.oneCell') = true := by simp [rollC, Value.oneCell']
def cntIn (R : Rl) : Nat → Nat
  | 0 => 0
  | k + 1 => cntIn R k + if R.inn k then 1 else 0
theorem cntIn_le (R : Rl) : ∀ k, cntIn R k ≤ k
  | 0 => Nat.le_refl _
  | k + 1 => by have := cntIn_le R k; unfold cntIn; split <;> omega
def good1 (R : Rl) (i : Nat) : Prop := 0 ≤ R.miss i ∧ R.miss i ≤ 2 ∧ 0 ≤ R.join i ∧ R.join i < 3 ∧ (R.inn i = true → R.join i = 0) ∧ (R.inn i = false → R.miss i = 0)
def Good (R : Rl) : Prop := ∀ i, i < 4 → good1 R i
def stay1 (R : Rl) (i : Nat) (a : Bool) : Rl × Bool :=
  if a = true then (⟨R.inn, upd R.miss i 0, R.join⟩, false)
  else if R.miss i + 1 < 2 ∨ cntIn R 4 ≤ 2 then (⟨R.inn, upd R.miss i (min (R.miss i + 1) 2), R.join⟩, false)
  else (⟨upd R.inn i false, upd R.miss i 0, upd R.join i 0⟩, true)
def wait1 (R : Rl) (i : Nat) (a : Bool) : Rl × Bool :=
  if a = false then (⟨R.inn, R.miss, upd R.join i 0⟩, false)
  else if R.join i + 1 < 3 then (⟨R.inn, R.miss, upd R.join i (R.join i + 1)⟩, false)
  else (⟨upd R.inn i true, upd R.miss i 0, upd R.join i 0⟩, true)
end Mb
open Mb

def RB (W : World) (g : Nat) (R : Rl) : Prop := Blk W g 38 (rollC R)
section
variable {W W' : World} {g k : Nat} {R : Rl}
theorem RB.next (h : RB W g R) (hb : Below W.heap.size W W') : RB W' g R := Blk.next h hb
theorem RB.drewN (h : RB W g R) (n : Nat) : RB (W.drewN n) g R := h
theorem RB.inn (h : RB W g R) (hk : k < 4) : W.cell? ⟨g, k, none⟩ = some (.bool (R.inn k)) := by
  have := (Blk.cell h k).trans (by rw [← rollC_eq, AN_get (by omega)])
  rw [this]; unfold rcell; rw [if_pos hk]
theorem RB.inn4 (h : RB W g R) : W.cell? ⟨g, 0, none⟩ = some (.bool (R.inn 0)) ∧ W.cell? ⟨g, 1, none⟩ = some (.bool (R.inn 1)) ∧ W.cell? ⟨g, 2, none⟩ = some (.bool (R.inn 2)) ∧ W.cell? ⟨g, 3, none⟩ = some (.bool (R.inn 3)) :=
  ⟨Blk.cell h 0, Blk.cell h 1, Blk.cell h 2, Blk.cell h 3⟩
theorem RB.miss (h : RB W g R) (hk : k < 4) : W.cell? ⟨g, 4 + k, none⟩ = some (.int .i64 (R.miss k)) := by
  have := (Blk.cell h (4 + k)).trans (by rw [← rollC_eq, AN_get (by omega)])
  rw [this]; unfold rcell; rw [if_neg (by omega), if_pos (by omega), show 4 + k - 4 = k by omega]
theorem RB.join (h : RB W g R) (hk : k < 4) : W.cell? ⟨g, 8 + k, none⟩ = some (.int .i64 (R.join k)) := by
  have := (Blk.cell h (8 + k)).trans (by rw [← rollC_eq, AN_get (by omega)])
  rw [this]; unfold rcell; rw [if_neg (by omega), if_neg (by omega), show 8 + k - 8 = k by omega]
theorem RB.free (h : RB W g R) (j : Nat) : W.frozen? ⟨g, j, none⟩ = false := Blk.frozen h j
theorem RB.setInn (h : RB W g R) (hk : k < 4) (b : Bool) : RB (W.setCell ⟨g, k, none⟩ (.bool b)) g ⟨upd R.inn k b, R.miss, R.join⟩ := by
  have h2 := Blk.set_ h k (.bool b)
  rw [← rollC_eq, AN_set] at h2
  unfold RB
  rw [← rollC_eq, AN_congr (g := fun i => if i = k then Value.bool b else rcell R i)]
  · exact h2
  · intro i hi
    unfold rcell upd
    by_cases e : i = k
    · subst e; simp [hk]
    · simp [e]
theorem RB.setMiss (h : RB W g R) (hk : k < 4) (x : Int) : RB (W.setCell ⟨g, 4 + k, none⟩ (.int .i64 x)) g ⟨R.inn, upd R.miss k x, R.join⟩ := by
  have h2 := Blk.set_ h (4 + k) (.int .i64 x)
  rw [← rollC_eq, AN_set] at h2
  unfold RB
  rw [← rollC_eq, AN_congr (g := fun i => if i = 4 + k then Value.int .i64 x else rcell R i)]
  · exact h2
  · intro i hi
    unfold rcell upd
    by_cases e : i = 4 + k
    · subst e
      rw [if_neg (by omega), if_pos (by omega), if_pos (by omega)]
      simp only []
      rw [if_pos (by omega)]
    · rw [if_neg e]
      by_cases e1 : i < 4
      · simp [e1]
      · by_cases e2 : i < 8
        · simp only [e1, e2, if_false, if_true]
          rw [if_neg (by omega)]
        · simp [e1, e2]
theorem RB.setJoin (h : RB W g R) (hk : k < 4) (x : Int) : RB (W.setCell ⟨g, 8 + k, none⟩ (.int .i64 x)) g ⟨R.inn, R.miss, upd R.join k x⟩ := by
  have h2 := Blk.set_ h (8 + k) (.int .i64 x)
  rw [← rollC_eq, AN_set] at h2
  unfold RB
  rw [← rollC_eq, AN_congr (g := fun i => if i = 8 + k then Value.int .i64 x else rcell R i)]
  · exact h2
  · intro i hi
    unfold rcell upd
    by_cases e : i = 8 + k
    · subst e
      rw [if_neg (by omega), if_neg (by omega), if_pos (by omega)]
      simp only []
      rw [if_pos (by omega)]
    · rw [if_neg e]
      by_cases e1 : i < 4
      · simp [e1]
      · by_cases e2 : i < 8
        · simp [e1, e2]
        · simp only [e1, e2, if_false]
          rw [if_neg (by omega)]
end

set_option maxRecDepth 100000 in
theorem idxIn (R : Rl) (k : Nat) (hk : k < 4) (w : World) :
    (Instr.index 35 (.agg #[.bool (R.inn 0), .bool (R.inn 1), .bool (R.inn 2), .bool (R.inn 3)]) (.int .i64 (k : Int))).run Try.prog w = .ok (.bool (R.inn k)) w := by
  match k, hk with
  | 0, _ => rfl
  | 1, _ => rfl
  | 2, _ => rfl
  | 3, _ => rfl

set_option maxRecDepth 100000 in
set_option maxHeartbeats 1000000 in
theorem count_any (R : Rl) (w : World) :
    Calls Try.prog 74 #[.agg (rollC R)] w fun e w' => e = .returned (.int .i64 (cntIn R 4 : Nat)) ∧ Below w.heap.size w w' := by
  have HI := Lib.hid (idxIn R)
  obtain ⟨c0, c1, c2, c3⟩ := RB.inn4 (show RB (w.alloc (.cells (rollC R) 38)) w.heap.size R from Blk.new _ _ _)
  have HB := Lib.hid ((Below.refl w.heap.size w).alloc (Nat.le_refl _) (.cells (rollC R) 38))
  go_enter Try.func74, Try.ntmps74
  go_wp2_with fail
  go_loop [3, 8] (fun t i => ∃ k : Nat, k ≤ 4 ∧ i = .int .i64 k ∧ t = .int .i64 (cntIn R k : Nat)) (fun _ i => 4 - (intOf i).toNat)
  case atStart => exact ⟨0, by omega, rfl, rfl⟩
  case round =>
    obtain ⟨k, hk, rfl, rfl⟩ := hrel
    by_cases hk4 : k < 4
    · have hi := HI.out k hk4
      have hl := cntIn_le R k
      have hs : cntIn R (k + 1) = cntIn R k + if R.inn k then 1 else 0 := rfl
      generalize R.inn k = b at *
      have HS := Lib.hid hs
      clear hs
      cases b
      · go_wp2_with fail
        go_round
        case rel => exact ⟨k + 1, by omega, by go_num, by rw [HS.out]; simp⟩
        case measure => simp [intOf]; omega
      · go_wp2_with fail
        go_round
        case rel => exact ⟨k + 1, by omega, by go_num, by rw [HS.out]; simp⟩
        case measure => simp [intOf]; omega
    · obtain rfl : k = 4 := by omega
      go_wp2_with fail
      go_ret
      exact ⟨rfl, HB.out⟩

def SaysGood (R : Rl) (w : World) (e : Ending) (w' : World) : Prop := ∃ b : Bool, e = .returned (.bool b) ∧ (b = true ↔ Mb.Good R) ∧ Below w.heap.size w w'
set_option maxRecDepth 100000 in
set_option maxHeartbeats 4000000 in
theorem good_any (R : Rl) (w : World) :
    Calls Try.prog 14 #[.agg (rollC R)] w (SaysGood R w) := by
  have hRB : RB (w.alloc (.cells (rollC R) 38)) w.heap.size R := Blk.new _ _ _
  have hB := ((Below.refl w.heap.size w).alloc (Nat.le_refl _) (.cells (rollC R) 38))
  have HR := Lib.hid hRB
  have HB := Lib.hid hB
  clear hRB hB
  go_enter Try.func14, Try.ntmps14
  go_wp2_with fail
  generalize w.alloc (.cells (rollC R) 38) = W at *
  go_loop [4] (fun i => ∃ k : Nat, k ≤ 4 ∧ i = .int .i64 k ∧ (∀ j, j < k → good1 R j)) (fun i => 4 - (intOf i).toNat)
  case atStart => exact ⟨0, by omega, rfl, fun j hj => by omega⟩
  case round =>
    obtain ⟨k, hk, rfl, hG⟩ := hrel
    have HG := Lib.hid hG
    clear hG
    by_cases hk4 : k < 4
    · have ci := HR.out.inn hk4
      have cm := HR.out.miss hk4
      have cj := HR.out.join hk4
      by_cases hg : good1 R k
      · have HGk := Lib.hid hg
        obtain ⟨q0, q1, q2, q3, q4, q5⟩ := hg
        have t0 : decide (R.miss k < 0) = false := by simp; omega
        have t1 : decide (2 < R.miss k) = false := by simp; omega
        have t2 : decide (R.join k < 0) = false := by simp; omega
        have t3 : decide (3 ≤ R.join k) = false := by simp; omega
        generalize R.inn k = b at *
        cases b
        · have q6 := q5 rfl
          have t4 : decide (0 < R.miss k) = false := by simp; omega
          clear q4 q5 q6
          go_wp2_with fail
          go_round
          case rel => exact ⟨k + 1, by omega, by go_num, fun j hj => by by_cases e : j = k; · subst e; exact HGk.out
                                                                        · exact HG.out j (by omega)⟩
          case measure => simp [intOf]; omega
        · have q6 := q4 rfl
          have t4 : decide (0 < R.join k) = false := by simp; omega
          clear q4 q5 q6
          go_wp2_with fail
          go_round
          case rel => exact ⟨k + 1, by omega, by go_num, fun j hj => by by_cases e : j = k; · subst e; exact HGk.out
                                                                        · exact HG.out j (by omega)⟩
          case measure => simp [intOf]; omega
      · have NG := Lib.hid hg
        unfold good1 at hg
        generalize R.miss k = m at *
        generalize R.join k = j at *
        by_cases a0 : m < 0
        · go_wp2_with fail
          go_ret
          exact ⟨false, rfl, ⟨fun h => by (cases h), fun h => absurd (h k hk4) NG.out⟩, HB.out⟩
        by_cases a1 : 2 < m
        · go_wp2_with fail
          go_ret
          exact ⟨false, rfl, ⟨fun h => by (cases h), fun h => absurd (h k hk4) NG.out⟩, HB.out⟩
        by_cases a2 : j < 0
        · go_wp2_with fail
          go_ret
          exact ⟨false, rfl, ⟨fun h => by (cases h), fun h => absurd (h k hk4) NG.out⟩, HB.out⟩
        by_cases a3 : 3 ≤ j
        · go_wp2_with fail
          go_ret
          exact ⟨false, rfl, ⟨fun h => by (cases h), fun h => absurd (h k hk4) NG.out⟩, HB.out⟩
        generalize R.inn k = b at *
        cases b
        · have a4 : 0 < m := by
            by_cases h : 0 < m
            · exact h
            · exact absurd ⟨by omega, by omega, by omega, by omega, fun h => by (cases h), fun _ => by omega⟩ hg
          clear hg
          go_wp2_with fail
          go_ret
          exact ⟨false, rfl, ⟨fun h => by (cases h), fun h => absurd (h k hk4) NG.out⟩, HB.out⟩
        · have a4 : 0 < j := by
            by_cases h : 0 < j
            · exact h
            · exact absurd ⟨by omega, by omega, by omega, by omega, fun _ => by omega, fun h => by (cases h)⟩ hg
          clear hg
          go_wp2_with fail
          go_ret
          exact ⟨false, rfl, ⟨fun h => by (cases h), fun h => absurd (h k hk4) NG.out⟩, HB.out⟩
    · obtain rfl : k = 4 := by omega
      go_wp2_with fail
      go_ret
      exact ⟨true, rfl, ⟨fun _ => HG.out, fun _ => rfl⟩, HB.out⟩
end Go.Proofs.Ytofeoeknmlkjgaa
end
