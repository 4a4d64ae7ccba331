/- A step of the roll, in plain Lean. -/
import Derived.Test.YtllgjbjcdenchaaMember2
set_option linter.unusedVariables false
namespace Go.Proofs.Ytllgjbjcdenchaa.Mb
open Go.RowKit

/-- behind the first k verdicts: the roll, and who was put out (1) or let in (2) -/
def stepTo (R : Rl) (A : Nat → Bool) : Nat → Rl × List (Int × Int)
  | 0 => (R, [])
  | k + 1 =>
    if (stepTo R A k).1.inn k = true then
      ((stay1 (stepTo R A k).1 k (A k)).1, if (stay1 (stepTo R A k).1 k (A k)).2 = true then (stepTo R A k).2 ++ [(1, (k : Int))] else (stepTo R A k).2)
    else
      ((wait1 (stepTo R A k).1 k (A k)).1, if (wait1 (stepTo R A k).1 k (A k)).2 = true then (stepTo R A k).2 ++ [(2, (k : Int))] else (stepTo R A k).2)
theorem upd_same {α : Type} (f : Nat → α) (k : Nat) (x : α) : upd f k x k = x := by unfold upd; rw [if_pos rfl]
theorem upd_far {α : Type} (f : Nat → α) {k j : Nat} (x : α) (h : j ≠ k) : upd f k x j = f j := by unfold upd; rw [if_neg h]
theorem good_upd {R R' : Rl} {k : Nat} (h : Good R) (hk : good1 R' k) (hf : ∀ j, j ≠ k → R'.inn j = R.inn j ∧ R'.miss j = R.miss j ∧ R'.join j = R.join j) : Good R' := by
  intro j hj
  by_cases e : j = k
  · subst e; exact hk
  · obtain ⟨a, b, c⟩ := hf j e
    have := h j hj
    unfold good1 at this ⊢
    rw [a, b, c]
    exact this
theorem stay_good {R : Rl} {k : Nat} {a : Bool} (h : Good R) (hk : k < 4) (hi : R.inn k = true) : Good (stay1 R k a).1 := by
  obtain ⟨q0, q1, q2, q3, q4, q5⟩ := h k hk
  have qj := q4 hi
  unfold stay1
  by_cases ha : a = true
  · rw [if_pos ha]
    refine good_upd h ?_ (fun j hj => ⟨rfl, upd_far _ _ hj, rfl⟩)
    unfold good1
    simp only [upd_same, hi]
    refine ⟨?_, ?_, ?_, ?_, ?_, ?_⟩ <;> (try intro _) <;> first | omega | rfl | (simp_all; done)
  · rw [if_neg ha]
    by_cases hc : R.miss k + 1 < 2 ∨ cntIn R 4 ≤ 2
    · rw [if_pos hc]
      refine good_upd h ?_ (fun j hj => ⟨rfl, upd_far _ _ hj, rfl⟩)
      unfold good1
      simp only [upd_same, hi]
      refine ⟨?_, ?_, ?_, ?_, ?_, ?_⟩ <;> (try intro _) <;> first | omega | rfl | (simp_all; done)
    · rw [if_neg hc]
      refine good_upd h ?_ (fun j hj => ⟨upd_far _ _ hj, upd_far _ _ hj, upd_far _ _ hj⟩)
      unfold good1
      simp only [upd_same]
      refine ⟨?_, ?_, ?_, ?_, ?_, ?_⟩ <;> (try intro _) <;> first | omega | rfl | (simp_all; done)
theorem wait_good {R : Rl} {k : Nat} {a : Bool} (h : Good R) (hk : k < 4) (hi : R.inn k = false) : Good (wait1 R k a).1 := by
  obtain ⟨q0, q1, q2, q3, q4, q5⟩ := h k hk
  have qm := q5 hi
  unfold wait1
  by_cases ha : a = false
  · rw [if_pos ha]
    refine good_upd h ?_ (fun j hj => ⟨rfl, rfl, upd_far _ _ hj⟩)
    unfold good1
    simp only [upd_same, hi]
    refine ⟨?_, ?_, ?_, ?_, ?_, ?_⟩ <;> (try intro _) <;> first | omega | rfl | (simp_all; done)
  · rw [if_neg ha]
    by_cases hc : R.join k + 1 < 3
    · rw [if_pos hc]
      refine good_upd h ?_ (fun j hj => ⟨rfl, rfl, upd_far _ _ hj⟩)
      unfold good1
      simp only [upd_same, hi]
      refine ⟨?_, ?_, ?_, ?_, ?_, ?_⟩ <;> (try intro _) <;> first | omega | rfl | (simp_all; done)
    · rw [if_neg hc]
      refine good_upd h ?_ (fun j hj => ⟨upd_far _ _ hj, upd_far _ _ hj, upd_far _ _ hj⟩)
      unfold good1
      simp only [upd_same]
      refine ⟨?_, ?_, ?_, ?_, ?_, ?_⟩ <;> (try intro _) <;> first | omega | rfl | (simp_all; done)
theorem step_good {R : Rl} {A : Nat → Bool} (h : Good R) : ∀ k, k ≤ 4 → Good (stepTo R A k).1
  | 0, _ => h
  | k + 1, hk => by
    have ih := step_good (A := A) h k (by omega)
    unfold stepTo
    by_cases hi : (stepTo R A k).1.inn k = true
    · rw [if_pos hi]; exact stay_good ih (by omega) hi
    · rw [if_neg hi]; exact wait_good ih (by omega) (by simpa using hi)
theorem step_len {R : Rl} {A : Nat → Bool} : ∀ k, (stepTo R A k).2.length ≤ k
  | 0 => Nat.le_refl _
  | k + 1 => by
    have ih := step_len (R := R) (A := A) k
    unfold stepTo
    by_cases hi : (stepTo R A k).1.inn k = true
    · rw [if_pos hi]; simp only []; split <;> simp <;> omega
    · rw [if_neg hi]; simp only []; split <;> simp <;> omega
/-- a step of the roll by a verdict -/
def stepAll (R : Rl) (A : Nat → Bool) (st : Bool) : Rl × List (Int × Int) := if st = true then stepTo R A 4 else (R, [])
/-- the cells of changes -/
def chC (l : List (Int × Int)) : List Value := l.flatMap fun p => [.int .i64 p.1, .int .i64 p.2]
theorem chC_len (l : List (Int × Int)) : (chC l).length = l.length * 2 := by
  unfold chC
  induction l with
  | nil => rfl
  | cons p l ih => rw [List.flatMap_cons, List.length_append, ih, List.length_cons]; simp; omega
theorem chC_snoc (l : List (Int × Int)) (p : Int × Int) : chC (l ++ [p]) = chC l ++ [.int .i64 p.1, .int .i64 p.2] := by
  unfold chC; rw [List.flatMap_append]; rfl
def R0 : Rl := ⟨fun _ => false, fun _ => 0, fun _ => 0⟩
end Go.Proofs.Ytllgjbjcdenchaa.Mb
